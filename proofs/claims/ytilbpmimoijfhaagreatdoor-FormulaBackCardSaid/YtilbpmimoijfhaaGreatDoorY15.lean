import Derived.Test.YtilbpmimoijfhaaGreatDoorY13
namespace Go.Proofs.YtilbpmimoijfhaaGreatDoor
set_option linter.all false
set_option maxRecDepth 100000
set_option maxHeartbeats 16000000
open Go.RowKit Go.Proofs.Tryz
section
attribute [local go_sem] Dc.Res.val
def yej (k:Int) (w:World) (a:0<=k/\k<=1000000000):Calls prog 114 #[.string ⟨#[48]⟩,.int .i64 k] w (RetB (.string ⟨(Lib.repeatL [48] k.toNat).toArray⟩) w):=by have:=rep0 k.toNat w aG;rwa[Int.toNat_of_nonneg a.1] at this
def ys2 (n:Bool) (s:ByteArray) (x k way:Int) (w:World) (hs:s.size<=1000000) (hd:Dc.dD s.data.toList=true) (hx: -1000000<=x/\x<=1000000) (W: -1000000<=k/\k<=s.size) (N:0<=way/\way<=5):
 Calls prog 141 #[.agg #[.bool n,.string s,.int .i64 x],.int .i64 k,.int .i64 way] w (RetB (Dc.cut n s.data.toList x k way).val w):=by
 obtain⟨kn,jy⟩:=hx;obtain⟨jF,jE⟩:=W;have P:=fun h=>Dc.ynE s k h;obtain⟨Z,hZ⟩:=bx (⟨(Lib.repeatL [48] (max 0 (min (-k) 1)).toNat).toArray⟩:ByteArray);have mV:Z.size<=1:=ycn;have M: ∀ m w,m=max 0 (min (-k) 1)->Calls prog 114 #[.string ⟨#[48]⟩,.int .i64 m] w (RetB (.string Z) w):=fun m w hm=>by rw[hm,hZ];exact yej _ w aG
 obtain⟨S,HZ,ZW⟩:=iJ M hZ P;clear M hZ P;have oN: ∀ w:World,(Op.stringOp .add Z s).run prog w= .ok (.string (Z++s)) w:=fun w=>run_string_add_sum w Z s aG;have GG:IntKind.i64.wrap (-k)= -k:=P7 _ aG;by_cases V:k<=0
 ·go_enter func141,ntmps141
  go_wp2_with fail
  go_region_held3 (fun w'=>w'.cell? ⟨w.heap.size,1,none⟩=some (.string s)) (first|go_keep|(rw[ag];simp[go_sem])) (first|(go_at_call 114;(with_reducible refine(S.out _ _ aG).mono ?_);rintro e T ⟨rfl,ab⟩;refine tE ?_;intro ao ay az af ai am al aj ag ap;obtain⟨B,y,z,A,C,ci⟩:=own6 ab (w.heap.size+1)))
  have hU:Dc.up n (s.data.toList.take k.toNat) (if k<0 then 48::s.data.toList else s.data.toList.drop k.toNat) way=Dc.up n [] (Z.data.toList++s.data.toList) way:=by have e:=dZ (fun b:ByteArray=>b.data.toList) (ZW.out V);simp only[<-HZ.out] at e;rw[show k.toNat=0 by omega,wh,<-show k.toNat=0 by omega];congr 1;rw[<-e];simp
  have d:Dc.cut n s.data.toList x k way=Dc.mk n (if Dc.up n (s.data.toList.take k.toNat) (if k<0 then 48::s.data.toList else s.data.toList.drop k.toNat) way=true then Dc.more [] else[]) (x+s.size-k):=by rw[Dc.cut,dN,show List.take k.toNat s.data.toList=[] by rw[show k.toNat=0 by omega,wh]]
  obtain⟨Q,D⟩:=dY hU d;clear hU d;have a:(⟨#[]⟩:ByteArray).size <=1000000000:=bL;have E:Dc.dD (⟨#[]⟩:ByteArray).data.toList =true:=bL;have G:(⟨(Dc.more (⟨#[]⟩:ByteArray).data.toList).toArray⟩:ByteArray).size <=1000000000:=tX;have J: -9223372036854775808<=x+(s.size:Int)-k/\x+(s.size:Int)-k<=9223372036854775807:=aG;go_wp2_with (first|(go_at_call 180;refine cY (ylp _ _ _ _ _ a N) ?_)|(go_at_call 181;refine cp (yjm _ _ a E) ?_;refine zC ?_;intro w2 aa aI aO aN ah aA aF aE aD au aJ bA bE bD bC aZ bW)|(go_at_call 158;(with_reducible refine(yaN _ _ _ _ (by first|exact a|exact G) J).mono ?_);refine yT ?_;intro w3 L dO X Y bK o q r t u gK;obtain⟨i,j,l,f,g,U⟩:=own6 L (w.heap.size+1)))
  ·have c:Dc.up n [] (Z.data.toList++s.data.toList) way=true:=lI;(refine eB (v:=Dc.Res.val (Dc.mk n (Dc.more []) (x+(s.size:Int)-k))) (by(simp[results,results141,go_sem,Dc.Res.val,ag,ai,am,al,aj,C,B,y,z,A,au,aA,aF,aE,aD,aZ,bA,bE,bD,bC,u,o,q,r,t,g,i,j,l,f];done)) rfl (RetB.of (by rw[D.out,bT (by rw[Q.out];exact c)]) dt))
  ·have c:Dc.up n [] (Z.data.toList++s.data.toList) way=false:=lI;(refine eB (v:=Dc.Res.val (Dc.mk n [] (x+(s.size:Int)-k))) (by(simp[results,results141,go_sem,Dc.Res.val,ag,ai,am,al,aj,C,B,y,z,A,u,o,q,r,t,g,i,j,l,f];done)) rfl (RetB.of (by rw[D.out,bv (by rw[Q.out,c];simp)]) dt))
 ·obtain⟨m,rfl⟩: ∃ m:Nat,k=m:=⟨k.toNat,by omega⟩;have F:(s.extract 0 m).data.toList =s.data.toList.take m:=by rw[SK,sc,zF]
  have O:(s.extract m s.size).data.toList =s.data.toList.drop m:=vL s m;have a:(s.extract 0 m).size <=1000000000:=by rw[LM];omega
  have E:Dc.dD (s.extract 0 m).data.toList =true:=by rw[F];exact Dc.zt hd m
  have G:(⟨(Dc.more (s.extract 0 m).data.toList).toArray⟩:ByteArray).size <=1000000000:=by rw[nm,F];have:=Dc.yiN (s.data.toList.take m);rw[nn,dN] at this;omega
  have J: -9223372036854775808<=x+(s.size:Int)-m/\x+(s.size:Int)-m<=9223372036854775807:=aG
  have d:Dc.cut n s.data.toList x m way=Dc.mk n (if Dc.up n (s.extract 0 m).data.toList (s.extract m s.size).data.toList way=true then Dc.more (s.extract 0 m).data.toList else(s.extract 0 m).data.toList) (x+s.size-m):=by
   have e0:(if(m:Int)<0 then 48::s.data.toList else s.data.toList.drop (m:Int).toNat)=s.data.toList.drop m:=by rw[bv aG,jJ]
   unfold Dc.cut;simp only[e0];rw[dN,F,O,jJ]
  obtain⟨K,H⟩:=bx (s.extract 0 m);obtain⟨R,I⟩:=bx (s.extract m s.size);rw[<-H] at a E G d;rw[<-I] at d
  have kC: ∀ w:World,(Instr.slice 9 (.string s) none (some (.int .i64 m)) none).run prog w= .ok (.string K) w:=fun w=>by rw[H,yaq w _ s .i64 m underlying9,bT aG,jJ]
  have RC: ∀ w:World,(Instr.slice 9 (.string s) (some (.int .i64 m)) none none).run prog w= .ok (.string R) w:=fun w=>by rw[I,zi w _ s .i64 m underlying9,bT aG,jJ]
  have D:=aL d;clear d H I F O;go_enter func141,ntmps141
  go_wp2_with fail
  go_region_held3 (fun w'=>w'.cell? ⟨w.heap.size,1,none⟩=some (.string s)) (first|go_keep|(rw[ag];simp[go_sem])) (first|(go_at_call 114;(with_reducible refine(S.out _ _ aG).mono ?_);rintro e T ⟨rfl,ab⟩;refine tE ?_;intro ao ay az af ai am al aj ag ap;obtain⟨B,y,z,A,C,ci⟩:=own6 ab (w.heap.size+1)))
  go_wp2_with fail
  go_quiet (fail)
  go_wp2_with (first|(go_at_call 180;refine cY (ylp _ _ _ _ _ a N) ?_)|(go_at_call 181;refine cp (yjm _ _ a E) ?_;refine zC ?_;intro w2 aa aI aO aN ah aA aF aE aD au aJ bA bE bD bC aZ bW)|(go_at_call 158;(with_reducible refine(yaN _ _ _ _ (by first|exact a|exact G) J).mono ?_);refine yT ?_;intro w3 L dO X Y bK o q r t u gK;obtain⟨i,j,l,f,g,U⟩:=own6 L (w.heap.size+1)))
  ·have c:Dc.up n K.data.toList R.data.toList way=true:=lI;(refine eB (v:=Dc.Res.val (Dc.mk n (Dc.more K.data.toList) (x+(s.size:Int)-m))) (by(simp[results,results141,go_sem,Dc.Res.val,ag,ai,am,al,aj,C,B,y,z,A,au,aA,aF,aE,aD,aZ,bA,bE,bD,bC,u,o,q,r,t,g,i,j,l,f];done)) rfl (RetB.of (by rw[D.out,bT c]) dt))
  ·have c:Dc.up n K.data.toList R.data.toList way=false:=lI;(refine eB (v:=Dc.Res.val (Dc.mk n K.data.toList (x+(s.size:Int)-m))) (by(simp[results,results141,go_sem,Dc.Res.val,ag,ai,am,al,aj,C,B,y,z,A,u,o,q,r,t,g,i,j,l,f];done)) rfl (RetB.of (by rw[D.out,bv (by rw[c];simp)]) dt))
def ytw {n:Bool} {l:Dc.Bs} {x k way:Int} (h: ¬ (Dc.right l x=true/\0<=way/\way<=5/\1<=k)):Dc.sig n l x k way=⟨false,[],0,1⟩:=by rw[Dc.sig,bv h]
def yp8 {n:Bool} {l:Dc.Bs} {x k way:Int} (h:Dc.right l x=true/\0<=way/\way<=5/\1<=k) (a:l.length<=k):Dc.sig n l x k way=⟨n,l,x,0⟩:=by rw[Dc.sig,bT h,bT a]
def ysA {n:Bool} {l:Dc.Bs} {x k way:Int} (h:Dc.right l x=true/\0<=way/\way<=5/\1<=k) (a: ¬ l.length<=k):Dc.sig n l x k way=Dc.cut n l x k way:=by rw[Dc.sig,bT h,bv a]
def yv2 (n:Bool) (s:ByteArray) (x k way:Int) (w:World) (y:s.size<=1000000) (hx: -9223372036854775808<=x/\x<=9223372036854775807) (z: -9223372036854775808<=k/\k<=9223372036854775807):
 Calls prog 110 #[.agg #[.bool n,.string s,.int .i64 x],.int .i64 k,.int .i64 way] w (RetB (Dc.sig n s.data.toList x k way).val w):=by
 obtain⟨R,S⟩:=z;have c:=fun w=>EE n s x w aG;by_cases a:Dc.right s.data.toList x=true/\0<=way/\way<=5/\1<=k
 ·obtain⟨e,C,B,T⟩:=id a;have A:=Dc.sj e;have t:=Dc.yu e;rw[e] at c;obtain⟨d,u,O⟩:=iJ c a t;clear c a e t;by_cases hl:(s.size:Int)<=k
  ·have hm:=yp8 (n:=n) u.out (by rw[dN];exact hl);have f:=aL hm;clear hm;go_enter func110,ntmps110
   go_wp2_with (go_at_call 112;refine cp (d.out _) ?_;refine zC ?_;intro g r o l j q ai am al aj ag m be bh bg bf aV i)
   (refine eB (v:= .tuple #[.agg #[.bool n,.string s,.int .i64 x],.int .i64 0]) yd4 rfl (RetB.of (dZ Dc.Res.val f.out).symm dt))
  ·have hm:=ysA (n:=n) u.out (by rw[dN];exact hl);have hcut:=fun w=>ys2 n s x k way w y O.out aG aG ⟨C,B⟩;rw[<-hm] at hcut;have P:=aL hcut;clear hm hcut;go_enter func110,ntmps110
   go_wp2_with (first|(go_at_call 112;refine cp (d.out _) ?_;refine zC ?_;intro g r o l j q ai am al aj ag m be bh bg bf aV i)|(go_at_call 141;refine cp (P.out _) ?_;refine zC ?_;intro w3 Z X U V Y I J K L M W F G H D E Q))
   (refine eB (v:=Dc.Res.val (Dc.sig n s.data.toList x k way)) (by(simp[results,results110,go_sem,Dc.Res.val,ag,ai,am,al,aj,aV,be,bh,bg,bf,M,I,J,K,L,E,F,G,H,D];done)) rfl (RetB.of rfl dt))
 ·have hm:=ytw (n:=n) a;obtain⟨b,hb⟩:=bx (Dc.right s.data.toList x);rw[<-hb] at c a;obtain⟨d,f⟩:=dY c hm;clear c hm hb;cases b
  ·clear a;go_enter func110,ntmps110
   go_wp2_with (go_at_call 112;refine cp (d.out _) ?_;refine zC ?_;intro g r o l j q ai am al aj ag m be bh bg bf aV i)
   all_goals(refine eB (v:= .tuple #[.agg #[.bool false,.string ⟨#[]⟩,.int .i64 0],.int .i64 1]) yd4 rfl (RetB.of (dZ Dc.Res.val f.out).symm dt))
  ·have hn: ¬ (0<=way/\way<=5/\1<=k):=fun h=>a ⟨rfl,h⟩;have N:=aL hn;clear a hn;go_enter func110,ntmps110
   go_wp2_with (go_at_call 112;refine cp (d.out _) ?_;refine zC ?_;intro g r o l j q ai am al aj ag m be bh bg bf aV i)
   all_goals first
    |(exfalso;exact N.out aG)
    |(refine eB (v:= .tuple #[.agg #[.bool false,.string ⟨#[]⟩,.int .i64 0],.int .i64 1]) yd4 rfl (RetB.of (dZ Dc.Res.val f.out).symm dt))
end
end Go.Proofs.YtilbpmimoijfhaaGreatDoor
