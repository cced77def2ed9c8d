import Derived.Test.YtilbpmimoijfhaaGreatDoorY15
namespace Go.Proofs.YtilbpmimoijfhaaGreatDoor
set_option linter.all false
set_option maxRecDepth 100000
set_option maxHeartbeats 16000000
open Go.RowKit Go.Proofs.Tryz
section
attribute [local go_sem] Dc.Res.val
def box3 {w d:World} {a b c:Value} {t:TypeId} {B:Nat} (hb:Below B (w.alloc (.cells #[a,b,c] t)) d) (e:w.heap.size<B):
 d.cell? ⟨w.heap.size,0,none⟩=some a/\d.cell? ⟨w.heap.size,1,none⟩=some b/\d.cell? ⟨w.heap.size,2,none⟩=some c:=by
 refine⟨?_,?_,?_⟩<;>(rw[hb.cell (p:=⟨w.heap.size,_,none⟩) e];simp[go_sem])
def yso (n:Bool) (s V:ByteArray) (x:Int) (w:World) (hs:s.size<=1100) (hx: -100000<=x/\x<=100000) (hV:V=if n then⟨#[45]⟩ else⟨#[]⟩) (P:Tab w) (z:Dc.right s.data.toList x=true):
 Calls prog 81 #[.agg #[.bool n,.string s,.int .i64 x]] w (RetB (.string ⟨(Dc.body V.data.toList s.data.toList ((s.size:Int)+x)).toArray⟩) w):=by
 have B:=fun w=>EE n s x w aG;rw[z] at B;have o:=fun w=>W3 n s x w aG;have O:Dc.oT s.data.toList x=(s.size:Int)+x:=by rw[Dc.yeF,bT z]
 rw[O] at o;obtain⟨p,A⟩:=bx ((s.size:Int)+x);obtain⟨r,y⟩:=bx (⟨(Dc.body V.data.toList s.data.toList p).toArray⟩:ByteArray);have mK: -100000<=p/\p<=110000:=aG;rw[<-A,<-y];rw[<-A] at o;obtain⟨ig,mM⟩:=mK;have hVs:V.size<=1:=by rw[hV];cases n<;>decide
 have Q:Below w.heap.size w (w.alloc (.cells #[.bool n,.string s,.int .i64 x] 139)):=ek;obtain⟨et,oc,Lz,G,Lt,HT⟩:=ts Q B o y hV P;clear Q B o y hV z A O hx P;go_enter func81,ntmps81
 go_upto_if 10 with (go_at_call 112;refine cp (oc.out _) ?_;intro c T;obtain⟨ao,ay,az,af⟩:=g9 (w.alloc (.cells #[.bool n,.string s,.int .i64 x] 139)) T;(try simp only[fO,gz,fY,gt] at af);obtain⟨ai,am,al,aj,ag,ap⟩:=own6 T (w.heap.size))
 go_cut [3] (fun a wr=>a= .string V/\wr=c)
 case first=>
  have Y:=Lt.out;cases n
  ·have e:V=⟨#[]⟩:=Y;subst e;go_wp2;go_meet;exact⟨rfl,rfl⟩
  ·have e:V=⟨#[45]⟩:=Y;subst e;go_wp2;go_meet;exact⟨rfl,rfl⟩
 case rest=>
  obtain⟨rfl,GH⟩:=hcut;subst GH;obtain⟨k0,k1,k2⟩:=box3 ao cn;go_wp2_with fail
  go_region_held3 (fun w'=>w'.cell? ⟨w.heap.size,0,none⟩=some (.bool n)/\w'.cell? ⟨w.heap.size,1,none⟩=some (.string s)/\w'.cell? ⟨w.heap.size,2,none⟩=some (.int .i64 x)) (first|go_keep|exact box3 C cn) (first|(go_at_call 113;refine cp (Lz.out _) ?_;intro E W;obtain⟨C,aO,aN,ah⟩:=g9 (w.alloc (.cells #[.bool n,.string s,.int .i64 x] 139)) W;(try simp only[fO,gz,fY,gt] at ah);obtain⟨aA,aF,aE,aD,au,aJ⟩:=own6 W (w.heap.size)))
  have k3:=box3 C cn;obtain⟨m0,m1,m2⟩:=k3;clear k0 k1 k2;have kO:=et.out.trans (C.mono cn);by_cases c0:s.size=0
  ·have e0:((s.size:Int)==0)=true:=sb.2 aG
   have b:V++⟨#[48]⟩=r:=by rw[G.out];refine Dc.qR _ _ ?_;rw[Dc.qm,Dc.body,bT (sV.1 (by simpa using c0))]
   obtain⟨HF,p9⟩:=dY b c0;clear c0 b;replace c0:s.size<=0:=by have:=p9.out;omega
   go_wp2
   go_ret
   exact RetB.of (dZ Value.string HF.out) kO
  ·have e0:((s.size:Int)==0)=false:=gN.2 aG;have S:s.data.toList≠[]:=fun e=>c0 SL;have hl:s.data.toList.length=s.size:=dN s;have i:=G.out;rw[Dc.body,bv S,hl] at i;obtain⟨q,HL⟩:=dY i hl;clear i S hl;have iA:0<s.size:=aG;clear c0;by_cases c1:1<=p/\p<=21
   ·obtain⟨c1,c2⟩:=c1;by_cases c3:(s.size:Int)<=p
    ·obtain⟨Z,hZ⟩:=bx (⟨(Lib.repeatL [48] (p-s.size).toNat).toArray⟩:ByteArray);have mV:Z.size<=21:=ycn;have k: ∀ w,Calls prog 114 #[.string ⟨#[48]⟩,.int .i64 (p-s.size)] w (RetB (.string Z) w):=fun w=>by rw[hZ];exact yej _ w aG
     have b:V++s++Z=r:=by rw[q.out,bT ⟨c1,c2,c3⟩];refine Dc.qR _ _ ?_;rw[Dc.qm,Dc.qm,hZ]
     obtain⟨HF,HP⟩:=dY b k;clear b k hZ;have v: ¬ 9223372036854775807<V.size+s.size:=aG;have u: ¬ 9223372036854775807<V.size+s.size+Z.size:=aG;have GG:IntKind.i64.wrap (p-s.size)=p-s.size:=P7 _ aG;exact yiR
    ·have j:(s.extract 0 p.toNat).data.toList =s.data.toList.take p.toNat:=by rw[SK,sc,zF]
     have l:(s.extract p.toNat s.size).data.toList =s.data.toList.drop p.toNat:=vL s p.toNat;obtain⟨K,d⟩:=bx (s.extract 0 p.toNat);obtain⟨R,f⟩:=bx (s.extract p.toNat s.size);have uE:K.size<=1100:=by rw[d,LM];omega
     have kL:R.size<=1100:=by rw[f,LM];omega
     have kC: ∀ w:World,(Instr.slice 9 (.string s) none (some (.int .i64 p)) none).run prog w= .ok (.string K) w:=fun w=>by rw[d,yaq w _ s .i64 p underlying9,bT aG]
     have RC: ∀ w:World,(Instr.slice 9 (.string s) (some (.int .i64 p)) none none).run prog w= .ok (.string R) w:=fun w=>by rw[f,zi w _ s .i64 p underlying9,bT aG]
     have b:V++K++⟨#[46]⟩++R=r:=by rw[q.out,bv (fun h=>c3 h.2.2),bT ⟨c1,c2⟩];refine Dc.qR _ _ ?_;rw[Dc.qm,Dc.qm,Dc.qm,d,f,j,l]
     have HF:=aL b;clear b d f j l;have v: ¬ 9223372036854775807<V.size+K.size:=aG;have u: ¬ 9223372036854775807<V.size+K.size+1:=aG;have F: ¬ 9223372036854775807<V.size+K.size+1+R.size:=aG;go_wp2_with fail
     go_quiet (fail)
     go_wp2
     go_ret
     exact RetB.of (dZ Value.string HF.out) dt
   ·by_cases c2: -5<=p/\p<=0
    ·obtain⟨c3,c4⟩:=c2;obtain⟨Z,hZ⟩:=bx (⟨(Lib.repeatL [48] (-p).toNat).toArray⟩:ByteArray);have mV:Z.size<=21:=ycn;have k: ∀ w,Calls prog 114 #[.string ⟨#[48]⟩,.int .i64 (-p)] w (RetB (.string Z) w):=fun w=>by rw[hZ];exact yej _ w aG
     have b:V++⟨#[48,46]⟩++Z++s=r:=by rw[q.out,bv (fun h=>c1 ⟨h.1,h.2.1⟩),bv c1,bT ⟨c3,c4⟩];refine Dc.qR _ _ ?_;rw[Dc.qm,Dc.qm,Dc.qm,hZ]
     obtain⟨HF,HP⟩:=dY b k;clear b k hZ c1;have v: ¬ 9223372036854775807<V.size+2:=aG;have u: ¬ 9223372036854775807<V.size+2+Z.size:=aG;have F: ¬ 9223372036854775807<V.size+2+Z.size+s.size:=aG;have GG:IntKind.i64.wrap (-p)= -p:=P7 _ aG;exact yiR
    ·have i:=q.out;rw[bv (fun h=>c1 ⟨h.1,h.2.1⟩),bv c1,bv c2] at i;have H:=aL i;have N:p < -5∨21<p:=aG;have D:=aL N;clear i c1 c2 N;obtain⟨K,d⟩:=bx (s.extract 0 1);obtain⟨R,f⟩:=bx (s.extract 1 s.size);have uE:K.size<=1100:=by rw[d,LM];omega
     have kL:R.size<=1100:=by rw[f,LM];omega
     have kC: ∀ w:World,(Instr.slice 9 (.string s) none (some (.int .i64 1)) none).run prog w= .ok (.string K) w:=fun w=>by rw[d,yaq w _ s .i64 1 underlying9,bT aG];rfl
     have RC: ∀ w:World,(Instr.slice 9 (.string s) (some (.int .i64 1)) none none).run prog w= .ok (.string R) w:=fun w=>by rw[f,zi w _ s .i64 1 underlying9,bT aG];rfl
     have j:K.data.toList=s.data.toList.take 1:=by rw[d,SK,sc]
     have l:R.data.toList=s.data.toList.drop 1:=by rw[f];exact vL s 1
     obtain⟨U,hU⟩:=bx (if 1<s.size then V++K++(⟨#[46]⟩++R) else V++K:ByteArray)
     have Ol:U.size<=3000:=by have Yh:(⟨#[46]⟩:ByteArray).size =1:=rfl;rw[hU];split<;>simp only[D3,Yh]<;>omega
     have J:U.data.toList=if 1<s.size then V.data.toList++s.data.toList.take 1++([46]++s.data.toList.drop 1) else V.data.toList++s.data.toList.take 1:=by
      rw[hU];split
      ·rw[Dc.qm,Dc.qm,Dc.qm,j,l]
      ·rw[Dc.qm,j]
     obtain⟨t,X⟩:=dY hU J;clear hU J d f j l;have v: ¬ 9223372036854775807<V.size+K.size:=aG;have u: ¬ 9223372036854775807<1+R.size:=aG;have F: ¬ 9223372036854775807<V.size+K.size+(1+R.size):=aG;have s4: ¬ 9223372036854775807<U.size+2:=aG;have M: ¬ (1<=p/\p<=21):=by have:=D.out;omega
     have L: ¬ (-5<=p/\p<=0):=by have:=D.out;omega
     rcases D.out with hg|hg
     ·obtain⟨I,g⟩:=bx (⟨(Lib.itoa (1-p)).toArray⟩:ByteArray);have jn:I.size<=30:=by rw[g,nm];exact Dc.M2 _ aG
      have m: ∀ c,Below w.heap.size w c->Calls prog 84 #[.int .i64 (1-p)] c (RetB (.string I) c):=fun c hb=>by rw[g];exact yc2 _ c aG aG (HT.out.on hb)
      have b:U++⟨#[101,45]⟩++I=r:=by rw[H.out,bT aG];refine Dc.qR _ _ ?_;rw[Dc.qm,Dc.qm,g,X.out]
      obtain⟨HF,HI⟩:=dY b m;clear b m g M L;have s5: ¬ 9223372036854775807<U.size+2+I.size:=aG;go_upto_if 83 with (fail)
      go_cut [3] (fun a wr=>a= .string U/\wr=E)
      case first=>
       by_cases c9:1<s.size
       ·have hu:=t.out;rw[bT c9] at hu;exact ybJ
       ·have hu:=t.out;rw[bv c9] at hu;exact ybJ
      case rest=>
       exact ykR
     ·obtain⟨I,g⟩:=bx (⟨(Lib.itoa (p-1)).toArray⟩:ByteArray);have jn:I.size<=30:=by rw[g,nm];exact Dc.M2 _ aG
      have m: ∀ c,Below w.heap.size w c->Calls prog 84 #[.int .i64 (p-1)] c (RetB (.string I) c):=fun c hb=>by rw[g];exact yc2 _ c aG aG (HT.out.on hb)
      have b:U++⟨#[101,43]⟩++I=r:=by rw[H.out,bv aG];refine Dc.qR _ _ ?_;rw[Dc.qm,Dc.qm,g,X.out]
      obtain⟨HF,HI⟩:=dY b m;clear b m g M L;have s5: ¬ 9223372036854775807<U.size+2+I.size:=aG;go_upto_if 83 with (fail)
      go_cut [3] (fun a wr=>a= .string U/\wr=E)
      case first=>
       by_cases c9:1<s.size
       ·have hu:=t.out;rw[bT c9] at hu;exact ybJ
       ·have hu:=t.out;rw[bv c9] at hu;exact ybJ
      case rest=>
       exact ykR
def yrK (n:Bool) (s:ByteArray) (x:Int) (w:World) (k:s.size<=1000000) (hx: -9223372036854775808<=x/\x<=9223372036854775807) (d:Tab w):
 Calls prog 81 #[.agg #[.bool n,.string s,.int .i64 x]] w (RetB (.string ⟨(Dc.print n s.data.toList x).toArray⟩) w):=by
 have b:=fun w=>EE n s x w aG
 cases a:Dc.right s.data.toList x with
 |true=>
  have hl:=Dc.xW a
  have i:=Dc.sj a
  rw[dN] at hl
  have:=yso n s (if n then⟨#[45]⟩ else⟨#[]⟩) x w hl i rfl d a
  rw[Dc.print,bT a,dN]
  cases n
  ·exact this
  ·exact this
 |false=>
  rw[a] at b
  rw[Dc.print,bv (by rw[a];simp)]
  have g:=aL b;clear b a
  go_enter func81,ntmps81
  go_wp2_with (go_at_call 112;refine cp (g.out _) ?_;intro j c;obtain⟨e,m,l,f⟩:=g9 (w) c;(try simp only[fO,gz,fY,gt] at f);obtain⟨u,q,r,t,v,o⟩:=own6 c (w.heap.size))
  go_ret
  exact RetB.of rfl e
end
end Go.Proofs.YtilbpmimoijfhaaGreatDoor
