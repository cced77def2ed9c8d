/- long: the set-up. -/
import Derived.Test.YtilbpmimoijfhaaGreatDoorY3
namespace Go.Proofs.YtilbpmimoijfhaaGreatDoor
set_option linter.all false
set_option maxRecDepth 100000
set_option maxHeartbeats 16000000
open Go.RowKit Go.Proofs.Tryz
def yo4 {P:Program} {t e:TypeId} {a:TypeInfo} (b:P.underlying t=some (.slice e)) (hi:P.info? e=some a) (hz:a.zero=some (.int .u32 0)) (d:a.size=1) (c:a.bytes=4) {n:Nat} (hn:n<=1000000) (w:World):
 (Instr.makeSlice t (.int .i64 (n:Int)) (.int .i64 (n:Int))).run P w= .ok (.slice (some ⟨w.heap.size,0,none⟩) n n) (w.alloc (.cells (u32s (List.replicate n 0)).toArray e)):=by
 rw[run_make (P:=P) w t e a (.int .u32 0) b hi hz .i64 .i64 n n aG (Int.le_refl _) (by rw[c];omega) aG];simp only[jJ];congr 3;rw[d];apply M1;simp[u32s,madeCells,Value.cells,Nat.mod_one,List.map_const']
def yjd {n:Nat} (hn:n<=1000000) (w:World):(Instr.makeSlice 187 (.int .i64 (n:Int)) (.int .i64 (n:Int))).run prog w= .ok (.slice (some ⟨w.heap.size,0,none⟩) n n) (w.alloc (.cells (u32s (List.replicate n 0)).toArray 85)):=by obtain⟨d,hi,a,c,b⟩:=KI Wz;exact yo4 underlying187 hi a c b hn w
def yi0 (w:World) (l:List Nat):Blk (w.alloc (.cells (u32s l).toArray 85)) w.heap.size l:=by show(w.heap.push _)[w.heap.size]? =_;simp
def yhT (w:World) (l m:List Nat):Blk ((w.alloc (.cells (u32s l).toArray 85)).alloc (.cells (u32s m).toArray 85)).drew w.heap.size l/\Blk ((w.alloc (.cells (u32s l).toArray 85)).alloc (.cells (u32s m).toArray 85)).drew (w.heap.size+1) m/\
 Below w.heap.size w ((w.alloc (.cells (u32s l).toArray 85)).alloc (.cells (u32s m).toArray 85)).drew :=by
 have b:=yi0 w l;have a:=yi0 (w.alloc (.cells (u32s l).toArray 85)) m;rw[i7] at a;exact⟨b.on ((ek).drew),a,((ek).alloc cn _).drew⟩
def yrr (g N v:Nat) (w:World) (e:Ending) (w':World):Prop:=e= .returned (.tuple #[])/\Onl g w w'/\ ∃ o,Blk w' g o/\o.length=N/\Na.OK o/\Na.val o=v
def yiP (g N c s d:Nat) (O q:List Nat) (a:Option Addr) (w:World) (hb:Blk w g O) (r:Na.OK O) (hl:O.length=N) (i: ∀ wr,Below g w wr->Sl wr a d q) (t:s<32) (hq:q.length<=N) (u:N<=1000000) (x:Na.val q*2^s<Na.B^N):
 Calls prog 220 #[.slice (some ⟨g,0,none⟩) N c,.slice a q.length d,.int .i64 s] w (yrr g N (Na.val q*2^s) w):=
 (yr3 g 0 N c s d O q a w hb r aG i t aG aG).mono fun e w' ⟨k,j,o,m,v,l,_,n,f⟩=>by
  refine⟨k,j,o,m,by omega,l,?_⟩;rw[n0 hq,sc] at f;rcases ty n with b|b
  ·rw[b] at f;omega
  ·have:=nS (Na.B^N) b;omega
def Na.yaD (k:Nat):Na.OK (List.replicate k 0):=fun x hx=>by rw[ybT hx];decide
def Na.yrB {m:List Nat} {n x s:Nat} (c:Na.OK m) (hn:m.length=n+2) (hx:m[n+1]? =some x) (o:x≠0) (q:s=32-Lib.bitLen x):Na.val m*2^s<Na.B^(n+2)/\Na.B^(n+1)<=Na.val m:=by
 obtain⟨d,e⟩:=o6.1 hx;have l:=Na.ra m (n+1) d;rw[e,n0 aG] at l;have k:=Na.rf (m.take (n+1)) (Na.Au c _);rw[nn,rD aG] at k;have b:x<4294967296:=by rw[<-e];exact c _ (pK d)
 have hb:Lib.bitLen x=Nat.log2 x+1:=Na.ybN x o (xH b bL);have hb2:x<2^Lib.bitLen x:=by rw[hb];exact ye8
 have r:Lib.bitLen x<=32:=yau x 32 aG b;have j:x+1<=2^Lib.bitLen x:=hb2;have i:2^Lib.bitLen x*2^s=Na.B:=by rw[<-Nat.pow_add,show Lib.bitLen x+s=32 by omega]
 have g:Na.B^(n+1)*(x+1)<=Na.B^(n+1)*2^Lib.bitLen x:=nS _ j;have f:Na.val m<Na.B^(n+1)*2^Lib.bitLen x:=by rw[lW,oU] at g;omega
 constructor
 ·have a:=jd f (show 0<2^s from fp bL);rw[fB,i,<-Nat.pow_succ] at a;exact a
 ·have:=nS (Na.B^(n+1)) (show 1<=x by omega);omega
def Onl.drew1 {g:Nat} {a b:World} (h:Onl g a b):Onl g a b.drew:=⟨h.below.drew,h.block⟩
def Sh (w w':World):Prop:=w'.heap=w.heap/\Below w.heap.size w w'
def Sh.refl (w:World):Sh w w:=⟨rfl,eN⟩
def Sh.drew {w w':World} (h:Sh w w') (n:Nat):Sh w (w'.drewN n):=⟨h.1,oY h.2 n⟩
def Blk.sh {w w':World} {g:Nat} {o:List Nat} (h:Blk w g o) (a:Sh w w'):Blk w' g o:=by unfold Blk;rw[a.1];exact h
def ykp (p q:List Nat) (w:World) (e:Ending) (w':World):Prop:= ∃ a c b d,e= .returned (.tuple #[.slice a p.length c,.slice b q.length d])/\Sl w' a c p/\Own w' w.heap.size a p.length/\Sl w' b d q/\Own w' w.heap.size b q.length/\Below w.heap.size w w'
def ylj (N s a:Nat) (U:List Nat) (w:World) (b:Value) (wr:World):Prop:= ∃ (i:Nat) (R:List Nat),i<=N/\b= .int .i64 i/\Hid (Blk wr a R)/\Hid (R.length=N)/\Hid (Na.OK R)/\Hid (Na.val (R.take i)+Na.B^i*(Na.val (U.drop i) / 2^s)=Na.val U / 2^s)/\Hid (Onl a w wr)
def longLoop (N mm gu gv gq:Nat) (V:List Nat) (A:Nat) (w:World) (a:Value) (wr:World):Prop:= ∃ (i:Nat) (U Q:List Nat),i<=mm+1/\a= .int .i64 i/\Hid (Blk wr gu U)/\Hid (U.length=N+mm+1)/\Hid (Na.OK U)/\Hid (Blk wr gq Q)/\Hid (Q.length=mm+1)/\Hid (Na.OK Q)/\Hid (Blk wr gv V)/\
 Hid (Na.val U+Na.val V*(Na.B^(mm+1-i)*Na.val (Q.drop (mm+1-i)))=A)/\Hid (Na.val (U.drop (mm+1-i))<Na.val V)/\Hid (Below w.heap.size w wr)
def Na.yqx {V:List Nat} {n v:Nat} (d:Na.OK V) (hl:V.length=n+2) (h:Na.B^(n+1)<=Na.val V) (hv:V[n+1]? =some v):0<v:=by
 obtain⟨_,rfl⟩:=o6.1 hv;rcases ty (V[n+1]'aG) with a|a
 ·have c:=Na.ra V (n+1) aG;rw[a,n0 aG] at c;have b:=Na.rf (V.take (n+1)) (Na.Au d _);rw[nn,rD aG] at b;omega
 ·exact a
def Na.G1 {U:List Nat} (h:Na.OK U) {k x:Nat} (e:U[k]? =some x):x<4294967296:=by obtain⟨a,rfl⟩:=o6.1 e;exact h _ (pK a)
def Blk.at {w:World} {g:Nat} {o:List Nat} (h:Blk w g o) {k x:Nat} (e:o[k]? =some x):w.cell? ⟨g,k,none⟩=some (.int .u32 (x:Int)):=by obtain⟨a,rfl⟩:=o6.1 e;exact h.cell k a
def Na.ysg (U R:List Nat) (k s x y:Nat) (c:s<32) (hx:U[k]? =some x) (b:U[k+1]? =some y) (g:x<4294967296) (d:k<R.length) (a:Na.val (R.take k)+Na.B^k*(Na.val (U.drop k) / 2^s)=Na.val U / 2^s):
 Na.val ((R.set k ((x+y*4294967296) / 2^s % 4294967296)).take (k+1))+Na.B^(k+1)*(Na.val (U.drop (k+1)) / 2^s)=Na.val U / 2^s:=by
 obtain⟨f,h⟩:=o6.1 hx;obtain⟨e,rfl⟩:=o6.1 b;rw[Na.ER R k _ d];exact Na.yf1 U k s x _ c f h g ⟨Na.val (U.drop (k+1+1)),by rw[xE e];rfl⟩ _ _ a
def Blk.other {w:World} {g k i:Nat} {o:List Nat} {u:Value} (h:Blk w k o) (a:k≠g):Blk (w.setCell ⟨g,i,none⟩ u) k o:=(tF _ _ _ _ a).trans h
def Na.yl7 {V:List Nat} {k:Nat} (h:Na.OK V) (hl:V.length<=k):Na.val V<=Na.B^k:=lY (eR (Na.rf V h) (hJ bL hl))
def Na.yjQ {U c V:List Nat} {N n j X b a d:Nat} (g:N=n+2) (f:X=Na.val ((U.drop j).take (n+3))) (e:b=Na.val V) (h:Na.val ((U.drop j).take (N+1))+Na.B^(N+1)*a=Na.val ((c.drop j).take (N+1))+d*Na.val V):
 X+Na.B^(N+1)*a=Na.val ((c.drop j).take (N+1))+d*b:=by
 rw[f,e,<-h,show N+1=n+3 by omega]
def longLoop.next {N mm gu gv gq A n j i q X a:Nat} {V U U' Q:List Nat} {w w':World} (E:N=n+2) (hj:mm=i+j) (l:X=Na.val ((U.drop j).take (n+3))) (b:a=Na.val V) (hz:Na.val (U.drop (j+n+3))=0) (f:U.length=N+mm+1) (e:Q.length=mm+1) (v:Na.OK Q)
 (g:Na.val U+Na.val V*(Na.B^(j+1)*Na.val (Q.drop (j+1)))=A) (s:Blk w' gu U') (hl7':U'.length=U.length) (y:Na.OK U') (k:U'.take j=U.take j) (hd:U'.drop (j+(N+1))=U.drop (j+(N+1))) (c:Na.val ((U'.drop j).take (N+1))=X % a)
 (hq:q=X / a) (x:q<4294967296) (u:Blk w' gq Q) (t:Blk w' gv V) (r:gq≠gu) (C:gq≠gv) (hb:Below w.heap.size w w') (D:w.heap.size<=gq) (z:0<a):
 longLoop N mm gu gv gq V A w (.int .i64 ((i:Int)+1)) (w'.setCell ⟨gq,j,none⟩ (.int .u32 (q:Int))):=by
 rw[show j+(N+1)=j+n+3 by omega] at hd;rw[show N+1=n+3 by omega] at c;obtain⟨o,m⟩:=Na.yqP U U' Q j n X a (X % a) q A hl7' aG aG k hd hz l.symm c (by rw[hq];exact(sz _ _).symm) (by rw[b];exact g);have d:mm+1-(i+1)=j:=aG;refine⟨i+1,U',Q.set j q,by omega,by go_num,aL (s.other (Pt r)),aL (hl7'.trans f),aL y,aL (u.set j q),aL (by rw[yx];exact e),aL (Na.wa v j q x),aL (t.other (Pt C)),aL ?_,aL ?_,aL (hb.setCell D _)⟩
 ·rw[d,<-b];exact o
 ·rw[d,m,<-b];exact kk _ z
def longLoop.first {w w4:World} {gv gu gq n N mm s:Nat} {U V m l:List Nat} (q:N=n+2) (k:Blk w4 gu U) (j:U.length=N+mm+1) (i:Na.OK U) (a:Na.val U=Na.val l*2^s) (g:Blk w4 gq (List.replicate (mm+1) 0)) (f:Blk w4 gv V) (e:Na.val V=Na.val m*2^s)
 (d:l.length=N+mm) (c:Na.OK l) (o:Na.B^(n+1)<=Na.val m) (b:Below w.heap.size w w4):longLoop N mm gu gv gq V (Na.val l*2^s) w (.int .i64 ((0:Nat):Int)) w4:=by
 refine⟨0,U,List.replicate (mm+1) 0,iH _,rfl,aL k,aL j,aL i,aL g,aL (XP ..),aL (Na.yaD _),aL f,aL ?_,aL ?_,aL b⟩
 ·rw[zF,yas cn,a];show _+_*(_*0)=_;rw[sr,sr,ms]
 ·rw[zF,e];exact Na.ynC U (mm+1) (Na.val l) (n+1) (Na.val m) s aG a (by rw[show n+1+(mm+1)=N+mm by omega,<-d];exact Na.rf l c) o
def yn7 (a:Option Addr) (ca:Nat) (l:List Nat) (b:Option Addr) (cb:Nat) (m:List Nat) (n L N mm:Nat) (w:World) (h:Sl w a ca l) (h':Sl w b cb m) (hN:N=L+1) (CP:L=n+1) (hn:m.length=N) (hm:l.length=N+mm) (hl:l.length<=256) (cM:m[n+1]'aG≠0):
 Calls prog 283 #[.slice a l.length ca,.slice b m.length cb] w (ykp (Na.cl (Na.val l / Na.val m)) (Na.cl (Na.val l % Na.val m)) w):=by
 obtain⟨bb,ob,rfl,uy,xI⟩:=h'.plain aG;obtain⟨ba,oa,rfl,im, -⟩:=h.plain aG;have c1:=xI L aG;obtain⟨x,hx⟩: ∃ x,m[L]'aG=x:=⟨_,rfl⟩;have S:m[L]'aG<4294967296:=h'.ok _ (pK aG);have J9:m[n+1]? =some x:=by rw[<-hx];subst CP;exact n9 _
 have sA:x≠0:=by have e:=n9 (l:=m) (i:=n+1) aG;rw[e] at J9;rw[<-Option.some.inj J9];exact cM
 rw[hx] at c1 S;have HX:=aL J9;have bQ:Lib.bitLen x<=32:=yau x 32 aG S;obtain⟨s,hs⟩:=bx (32-Lib.bitLen x);have H1:=aL ((bits_LeadingZeros32 (x:Int) w aG aG).mono fun e w' he=>(⟨by rw[he.1,jJ];congr 2;omega,he.2.symm⟩:Ret0 (.int .i64 s) w e w'));obtain⟨PD,Jl,qC⟩:=iJ hs h h';have M9:=fun w=>yjd (n:=N) aG w;have Hj:=fun w=>yjd (n:=N+mm+1) aG w;rw[show((N+mm+1:Nat):Int)=(N:Int)+mm+1 by simp] at Hj;rw[hn,hm];obtain⟨HN,HM,qI⟩:=iJ hn hm sA;have F:=aL (show N=n+2 by omega);have Te:2<=N:=aG;have XH:(N:Int)-1=(L:Int):=aG;have OE:L<N:=aG;have ph:=aL CP;have qg:n<L:=aG;have Wv:(N:Int)-2=(n:Int):=aG;rw[hm] at hl;have Bp:(N:Int)+mm-(N:Int)=(mm:Int):=aG;clear xI hx hs hn hm h h' cM sA hN CP J9;go_enter func283,ntmps283
 go_wp2_with (first|(go_at_call 292;refine cY H1.out ?_))
 go_upto_region 3 with (fail)
 go_cut [9,10] (fun v u w1=> ∃ gv gu:Nat,v= .slice (some ⟨gv,0,none⟩) N N/\u= .slice (some ⟨gu,0,none⟩) (N+mm+1) (N+mm+1)/\w.heap.size<=gv/\w.heap.size<=gu/\gv≠gu/\Hid (Blk w1 gv (List.replicate N 0))/\Hid (Blk w1 gu (List.replicate (N+mm+1) 0))/\Hid (Below w.heap.size w w1))
 case first=>
  have T1:=aL (yhT w (List.replicate N 0) (List.replicate (N+mm+1) 0));have T2:=aL (yhT w (List.replicate (N+mm+1) 0) (List.replicate N 0));go_region
  all_goals(go_wp2;go_meet)
  all_goals first|exact⟨w.heap.size,w.heap.size+1,rfl,rfl,cm,ls _,by omega,aL T1.out.1,aL T1.out.2.1,aL T1.out.2.2⟩|exact⟨w.heap.size+1,w.heap.size,rfl,rfl,ls _,cm,by omega,aL T2.out.2.1,aL T2.out.1,aL T2.out.2.2⟩
 case rest=>as_aux_lemma=>
  clear M9 Hj;obtain⟨gv,gu,rfl,rfl,WX,Ky,G,q,A,HB⟩:=hcut;obtain⟨uA,cz⟩:=Na.yrB qC.out.ok (HN.out.trans F.out) HX.out qI.out PD.out
  have oo:s<32:=by
   have:=PD.out;have h2:1<=Lib.bitLen x:=by rw[Na.ybN x qI.out (xH S bL)];omega
   omega
  rw[<-F.out] at uA;have DK:=aL (yiP gv N N s cb (List.replicate N 0) m (some ⟨bb,ob,none⟩) wc q.out (Na.yaD _) cn (fun wr hb=>(qC.out.on HB.out).below hb (fun ad e=>by cases e;show bb<gv;omega)) oo (by rw[HN.out];exact cm) aG uA)
  have Oo:Na.val l*2^s<Na.B^(N+mm+1):=by have h1:=Na.rf l Jl.out.ok;rw[HM.out] at h1;exact ygv
  have DJ:=aL (fun w2 (hb:Onl gv wc w2)=>yiP gu (N+mm+1) (N+mm+1) s ca (List.replicate (N+mm+1) 0) l (some ⟨ba,oa,none⟩) w2 (A.out.onl hb (Pt G)) (Na.yaD _) cn (fun wr hb2=>((Jl.out.on HB.out).below hb.below (fun ad e=>by cases e;show ba<gv;omega)).below hb2 (fun ad e=>by cases e;show ba<gu;omega)) oo (by rw[HM.out];omega) aG Oo);rw[HN.out] at DK;rw[HM.out] at DJ;obtain⟨Zi,kt,Zk⟩:=iJ uA cz Oo;clear uA cz Oo;go_wp2_with (first|(go_at_call 220;refine cV DK.out ?_;rintro e w2 ⟨rfl,cf,V,R',R0,G7,MD⟩)|(go_at_call 220;refine cV (DJ.out _ cf) ?_;rintro e w3 ⟨rfl,dx,U,Nl,R4,G8,Rr⟩)|(at_make;refine Yx rfl _ _ rfl _ _ (mm+1) rfl rfl cn cn aG ?_))
  intro w4 hK T;have aP:Below w.heap.size w w2:=HB.out.trans (cf.up WX);have cL:Below w.heap.size w w3:=aP.trans (dx.up Ky);have bM:Below w.heap.size w w4:=T.out _ _ cL cL.size;have ws:Below w3.heap.size w3 w4:=T.out _ _ eN cm;have BQ:=R'.onl dx G;have Hz:=BQ.lt;have HY:=Nl.lt;have OA:=hK.out;obtain⟨gq,Kz⟩: ∃ g,g=w3.heap.size:=⟨_,rfl⟩;rw[<-Kz] at OA Hz HY ws ⊢;have nP:=aL (longLoop.first (w:=w) (w4:=w4) (gv:=gv) (gu:=gu) (gq:=gq) (U:=U) (V:=V) (m:=m) (l:=l) (n:=n) (N:=N) (mm:=mm) (s:=s) F.out (Nl.below ws HY) R4 G8 Rr OA (BQ.below ws Hz) MD HM.out Jl.out.ok kt.out bM);obtain⟨I,D,Lt⟩:=iJ R0 G7 MD;have H8:w.heap.size<=gq:=aG;clear hK T aP cL bM ws BQ OA R' Nl R4 G8 Rr cf dx q A Kz DK DJ R0 G7 MD c1 uy im HB Bp;go_wp2_with fail
  go_loopw [52] (longLoop N mm gu gv gq V (Na.val l*2^s) w) (fun i _=>mm+1-(intOf i).toNat)
  case atStart=>exact nP.out
  case round=>
   clear nP;obtain⟨wo,rfl⟩:=bx (wr:World);obtain⟨i,U,Q,hi,rfl,A,Y,W,HQ,EX,PM,q,K,JJ,f⟩:=hrel;by_cases aW:i<mm+1
   ·obtain⟨j,hj⟩: ∃ j,mm=i+j:=⟨mm-i,by omega⟩;have Nu:(mm:Int)-(i:Int)=(j:Int):=aG;have Ns:mm+1-i=j+1:=aG;rw[Ns] at K JJ;have r8:=Y.out;have iy:=I.out.trans F.out;have Be:=F.out;have g0:j+n+2<U.length:=aG;obtain⟨u0,q0⟩: ∃ x,U[j+n+2]? =some x:=⟨_,n9 aG⟩;obtain⟨u1,q1⟩: ∃ x,U[j+n+1]? =some x:=⟨_,n9 aG⟩;obtain⟨u2,q2⟩: ∃ x,U[j+n]? =some x:=⟨_,n9 aG⟩;obtain⟨v1,P⟩: ∃ x,V[n+1]? =some x:=⟨_,n9 aG⟩;obtain⟨v2,p2⟩: ∃ x,V[n]? =some x:=⟨_,n9 aG⟩;obtain⟨J2,OL⟩: ∃ J,J=j+n+2:=⟨_,rfl⟩;obtain⟨J1,Tm⟩: ∃ J,J=j+n+1:=⟨_,rfl⟩;obtain⟨J0,Tn⟩: ∃ J,J=j+n:=⟨_,rfl⟩;have b0:=Na.G1 W.out q0;have b1:=Na.G1 W.out q1;have b2:=Na.G1 W.out q2;have d1:=Na.G1 D.out P;have d2:=Na.G1 D.out p2;have pC:0<v1:=Na.yqx D.out iy (by rw[Lt.out];exact dE kt.out (ybX _ (fp bL))) P;obtain⟨OI,ge⟩:=Na.ytY U V j n W.out D.out iy g0 u0 u1 u2 v1 v2 q0 q1 q2 P p2 pC JJ.out;rw[<-OL] at q0;rw[<-Tm] at q1;rw[<-Tn] at q2;rw[<-ph.out] at P;obtain⟨Q0,Q1,Q2,P1,P2⟩:=qF q0 q1 q2 P p2;have c0:=A.out.at q0;have c1:=A.out.at q1;have e1:=q.out.at P;have sJ:(j:Int)+(N:Int)=(J2:Int):=aG;have sJ1:(J2:Int)-1=(J1:Int):=aG;have sJ0:(J2:Int)-2=(J0:Int):=aG;have lJ2:J2<N+mm+1:=aG;have lJ1:J1<N+mm+1:=aG;have lJ0:J0<N+mm+1:=aG;obtain⟨X,hX⟩:=bx (Na.val ((U.drop j).take (n+3)));obtain⟨VV,Cv⟩: ∃ X,X=Na.val V:=⟨_,rfl⟩;have o:=Na.ybZ u0 u1 b0 b1;rw[<-hX,<-Cv] at OI;obtain⟨top,AC⟩: ∃ t,t=u0*4294967296+u1:=⟨_,rfl⟩;have CU:Na.Kn X VV (Na.B^n) top u2 (Na.val ((U.drop j).take n)) v1 v2 (Na.val (V.take n)):=by rw[AC];exact OI
    have HK:=aL CU;rw[<-AC] at o;have pE:top<18446744073709551616:=aG;have qf:bits BinOp.or IntKind.u64 ((u0:Int)*4294967296) (u1:Int)=(top:Int):=by rw[<-o];simp
    have Kb:((v1:Int)==0)=false:=pp;obtain⟨dd,pL⟩: ∃ t,t=top / v1:=⟨_,rfl⟩;obtain⟨rr,nU⟩: ∃ t,t=top % v1:=⟨_,rfl⟩;have NT:(top:Int) / (v1:Int)=(dd:Int):=by rw[pL];simp
    have GU:(top:Int) % (v1:Int)=(rr:Int):=by rw[nU];simp
    have NS:dd<=top:=by rw[pL];exact N4 _ _
    have MO:rr<v1:=by rw[nU];exact kk _ pC
    have Uv:=aL (show dd*v1+rr=top/\X / VV<=dd from⟨by rw[pL,nU,fM];exact sz _ _,by rw[pL];exact CU.start⟩);obtain⟨wB,Z,I8,HJ,HJJ,HG0,Qm⟩:=zo hX Cv ge hj Ns g0 OL;clear q0 q1 q2 P p2 hX Cv ge OI CU o AC pL nU hj Ns r8 iy g0 Be OL Tm Tn;go_wp2_with fail
    go_quiet (fail)
    clear qf;go_wp2_with fail
    go_quiet (fail)
    have AJ:=GU;clear NT GU;go_upto_block 2 with (fail)
    go_cut [15] (fun dv w'=> ∃ d:Nat,dv= .int .u64 d/\d<4294967296/\Hid (X / VV<=d/\d*VV<X+VV)/\Hid (Sh wo w'))
    case first=>as_aux_lemma=>
     go_wp2_with fail
     go_loopw [15,16] (fun dv rv wz=> ∃ d r:Nat,dv= .int .u64 d/\rv= .int .u64 r/\r<4294967296/\d<18446744073709551616/\Hid (d*v1+r=top/\X / VV<=d)/\Hid (Sh wo wz)) (fun _ r _=>4294967296-(intOf r).toNat)
     case atStart=>exact⟨dd,rr,rfl,by rw[<-AJ],by omega,by omega,Uv,aL (((Sh.refl _).drew _).drew _)⟩
     case round=>
      clear AJ c0 c1 e1;obtain⟨d,r,rfl,rfl,hr,hd,z,nI⟩:=hrel;have c2:=(A.out.sh nI.out).at Q2.out;have e1:=(q.out.sh nI.out).at P1.out;have e2:=(q.out.sh nI.out).at P2.out;by_cases h1:4294967296<=d
      ·have ht:decide ((0:Int)<(d:Int) / 4294967296)=true:=fv aG;have sK:=HK.out.down z.out.1 z.out.2 (Or.inl h1);obtain⟨d',sL⟩: ∃ d',d=d'+1:=⟨d-1,by omega⟩;refine yiH ?_;intro r' oq q' dH NU MS uM;clear sK;by_cases hb:4294967296<=r'
       ·have Ob:decide ((0:Int)<(r':Int) / 4294967296)=true:=fv aG;exact yic
       ·have Ob:decide ((0:Int)<(r':Int) / 4294967296)=false:=eL aG;have jS:d'<18446744073709551616:=aG;have l9:r<r':=aG;clear sL oq;go_wp2_with fail
        go_quiet (fail)
        go_wp2_with fail
        go_roundw
        case rel=>exact⟨d',r',rfl,rfl,by omega,jS,uM,aL (nI.out.drew _)⟩
        case measure=>simp[intOf];omega
      ·have ht:decide ((0:Int)<(d:Int) / 4294967296)=false:=eL aG;have nj:=(Na.ye1 d v2 0 0 aG d2 aG aG).1;obtain⟨p,hp⟩:=bx (d*v2);have Ep:(d:Int)*(v2:Int)=(p:Int):=by rw[hp];simp
       rw[<-hp] at nj;have o:=Na.ybZ r u2 hr b2;obtain⟨t2,oh⟩: ∃ t,t=r*4294967296+u2:=⟨_,rfl⟩;rw[<-oh] at o;have qf:bits BinOp.or IntKind.u64 ((r:Int)*4294967296) (u2:Int)=(t2:Int):=by rw[<-o];simp
       clear o;by_cases h2:t2<p
       ·have V8:decide ((t2:Int)<(p:Int))=true:=fv aG;have Id:4294967296<=d∨r*Na.B+u2<d*v2:=Or.inr (by rw[<-hp];show r*4294967296+u2<p;omega);clear hp oh;have sK:=HK.out.down z.out.1 z.out.2 (Id);obtain⟨d',sL⟩: ∃ d',d=d'+1:=⟨d-1,by omega⟩;refine yiH ?_;intro r' oq q' dH NU MS uM;clear sK;by_cases hb:4294967296<=r'
        ·have Ob:decide ((0:Int)<(r':Int) / 4294967296)=true:=fv aG;exact yic
        ·have Ob:decide ((0:Int)<(r':Int) / 4294967296)=false:=eL aG;have jS:d'<18446744073709551616:=aG;have l9:r<r':=aG;clear sL oq;go_wp2_with fail
         go_quiet (fail)
         go_wp2_with fail
         go_roundw
         case rel=>exact⟨d',r',rfl,rfl,by omega,jS,uM,aL (nI.out.drew _)⟩
         case measure=>simp[intOf];omega
       ·have V8:decide ((t2:Int)<(p:Int))=false:=eL aG;have dg:=HK.out.stop z.out.1 (show d<4294967296 by omega) (show d*v2<=r*Na.B+u2 by rw[<-hp];show p<=r*4294967296+u2;omega);have mQ:=aL dg;have jS:d<4294967296:=aG;clear hp oh dg;go_wp2_with fail
        go_quiet (fail)
        go_wp2_with fail
        go_meet;exact⟨d,rfl,jS,aL ⟨z.out.2,mQ.out⟩,aL (nI.out.drew _)⟩
    case rest=>as_aux_lemma=>
     obtain⟨d,rfl,hd,z,nI⟩:=hcut;obtain⟨C,rfl⟩:=bx (wc:World);clear AJ c0 c1 e1 Kb MO NS Uv;have BT:j<mm+1:=by have:=HJ.out;omega
     have Et:j+(N+1)<=U.length:=by have:=Y.out;omega
     have ib:=aL (fun c=>(by
      have:=yrR gu gv j (N+1) c N d U V C (A.out.sh nI.out) W.out Et (q.out.sh nI.out) D.out G (by rw[I.out];omega) hd aG
      rw[I.out] at this;exact this:Calls prog 293 #[.slice (some ⟨gu,j,none⟩) (N+1) c,.slice (some ⟨gv,0,none⟩) N N,.int .u64 d] C (yiv (N+1) j gu d U V C)))
     have Z':=aL (fun c O H (hk:Blk O gu H) (cK:Na.OK H) (hl:H.length=U.length) (ho:Onl gu C O)=>(by
      have:=ysI gu gv j (N+1) c N H V O hk cK (by rw[hl];exact Et) ((q.out.sh nI.out).onl ho G) D.out G (by rw[I.out];omega) aG
      rw[I.out] at this;exact this:Calls prog 294 #[.slice (some ⟨gu,j,none⟩) (N+1) c,.slice (some ⟨gv,0,none⟩) N N] O (ygX (N+1) j gu H V O)))
     have vH:gq≠gu:=aG;have PN:=aL (HQ.out.sh nI.out);have Kv:j<Q.length:=by rw[EX.out];exact BT
     have XQ:(J2:Int)+1-(j:Int)=(N:Int)+1:=aG;have hJn:J2+1-j=N+1:=aG;clear Et;go_wp2_with (first|(go_at_call 293;refine cV (ib.out _) ?_;rintro e O ⟨br,cG,rfl,eU,H,fU,Kr,vA,RA,Sw,Ru⟩;have KN:=PN.out.onl eU vH;have cq6:=KN.cell j Kv;have fq6:=KN.frozen j;obtain⟨Ac,rq,E7,Ug⟩:=jv Kr RA Sw Ru;clear Kr RA Sw Ru)|(go_at_call 294;refine cV (Z'.out _ O H fU vA Ac.out eU) ?_;rintro e w7 ⟨rfl,jO,U7,cg,ur,R5,G9,Rz,Sv,Rt⟩;have Oz:=KN.onl jO vH;have cq7:=Oz.cell j Kv;have fq7:=Oz.frozen j;obtain⟨JM,nH,LH,Zh⟩:=jv R5 Rz Sv Rt;clear R5 Rz Sv Rt))
     ·have aw:br=1:=by
       have:0<br:=lI;omega
      have e:=(Na.yiV HK.out.posV (by rw[Z.out];exact Na.yl7 D.out (by rw[I.out];omega)) z.out.1 z.out.2 (Na.Xb H vA j (N+1)) (Na.yjQ F.out wB.out Z.out Ug.out) cG).2 aw (Na.val ((U7.drop j).take (N+1))) cg (Na.Xb U7 G9 j (N+1)) (by rw[Z.out];exact Zh.out);have E:=aL e;clear e;have q':1<=d:=E.out.2.1;have Su:IntKind.u64.wrap ((d:Int)-1) % 4294967296=((d-1:Nat):Int):=by rw[zA];omega
      rw[Su];go_roundw
      case rel=>exact longLoop.next F.out HJ.out wB.out Z.out I8.out Y.out EX.out PM.out K.out ur (hl7':=JM.out.trans Ac.out) G9 (nH.out.trans rq.out) (LH.out.trans E7.out) E.out.1 E.out.2.2 aG Oz (((q.out.sh nI.out).onl eU G).onl jO G) vH aG ((((f.out.trans (nI.out.2.mono f.out.size)).trans (eU.up Ky)).trans (jO.up Ky))) H8 HK.out.posV
      case measure=>simp[intOf];omega
     ·have eI:br=0:=by
       have: ¬ 0<br:=lI;omega
      have e:=(Na.yiV HK.out.posV (by rw[Z.out];exact Na.yl7 D.out (by rw[I.out];omega)) z.out.1 z.out.2 (Na.Xb H vA j (N+1)) (Na.yjQ F.out wB.out Z.out Ug.out) cG).1 eI;have E:=aL e;clear e;go_roundw
      case rel=>exact longLoop.next F.out HJ.out wB.out Z.out I8.out Y.out EX.out PM.out K.out fU (hl7':=Ac.out) vA rq.out E7.out E.out.1 E.out.2 hd KN ((q.out.sh nI.out).onl eU G) vH aG ((f.out.trans (nI.out.2.mono f.out.size)).trans (eU.up Ky)) H8 HK.out.posV
      case measure=>simp[intOf];omega
   ·obtain rfl:i=mm+1:=aG;have xF:=Na.yvy (Na.val U) (Na.val Q) (Na.val V) (Na.val l) (Na.val m) s Lt.out (by have:=JJ.out;rwa[C7,sc] at this) (by have:=K.out;rwa[C7,sc,xV] at this);have uM:=aL xF
    have hz:Na.val (U.drop N)=0:=by
     have h1:=JJ.out;rw[C7,sc] at h1;have h2:=Na.wW U N (by rw[Y.out];omega);have h3:=Na.rf V D.out;rw[I.out] at h3;rcases ty (Na.val (U.drop N)) with h4|h4
     ·exact h4
     ·have:=nS (Na.B^N) h4;omega
    have HZ:=aL hz;clear xF hz K JJ HX qI Zi kt Zk S bQ XH OE Wv qg PD G;go_wp2_with (first|(at_make;refine Yx rfl _ _ rfl _ _ N rfl rfl rfl rfl aG ?_))
    intro C hK T;have jp:=T.out _ _ f.out f.out.size;have Dg:Below wo.heap.size wo C:=T.out _ _ eN cm;have SR:=A.out.on Dg;have Tb:=HQ.out.on Dg;have oR:=hK.out;have Cg:=f.out.size;have NC:=A.out.lt;have ND:=HQ.out.lt;obtain⟨gr,Ey⟩: ∃ g,g=wo.heap.size:=⟨_,rfl⟩;rw[<-Ey] at oR Cg NC ND ⊢;obtain⟨Ui,PN,Ai⟩:=iJ SR Tb jp;have nP:=aL (show ylj N s gr U C (.int .i64 ((0:Nat):Int)) C from⟨0,List.replicate N 0,iH _,rfl,aL oR,aL (XP ..),aL (Na.yaD _),aL (by rw[wh,sc,xV,nW];exact iR _),aL (Onl.refl _ _)⟩);obtain⟨M,hM⟩:=bx (2^s);have OF:((2:Int)^s)=(M:Int):=by rw[hM];simp
    have oW:1<=M:=by rw[hM];exact fp bL
    have HM:=aL hM;clear hK T jp Dg SR Tb oR hM A HQ q Ey f;go_wp2_with fail
    go_loopw [159] (ylj N s gr U C) (fun i _=>N-(intOf i).toNat)
    case atStart=>exact nP.out
    case round=>
     clear nP;obtain⟨k,R,hk,rfl,HR,EW,Uj,K,f⟩:=hrel;by_cases jj:k<N
     ·have dH:k<R.length:=by rw[EW.out];exact jj
      obtain⟨rz,RE⟩: ∃ x,R[k]? =some x:=⟨_,n9 dH⟩;have co:=HR.out.at RE;have fo:=HR.out.frozen k;have jF:k<U.length:=by rw[Y.out];omega
      have jE:k+1<U.length:=by rw[Y.out];omega
      obtain⟨x,hx⟩: ∃ x,U[k]? =some x:=⟨_,n9 jF⟩;obtain⟨y,hy⟩: ∃ x,U[k+1]? =some x:=⟨_,n9 jE⟩;have cx:=(Ui.out.onl f.out aG).at hx;have cy:=(Ui.out.onl f.out aG).at hy;have S:=Na.G1 W.out hx;have lX:=Na.G1 W.out hy;have HS:=aL (Na.ysg U R k s x y oo hx hy S dH K.out);have o:=Na.ybZ y x lX S;obtain⟨t,ht⟩:=bx (y*4294967296+x);rw[<-ht] at o;have pE:t<18446744073709551616:=aG;have qf:bits BinOp.or IntKind.u64 ((y:Int)*4294967296) (x:Int)=(t:Int):=by rw[<-o];simp
      rw[show x+y*4294967296=t by omega] at HS;clear hx hy ht o dH jF jE RE;go_wp2_with fail
      go_region
      go_wp2_with fail
      go_roundw
      case rel=>
       have hq:(t:Int) / (M:Int) % 4294967296=((t / 2^s % 4294967296:Nat):Int):=by rw[<-HM.out];simp
       rw[hq];exact⟨k+1,R.set k (t / 2^s % 4294967296),by omega,by go_num,aL (HR.out.set k _),aL (by rw[yx];exact EW.out),aL (Na.wa Uj.out _ _ (kk _ bL)),HS,aL (f.out.setCell _ _).drew1⟩
      case measure=>simp[intOf];omega
     ·obtain rfl:k=N:=aG
      have SX:Na.val R=Na.val l % Na.val m:=by have h1:=K.out;rw[HZ.out,Nat.zero_div,sr,ms,n0 (by rw[EW.out];exact cm)] at h1;rw[h1];exact uM.out.2
      have Oy:=PN.out.onl f.out aG;have sQ:=Oy.sl PM.out (c:=mm+1) (by rw[EX.out];exact cm);have sR:=HR.out.sl Uj.out (c:=k) (by rw[EW.out];exact cm);have cQ:Na.cut Q=Na.cl (Na.val l / Na.val m):=by rw[Na.cut,uM.out.1]
      have cR:Na.cut R=Na.cl (Na.val l % Na.val m):=by rw[Na.cut,SX]
      have NZ:=sU (some ⟨gq,0,none⟩) (mm+1) Q wr sQ (by rw[EX.out];omega);have NY:=sU (some ⟨gr,0,none⟩) k R wr sR (by rw[EW.out];omega);rw[EX.out,cQ] at NZ;rw[EW.out,cR] at NY;have L7:=sQ.cut;have L6:=sR.cut;rw[cQ] at L7;rw[cR] at L6;obtain⟨HCQ,kw⟩:=dY NZ NY;have HP:=aL (show ykp (Na.cl (Na.val l / Na.val m)) (Na.cl (Na.val l % Na.val m)) w (.returned (.tuple #[.slice (some ⟨gq,0,none⟩) (Na.cl (Na.val l / Na.val m)).length (mm+1),.slice (some ⟨gr,0,none⟩) (Na.cl (Na.val l % Na.val m)).length k])) wr from⟨_,_,_,_,rfl,L7,Oy.own aG,L6,HR.out.own aG,Ai.out.trans (f.out.up aG)⟩);clear NZ NY sQ sR cQ cR SX Oy L7 L6;go_wp2_with (first|(go_at_call 219;refine cY HCQ.out ?_)|(go_at_call 219;refine cY kw.out ?_))
      refine eB (v:= .tuple #[.slice (some ⟨gq,0,none⟩) (Na.cl (Na.val l / Na.val m)).length (mm+1),.slice (some ⟨gr,0,none⟩) (Na.cl (Na.val l % Na.val m)).length k]) (by simp[results,results283,go_sem]) rfl HP.out
end Go.Proofs.YtilbpmimoijfhaaGreatDoor
