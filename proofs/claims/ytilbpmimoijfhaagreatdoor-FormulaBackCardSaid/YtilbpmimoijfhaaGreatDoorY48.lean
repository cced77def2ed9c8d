/- The statement FormulaSizes. -/
import Derived.Test.YtilbpmimoijfhaaGreatDoorY47
namespace Go.Proofs.YtilbpmimoijfhaaGreatDoor
set_option linter.all false
set_option maxRecDepth 100000
set_option maxHeartbeats 16000000
open Go.RowKit Go.Proofs.Tryz
section
open Fx (Tr)
attribute [local go_sem ↓] qh qn
def WA {w:World} {t:Tr} {a:Option Addr} {m c:Nat} {cs:List Value} (h:trv t (.slice a m c)= .agg cs.toArray):Nd (w.alloc (.cells cs.toArray 27)) w.heap.size (.agg cs.toArray):=by
 have b:=IsN.of t a m c;rw[h] at b;have e:=Yg b.val;have d:cs=trc t (.slice a m c):=by simpa using e
 rw[<-d] at b;exact Nd.new b
def yrA (t:Tr) (u:Value) (n:Int) (w:World) (d:TreeAt w 0 w.heap.size t u) (hs:Bs w) (hv:Vars w):
 Calls prog 3 #[trv t u,.int .i64 n] w (RetB (.bool true) w):=by
 refine ybo ?_;intro fh;have g:=fun(W:World) (hW:Below w.heap.size w W)=>yhl _ t u 0 w.heap.size W cm (d.below hW cm) hW.size;have D:=fun W=>Ou n W;have G:=fun W=>yv1 n W
 cases b:Fx.vw t with
 |false=>
  rw[b] at g
  obtain⟨K,X,A,I,F,z,y,v,a4,s,b2,r,q,a,m,c,rfl,l, -, -, -, -, -⟩:=d.flat
  have j:=WA (w:=w) (cs:=[.int .i64 K,.int .u64 X,.string A,.bool I,.int .i64 F,.int .i64 z,.int .i64 y,.bool v,.bool a4,.int .i64 s,.int .i64 b2,.bool r,.bool q,.slice a m c]) l
  rw[l] at g ⊢
  obtain⟨W0,dF⟩: ∃ W,W=w.alloc (.cells #[.int .i64 K,.int .u64 X,.string A,.bool I,.int .i64 F,.int .i64 z,.int .i64 y,.bool v,.bool a4,.int .i64 s,.int .i64 b2,.bool r,.bool q,.slice a m c] 27):=⟨_,rfl⟩
  have B:Below w.heap.size w W0:=Km
  rw[<-dF] at j
  obtain⟨U,EV,Q,o,HW⟩:=qF fh g j B dF
  clear fh g j B dF D G l d b hs hv
  go_enter func3,ntmps3
  go_upto_region 1 with (fail)
  rw[<-HW.out]
  go_wp2_with (first|(go_at_call 8;refine cp (U.out _ o.out) ?_;intro w1 f;have cH:=f.size;have y1:=fx (Q.out.on f);have i:=o.out.trans (f.mono o.out.size))|(go_at_call 9;refine cp (EV.out _ i) ?_;intro w2 hb2))
  go_ret
  exact RetB.of rfl (i.trans (hb2.mono i.size))
 |true=>
  rw[b] at g
  have mH:=Fx.yhA t b
  have E:=fun(W:World) (hW:Below w.heap.size w W)=>yfu t u 0 w.heap.size W (d.below hW cm) hW.size
  have H:=fun(W:World) (hW:Below w.heap.size w W)=>ydQ t u 0 w.heap.size W (d.below hW cm) hW.size
  have N:=fun(W:World) (hW:Below w.heap.size w W)=>Y5 t u 0 w.heap.size W (d.below hW cm) hW.size aG
  have M:=fun(W:World) (hW:Below w.heap.size w W)=>ym2 t u 0 w.heap.size W (d.below hW cm) hW.size aG
  obtain⟨SN,uC⟩: ∃ x,x=(Fx.size t).1 :=⟨_,rfl⟩
  obtain⟨SD,v7⟩: ∃ x,x=(Fx.size t).2 :=⟨_,rfl⟩
  obtain⟨RT,wb⟩: ∃ x,x=Fx.right t:=⟨_,rfl⟩
  obtain⟨FS,uF⟩: ∃ x:ByteArray,x=⟨(Fx.jq n).toArray⟩:=⟨_,rfl⟩
  rw[<-uC,<-v7] at E H
  rw[<-wb] at N M
  rw[<-uF] at D G
  obtain⟨K,X,A,I,F,z,y,v,a4,s,b2,r,q,a,m,c,rfl,l, -, -, -, -, -⟩:=d.flat
  have j:=WA (w:=w) (cs:=[.int .i64 K,.int .u64 X,.string A,.bool I,.int .i64 F,.int .i64 z,.int .i64 y,.bool v,.bool a4,.int .i64 s,.int .i64 b2,.bool r,.bool q,.slice a m c]) l
  rw[l] at g E H N M ⊢
  obtain⟨W0,dF⟩: ∃ W,W=w.alloc (.cells #[.int .i64 K,.int .u64 X,.string A,.bool I,.int .i64 F,.int .i64 z,.int .i64 y,.bool v,.bool a4,.int .i64 s,.int .i64 b2,.bool r,.bool q,.slice a m c] 27):=⟨_,rfl⟩
  have B:Below w.heap.size w W0:=Km
  rw[<-dF] at j
  have e1:((SN:Int)==SN)=true:=cn
  have e2:((SD:Int)==SD)=true:=cn
  have e3:(RT==RT)=true:=cn
  obtain⟨U,EV,Q,o,HW,Za,Lr,wG,lQ,Qt,rC⟩:=VP fh g j B dF E H N M D G
  clear fh g j B dF E H N M D G l d b hs hv mH uC v7 wb uF
  go_enter func3,ntmps3
  go_upto_region 1 with (fail)
  rw[<-HW.out]
  go_upto_region 7 with (first|(go_at_call 8;refine cp (U.out _ o.out) ?_;intro w1 f;have cH:=f.size;have y1:=fx (Q.out.on f);have i:=o.out.trans (f.mono o.out.size);have ph:=aL (Q.out.on f))|(go_at_call 9;refine cp (EV.out _ i) ?_;intro w2 hb2;have ku:=aL (ph.out.on hb2);have y2:=fx ku.out;have P:=i.trans (hb2.mono i.size))|(go_at_call 10;refine cp (Za.out _ P) ?_;intro w3 Y;have t8:=aL (ku.out.on Y);have y3:=fx t8.out;have O:=P.trans (Y.mono P.size))|(go_at_call 11;refine cp (Lr.out _ O) ?_;intro w4 V;have L:=aL (t8.out.on V);have y4:=fx L.out;have C:=O.trans (V.mono O.size)))
  have y4d:=fx (L.out.on eN.drew)
  have od:=aL C
  clear f hb2 Y V i P O y1 y2 y3
  go_region_held3 (fun w'=>(ox (.pointer (some ⟨w.heap.size,0,none⟩))).run prog w'= .ok (.agg #[.int .i64 K,.int .u64 X,.string A,.bool I,.int .i64 F,.int .i64 z,.int .i64 y,.bool v,.bool a4,.int .i64 s,.int .i64 b2,.bool r,.bool q,.slice a m c]) w')
   (first|exact k8|exact k7|exact k6|exact k5|exact y4d|go_keep)
   (first|(go_at_call 12;(with_reducible refine(wG.out _ (by first|exact C|exact C.drew)).mono ?_);rintro e S ⟨rfl,dr⟩;have T:Below w4.heap.size w4 S:=(by first|exact dr|exact(eN.drew).trans dr);have k5:=fx (L.out.on T);have J:=C.trans (T.mono C.size);have mU:=aL (L.out.on T))|(go_at_call 13;(with_reducible refine(lQ.out _ (by first|exact J|exact J.drew)).mono ?_);rintro e R ⟨rfl,gO⟩;have Z:Below S.heap.size S R:=(by first|exact gO|exact(eN.drew).trans gO);have k6:=fx (mU.out.on Z);have Df:=J.trans (Z.mono J.size);have kh:=aL (mU.out.on Z))|(go_at_call 14;refine cY (Qt.out _) ?_)|(go_at_call 15;refine cp (rC.out _) ?_;intro w8 pO;have Ij:Below R.heap.size R w8:=(by first|exact pO|exact(eN.drew).trans pO);have k8:=fx (kh.out.on Ij);have K0:=Df.trans (Ij.mono Df.size)))
  all_goals(go_wp2_with fail;go_ret)
  all_goals(exact RetB.of cn K0)
end

section
open Fx (Tr)
attribute [local go_sem ↓] qh qn
def Fx.ybv (t:Tr):Bool:=decide ((Fx.size t).1 <=600)&&Fx.vw t
def yiA (t:Tr) (u:Value) (lo hi:Nat) (w:World) (f:TreeAt w lo hi t u) (g:hi<=w.heap.size):
 Calls prog 16 #[trv t u] w (RetB (.bool (Fx.ybv t)) w):=by
 have d:=fun(W:World) (b:Below w.heap.size w W)=>yhl _ t u lo hi W cm (f.below b g) (dE g b.size);have e:=fun(W:World) (b:Below w.heap.size w W)=>ydQ t u lo hi W (f.below b g) (dE g b.size);unfold Fx.ybv;obtain⟨i,j⟩: ∃ x,x=(Fx.size t).1 :=⟨_,rfl⟩;obtain⟨s,n⟩: ∃ x,x=(Fx.size t).2 :=⟨_,rfl⟩;obtain⟨v,l⟩: ∃ x,x=Fx.vw t:=⟨_,rfl⟩;rw[<-j,<-n] at e;rw[<-l] at d;rw[<-j,<-l];obtain⟨K,X,TT,I,F,a1,a2,a3,a4,b1,b2,b3,b4,a,m,c,rfl,aK, -, -, -, -, -⟩:=f.flat;refine yex ?_;intro eo;rw[aK] at d e ⊢;obtain⟨W0,dF⟩: ∃ W,W=w.alloc (.cells #[.int .i64 K,.int .u64 X,.string TT,.bool I,.int .i64 F,.int .i64 a1,.int .i64 a2,.bool a3,.bool a4,.int .i64 b1,.int .i64 b2,.bool b3,.bool b4,.slice a m c] 27):=⟨_,rfl⟩;have o:Below w.heap.size w W0:=Km;rw[<-dF] at eo;have y0:=fx eo;obtain⟨EV,Lr,HN,HB,HW⟩:=qF d e eo o dF;clear d e eo o dF aK f j n l;by_cases h6:i<=600
 ·have q:(i:Int)<=600:=aG;rw[fv h6,gA];exact yjq
 ·have q: ¬ (i:Int)<=600:=aG;have r:(600:Int)<(i:Int):=aG;rw[eL h6,KH];exact yjq
def yc1 (w:World) (ds a:List Value) (hd:ds.length=10) (f:a.length=10) (i:(ds.all (·.oneCell'))=true) (l:(a.all (·.oneCell'))=true): ∃ X Y:World,
 (MR (.pointer (some ⟨w.heap.size,0,none⟩)) (.agg ds.toArray)).run prog ((w.alloc (.cells #[.string ⟨#[]⟩,.string ⟨#[]⟩,.string ⟨#[]⟩,.string ⟨#[]⟩,.string ⟨#[]⟩,.string ⟨#[]⟩,.string ⟨#[]⟩,.bool false,.bool false,.slice none 0 0] 36)).alloc (.cells #[.string ⟨#[]⟩,.string ⟨#[]⟩,.string ⟨#[]⟩,.string ⟨#[]⟩,.string ⟨#[]⟩,.string ⟨#[]⟩,.string ⟨#[]⟩,.bool false,.bool false,.int .i64 0] 38))= .ok () X/\
 (To (.pointer (some ⟨w.heap.size+1,0,none⟩)) (.agg a.toArray)).run prog X= .ok () Y/\Mem Y w.heap.size ds 36/\Mem Y (w.heap.size+1) a 38/\Below w.heap.size w Y/\Y.heap.size=w.heap.size+2:=by
 obtain⟨d,b⟩: ∃ W,W=(w.alloc (.cells #[.string ⟨#[]⟩,.string ⟨#[]⟩,.string ⟨#[]⟩,.string ⟨#[]⟩,.string ⟨#[]⟩,.string ⟨#[]⟩,.string ⟨#[]⟩,.bool false,.bool false,.slice none 0 0] 36)).alloc (.cells #[.string ⟨#[]⟩,.string ⟨#[]⟩,.string ⟨#[]⟩,.string ⟨#[]⟩,.string ⟨#[]⟩,.string ⟨#[]⟩,.string ⟨#[]⟩,.bool false,.bool false,.int .i64 0] 38):=⟨_,rfl⟩
 have e:Mem d w.heap.size zk 36:=by rw[b];exact(Mem.new w zk 36).on (ek)
 have j:Mem d (w.heap.size+1) [.string ⟨#[]⟩,.string ⟨#[]⟩,.string ⟨#[]⟩,.string ⟨#[]⟩,.string ⟨#[]⟩,.string ⟨#[]⟩,.string ⟨#[]⟩,.bool false,.bool false,.int .i64 0] 38:=by rw[b];have h:=Mem.new (w.alloc (.cells #[.string ⟨#[]⟩,.string ⟨#[]⟩,.string ⟨#[]⟩,.string ⟨#[]⟩,.string ⟨#[]⟩,.string ⟨#[]⟩,.string ⟨#[]⟩,.bool false,.bool false,.slice none 0 0] 36)) [.string ⟨#[]⟩,.string ⟨#[]⟩,.string ⟨#[]⟩,.string ⟨#[]⟩,.string ⟨#[]⟩,.string ⟨#[]⟩,.string ⟨#[]⟩,.bool false,.bool false,.int .i64 0] 38;rw[i7] at h;exact h
 have b2:Below w.heap.size w d:=by rw[b];exact(ek).alloc cn _
 have z2:d.heap.size=w.heap.size+2:=by rw[b];simp
 rw[<-b];obtain⟨X,c⟩:=bx (d.setCells w.heap.size 0 ds);have m:Mem X w.heap.size ds 36:=by rw[c];exact e.setCells (by rw[hd];rfl)
 have g:Mem X (w.heap.size+1) [.string ⟨#[]⟩,.string ⟨#[]⟩,.string ⟨#[]⟩,.string ⟨#[]⟩,.string ⟨#[]⟩,.string ⟨#[]⟩,.string ⟨#[]⟩,.bool false,.bool false,.int .i64 0] 38:=by rw[c];exact j.setCells_other aG ds 0
 have k:Below w.heap.size w X:=by rw[c];exact mX cm _ _ b2
 have zx:X.heap.size=w.heap.size+2:=by rw[c,yJ];exact z2
 refine⟨X,X.setCells (w.heap.size+1) 0 a,?_,ybb g rfl f (Cu l),m.setCells_other aG a 0,g.setCells (by rw[f];rfl),mX (ls _) _ _ k,by rw[yJ];exact zx⟩;rw[c];exact WG e rfl hd (Cu i)
def Mem.onl {w w':World} {B q:Nat} {a:List Value} {T:TypeId} (h:Mem w B a T) (b:Onl q w w') (c:B≠q):Mem w' B a T:=(b.block B c h.lt).trans h
def Nd.onl {w w':World} {B q:Nat} {X:Value} (h:Nd w B X) (a:Onl q w w') (b:B≠q):Nd w' B X:=by obtain⟨cs,i,m⟩:=h;exact⟨cs,i,m.onl a b⟩
def RW {w:World} (f:Bs w) (n l m pc p:ByteArray) (o sp:Bool) (d a:Nat) (D L:UInt8) (W:World) (c:Below w.heap.size w W):
 Calls prog 18 #[.agg #[.string n,.string ⟨#[D]⟩,.string l,.string ⟨#[L]⟩,.string m,.string pc,.string p,.bool o,.bool sp,.slice (some ⟨d,0,none⟩) a a]] W
  (fun e w'=> ∃ g b v b2:Nat,e= .returned (.pointer (some ⟨g,0,none⟩))/\W.heap.size<=g/\W.heap.size<=b/\W.heap.size<=v/\W.heap.size<=b2/\St w w' g b v b2 D L/\Below W.heap.size W w'):=
 (yfD n l m pc p o sp d a D L W (f.ev.of c.size (c.block _ f.ev.lt))).mono fun e w' ⟨g,b,v,b2,r,k,j,i,h,q,hb⟩=>⟨g,b,v,b2,r,k,j,i,h,St.new q c hb k j i h,hb⟩
def ydY {w W:World} (c:Bs w) {g b v b2:Nat} {D L:UInt8} (S:St w W g b v b2 D L) {t:Tr} {u:Value} (a:TreeAt w 0 w.heap.size t u) (hm:Fx.tmax t<=9223372036854775807):
 Calls prog 19 #[.pointer (some ⟨g,0,none⟩),trv t u] W (RetR b2 (.string ⟨(Fx.print D L t).toArray⟩) W):=
 yk8 t u g b v b2 0 w.heap.size D L W (S.fop c) (a.below S.bl cm) S.bl.size (.inr S.hb2) hm
def yvs {w W:World} (a:Bs w) {g b v b2 lo:Nat} {D L:UInt8} (S:St w W g b v b2 D L) {X:Value} {t:Tr} (hx:TreeV W lo X t) (c:b2<lo) (hm:Fx.tmax t<=9223372036854775807):
 Calls prog 19 #[.pointer (some ⟨g,0,none⟩),X] W (RetR b2 (.string ⟨(Fx.print D L t).toArray⟩) W):=Qs S a hx c _ rfl hm
def yf6 {w W:World} {g b v b2:Nat} {D L:UInt8} (hl:Fx.Lc D L) (S:St w W g b v b2 D L) (s:ByteArray) (h:s.size<=9223372036854775807):
 Calls prog 21 #[.pointer (some ⟨g,0,none⟩),.string s] W (ParseR b (Fx.parse D L s.data.toList) W):=yf9 hl S.fw.fo s h
end

section
open Fx (Tr)
attribute [local go_sem ↓] qh qn
attribute [local go_sem high] W2 Xn Wc
def yqY (t t':Tr) (v e:Value) (lo hi q o:Nat) (w:World) (i:TreeAt w lo hi t v) (f:TreeAt w q o t' e) (b:t.kind≠t'.kind):
 Calls prog 22 #[trv t v,trv t' e] w (RetB (.bool false) w):=by
 obtain⟨K,X,S,I,F,P,O,N,a4,M,b2,L,J,a,m,c,rfl,l,j, -, -, -, -⟩:=i.flat;obtain⟨d,R,r,T,U,u,x,y,z,A,B,C,D,Q,s,H,rfl,g,n, -, -, -, -⟩:=f.flat;rw[l,g]
 have k: ¬ K=d:=by rw[j,n] at b;exact b
 have G:(K==d)=false:=by simpa using k
 have E:(K != d)=true:=by simpa using k
 clear l g j n i f b;go_enter func22,ntmps22
 go_wp2_with fail
 go_ret
 exact qO
def ypS {t:Tr} (h:Fx.right t=true):t.kind≠0:=by
 intro e;unfold Fx.right at h;simp only[fs,kF] at h;have c:=h.2.2
 cases t with
 |mk k x s i f a b ks=>
  have d:k=0:=e
  subst d
  rw[Fx.hG,fs,Fx.sB] at c
  simp at c
def IB {w W:World} {g b v b2:Nat} {D L:UInt8} (hl:Fx.Lc D L) (S:St w W g b v b2 D L) {s:ByteArray} (h:s.size<=9223372036854775807) {t:Tr} (c:Fx.parse D L s.data.toList=(some t,0,0)):
 Calls prog 21 #[.pointer (some ⟨g,0,none⟩),.string s] W (fun e w'=> ∃ X,e= .returned (.tuple #[X,.int .i64 0,.int .i64 0])/\TreeV w' W.heap.size X t/\Onl b W w'/\Rdr w' b):=by
 have a:=yf6 hl S s h;rw[c] at a;exact a
def W1 {w W:World} {g b v b2:Nat} {D L:UInt8} (hl:Fx.Lc D L) (S:St w W g b v b2 D L) {s:ByteArray} (h:s.size<=9223372036854775807) {x p:Int} (c:Fx.parse D L s.data.toList=(none,x,p)):
 Calls prog 21 #[.pointer (some ⟨g,0,none⟩),.string s] W (fun e w'=> ∃ X,e= .returned (.tuple #[X,.int .i64 x,.int .i64 p])/\TreeV w' W.heap.size X zn/\Onl b W w'/\Rdr w' b):=by
 have a:=yf6 hl S s h;rw[c] at a;exact a
def yoD {w W:World} {g b v b2:Nat} {D L:UInt8} (hl:Fx.Lc D L) (S:St w W g b v b2 D L) (s:ByteArray) (h:s.size<=9223372036854775807):
 Calls prog 21 #[.pointer (some ⟨g,0,none⟩),.string s] W (fun e w'=> ∃ (X:Value) (t:Tr) (x p:Int),e= .returned (.tuple #[X,.int .i64 x,.int .i64 p])/\TreeV w' W.heap.size X t/\Onl b W w'/\Rdr w' b):=
 (yf6 hl S s h).mono fun e w' ⟨X,a,f,d,c⟩=>⟨X,_,_,_,a,f,d,c⟩
def ygf {W:World} {lo c:Nat} {X Y:Value} {t:Tr} (hx:TreeV W lo X t) (d:TreeV W c Y t):Calls prog 22 #[X,Y] W (RetB (.bool true) W):=by obtain⟨A,h,f⟩:=hx;obtain⟨u,rfl,e⟩:=h.at f;obtain⟨i,h',g⟩:=d;obtain⟨a,rfl,b⟩:=h'.at g;exact ygj _ t u a _ _ _ _ W cm e b cm cm
def ywZ {W:World} {lo c:Nat} {X Y:Value} {t t':Tr} (hx:TreeV W lo X t) (d:TreeV W c Y t') (f:t.kind≠t'.kind):Calls prog 22 #[X,Y] W (RetB (.bool false) W):=by obtain⟨A,h,g⟩:=hx;obtain⟨u,rfl,e⟩:=h.at g;obtain⟨j,h',i⟩:=d;obtain⟨a,rfl,b⟩:=h'.at i;exact yqY t t' u a _ _ _ _ W e b f
def TreeV.onl {w w':World} {lo q:Nat} {X:Value} {t:Tr} (h:TreeV w lo X t) (a:Onl q w w') (hq:q<lo):TreeV w' lo X t:=h.kept cm a.size (fun k c b=>a.block k aG b)
def yiI {w:World} {B lo:Nat} {X:Value} {W:World} (b:TreeV W lo X zn) (c:Nd w B X):w.cell? ⟨B,0,none⟩=some (.int .i64 0):=by obtain⟨A,⟨v,e,_⟩,_⟩:=b;obtain⟨cs,d,a⟩:=c;subst e;obtain rfl:=d.cells;exact a.get 0 rfl
end

section
open Fx (Tr)
attribute [local go_sem ↓] qh qn We Wy LP yaS
def yn6 (t:Tr) (u:Value) (n m:Int) (hn: -9223372036854775808<=n/\n<=9223372036854775807) (hm: -9223372036854775808<=m/\m<=9223372036854775807) (w:World) (ht:TreeAt w 0 w.heap.size t u) (mH:Fx.tmax t<=9223372036854775807) (hs:Bs w) (hv:Vars w):
 Calls prog 6 #[trv t u,.int .i64 n,.int .i64 m] w (RetB (.bool true) w):=by
 refine ybo ?_;intro fh;have fc:=fun(W:World) (hW:Below w.heap.size w W)=>Y5 t u 0 w.heap.size W (ht.below hW cm) hW.size mH;have jI:=fun(W:World) (hW:Below w.heap.size w W)=>yiA t u 0 w.heap.size W (ht.below hW cm) hW.size;obtain⟨SB,re⟩: ∃ x,x=Fx.ybv t:=⟨_,rfl⟩;rw[<-re] at jI
 cases hrb:Fx.right t with
 |false=>
  rw[hrb] at fc
  exact yif
 |true=>
  rw[hrb] at fc
  cases SB with
  |false=>exact yif
  |true=>
   obtain⟨D,L,U,sF⟩:=ycQ n hn
   obtain⟨D',q,CR,Sk⟩:=ycQ m hm
   have ny:=fun(W:World) (hW:Below w.heap.size w W)=>sF W (hv.on hW)
   have H9:=fun(W:World) (hW:Below w.heap.size w W)=>Sk W (hv.on hW)
   have E:=fun(W:World) (g b v b2:Nat) (S:St w W g b v b2 D L)=>ydY hs S ht mH
   have G:=fun(W:World) (g b v b2:Nat) (S:St w W g b v b2 D' q)=>ydY hs S ht mH
   obtain⟨y,CI⟩: ∃ x:ByteArray,x=⟨(Fx.print D L t).toArray⟩:=⟨_,rfl⟩
   obtain⟨s,OC⟩: ∃ x:ByteArray,x=⟨(Fx.print D' q t).toArray⟩:=⟨_,rfl⟩
   rw[<-CI] at E
   rw[<-OC] at G
   have RK:y.size<=1000-> ∀ (W:World) (g b v b2:Nat) (_:St w W g b v b2 D L),Calls prog 21 #[.pointer (some ⟨g,0,none⟩),.string y] W (fun e w'=> ∃ X,e= .returned (.tuple #[X,.int .i64 0,.int .i64 0])/\TreeV w' W.heap.size X t/\Onl b W w'/\Rdr w' b):=fun hl W g b v b2 S=>
    IB U S (dE hl bL) (by
     have e:y.data.toList=Fx.print D L t:=by rw[CI]
     rw[e];exact Fx.Q9 U hrb (by rw[<-e,dN];exact hl))
   have RJ:s.size<=1000-> ∀ (W:World) (g b v b2:Nat) (_:St w W g b v b2 D' q),Calls prog 21 #[.pointer (some ⟨g,0,none⟩),.string s] W (fun e w'=> ∃ X,e= .returned (.tuple #[X,.int .i64 0,.int .i64 0])/\TreeV w' W.heap.size X t/\Onl b W w'/\Rdr w' b):=fun hl W g b v b2 S=>
    IB CR S (dE hl bL) (by
     have e:s.data.toList=Fx.print D' q t:=by rw[OC]
     rw[e];exact Fx.Q9 CR hrb (by rw[<-e,dN];exact hl))
   obtain⟨K,X,TT,I,F,a1,a2,a3,a4,b1,b2,b3,b4,a,m,c,rfl,aK, -, -, -, -, -⟩:=ht.flat
   have eo:=WA (w:=w) (cs:=[.int .i64 K,.int .u64 X,.string TT,.bool I,.int .i64 F,.int .i64 a1,.int .i64 a2,.bool a3,.bool a4,.int .i64 b1,.int .i64 b2,.bool b3,.bool b4,.slice a m c]) aK
   rw[aK] at fc jI E G ⊢
   obtain⟨W0,dF⟩: ∃ W,W=w.alloc (.cells #[.int .i64 K,.int .u64 X,.string TT,.bool I,.int .i64 F,.int .i64 a1,.int .i64 a2,.bool a3,.bool a4,.int .i64 b1,.int .i64 b2,.bool b3,.bool b4,.slice a m c] 27):=⟨_,rfl⟩
   have iE:Below w.heap.size w W0:=Km
   have u9:W0.heap.size=w.heap.size+1:=by rw[dF];simp
   rw[<-dF] at eo
   obtain⟨fQ,oc,rs,HN,HB,HW,pZ,HFJ,PY,wI,i,ZB,ZA⟩:=ybU fh fc jI eo iE dF ny H9 E G hs RK RJ
   clear fh fc jI eo iE dF aK ht hrb hs hv mH re sF ny Sk H9 E G CI OC U CR RK RJ
   go_enter func6,ntmps6
   go_upto_region 1 with (fail)
   rw[<-HW.out]
   go_upto_region 12 with (first|(go_at_call 8;refine cp (fQ.out _ HB.out) ?_;intro w1 aw;have cH:=aw.size;have y1:=fx (HN.out.on aw);have bd:=HB.out.trans (aw.mono HB.out.size);have ph:=aL (HN.out.on aw))|(go_at_call 12;refine cp (oc.out _ bd) ?_;intro w2 hb2;have eK:=hb2.size;have ku:=aL (ph.out.on hb2);have y2:=fx ku.out;have aP:=bd.trans (hb2.mono bd.size))|(go_at_call 16;refine cp (rs.out _ aP) ?_;intro w3 aU;have fb:=aU.size;have t8:=aL (ku.out.on aU);have cL:=aP.trans (aU.mono aP.size))|(go_at_call 17;refine cV (pZ.out _ cL) ?_;rintro e w4 ⟨YA,VA,O0,Mf,O5,Vz,OZ,Me,O4,Yp,Vq,Yn,Vo,Re,An,rfl,Z⟩;have uj:=Z.size;obtain⟨X4,Y4,wX,F0,z,T,l,zY⟩:=yc1 w4 [.string VA,.string ⟨#[D]⟩,.string O0,.string ⟨#[L]⟩,.string Mf,.string ⟨#[37]⟩,.string O5,.bool Yp,.bool Vq,.slice (some ⟨YA,0,none⟩) Re Re] [.string Vz,.string ⟨#[D]⟩,.string OZ,.string ⟨#[L]⟩,.string Me,.string ⟨#[37]⟩,.string O4,.bool Yn,.bool Vo,.int .i64 An] rfl rfl rfl rfl;have bM:=cL.trans (Z.mono cL.size);have Q:=aL (bM.trans (l.mono bM.size));have ic:=aL ((t8.out.on Z).on l);have Qj:=aL z;clear z T l)|(go_at_call 17;refine cV (HFJ.out _ Q.out) ?_;rintro e w5 ⟨Yz,Vy,OX,Md,O3,Vx,OW,Mc,O2,Yo,Vp,Ym,Vn,Rd,UI,rfl,M⟩;have kA:=M.size;obtain⟨X5,N,QZ,J4,z,T,l,zY5⟩:=yc1 w5 [.string Vy,.string ⟨#[D']⟩,.string OX,.string ⟨#[q]⟩,.string Md,.string ⟨#[37]⟩,.string O3,.bool Yo,.bool Vp,.slice (some ⟨Yz,0,none⟩) Rd Rd] [.string Vx,.string ⟨#[D']⟩,.string OW,.string ⟨#[q]⟩,.string Mc,.string ⟨#[37]⟩,.string O2,.bool Ym,.bool Vn,.int .i64 UI] rfl rfl rfl rfl;have jp:=Q.out.trans (M.mono Q.out.size);have Ai:=aL (jp.trans (l.mono jp.size));have mU:=aL ((ic.out.on M).on l);have E4:=aL ((Qj.out.on M).on l);have LE:=aL z;have x1:=zS E4.out rfl;clear z T l)|(go_at_call 18;refine cV (RW i.out _ _ _ _ _ _ _ _ _ D L _ Ai.out) ?_;rintro e j ⟨g,b,v,c2,rfl,hg,hb,gU,dh,r,Y⟩;have mT:=aL r;have l1:N.heap.size<=b:=hb;have l2:N.heap.size<=c2:=dh;have l3:N.heap.size<=g:=hg;have l4:N.heap.size<=v:=gU;have m1:b<j.heap.size:=r.fw.fo.rd.lt;have m2:c2<j.heap.size:=r.fw.wr.rd.lt;have m3:g<j.heap.size:=r.fw.fo.gl;have m4:v<j.heap.size:=r.fw.wr.lt;have kh:=aL (mU.out.on Y);have x2:=zS (LE.out.on Y) rfl;clear r Y)|(go_at_call 18;refine cV (RW i.out _ _ _ _ _ _ _ _ _ D' q _ mT.out.bl) ?_;rintro e w7 ⟨g',b',v',c',rfl,NM,jm,VY,pN,O,R⟩;have mS:=aL O;have PJ:=aL (mT.out.on R);have l5:j.heap.size<=b':=jm;have l6:j.heap.size<=c':=pN;have l7:j.heap.size<=g':=NM;have l8:j.heap.size<=v':=VY;have m5:b'<w7.heap.size:=O.fw.fo.rd.lt;have m6:c'<w7.heap.size:=O.fw.wr.rd.lt;have nO:=aL (kh.out.on R);have y7:=fx nO.out;clear O R)|(go_at_call 19;refine cV (PY.out _ g b v c2 PJ.out) ?_;rintro e w8 ⟨rfl,A,RG⟩;have J8:=A.size;have Zw:=aL (PJ.out.print i.out A RG);have Ji:=aL (mS.out.other i.out PJ.out.hb2 A aG aG aG aG);have JD:=aL (nO.out.onl A aG);have y8:=fx JD.out;clear A RG)|(go_at_call 19;refine cV (wI.out _ g' b' v' c' Ji.out) ?_;rintro e w9 ⟨rfl,H,qS⟩;have VN:=H.size;have P:=aL (Ji.out.print i.out H qS);have PI:=aL (Zw.out.other i.out Ji.out.hb2 H aG aG aG aG);clear H qS))
   by_cases J:y.size<=1000
   ·have d1:decide ((1000:Int)<(y.size:Int))=false:=eL aG
    by_cases V:s.size<=1000
    ·have d2:decide ((1000:Int)<(s.size:Int))=false:=eL aG
     have PW:=aL (ZB.out J);have ZE:=aL (ZA.out V)
     clear J V
     go_wp2_with (first|(go_at_call 21;refine cV (PW.out _ _ _ _ _ PI.out) ?_;rintro e JZ ⟨YF,rfl,o,f,B⟩;obtain⟨cs,C⟩:=o.isN;obtain⟨Z10,Vm,nd,d,UM⟩:=Dd JZ C;have Rj:=f.size;have Zx:=aL ((PI.out.parse i.out f B).on d);have tS:=aL ((P.out.other i.out PI.out.hb f aG aG aG aG).on d);have wC:=aL (o.on d);have wO:=aL nd;clear o f B C nd d)|(go_at_call 21;refine cV (ZE.out _ _ _ _ _ tS.out) ?_;rintro e pu ⟨YE,rfl,o,f,B⟩;obtain⟨cs,C⟩:=o.isN;obtain⟨Z11,Vl,nd,d,UL⟩:=Dd pu C;have qD:=aL ((tS.out.parse i.out f B).on d);have QJ:=aL ((wC.out.onl f aG).on d);have Qg:=aL ((wO.out.onl f aG).on d);have DH:=aL (o.on d);have y10:=fx Qg.out;have y11:=fx nd;clear o f B C nd d)|(go_at_call 22;refine cp (ygf QJ.out DH.out) ?_;intro JY jl))
     go_ret
     exact RetB.of rfl (qD.out.bl.trans (jl.mono qD.out.bl.size))
    ·have d2:decide ((1000:Int)<(s.size:Int))=true:=fv aG
     clear J V
     go_wp2_with fail
     go_ret
     exact RetB.of rfl P.out.bl
   ·have d1:decide ((1000:Int)<(y.size:Int))=true:=fv aG
    clear J
    go_wp2_with fail
    go_ret
    exact RetB.of rfl P.out.bl
end

section
open Fx (Tr)
attribute [local go_sem ↓] qh qn We Wy LP yaS
def yiq (s:ByteArray):(⟨#[32,40,32]⟩++s++⟨#[194,160,41,10]⟩:ByteArray).data.toList =[32,40,32]++(s.data.toList++Fx.Z):=by simp[ByteArray.data_append,Fx.Z]
def ymd (s:ByteArray):(⟨#[32,32]⟩++s:ByteArray).data.toList =32::32::s.data.toList:=by simp[ByteArray.data_append]
def ydJ (s:ByteArray) (h:s.size<=990):(⟨#[32,40,32]⟩++s++⟨#[194,160,41,10]⟩:ByteArray).size <=9223372036854775807:=by rw[D3,D3];have b:(⟨#[32,40,32]⟩:ByteArray).size =3:=rfl;have a:(⟨#[194,160,41,10]⟩:ByteArray).size =4:=rfl;omega
def yli (s:ByteArray) (h:s.size<=990):(⟨#[32,32]⟩++s:ByteArray).size <=9223372036854775807:=by rw[D3];have a:(⟨#[32,32]⟩:ByteArray).size =2:=rfl;omega
def yoy (s:ByteArray) (n:Int) (hz:s.size<=9223372036854775807) (hn: -9223372036854775808<=n/\n<=9223372036854775807) (w:World) (hs:Bs w) (hv:Vars w):
 Calls prog 7 #[.string s,.int .i64 n] w (RetB (.bool true) w):=by
 refine ybo ?_;intro fh;have fQ:=aL fh;clear fh;by_cases F:990<s.size
 ·have r:decide ((990:Int)<(s.size:Int))=true:=fv aG;clear hs hv;go_enter func7,ntmps7
  go_wp2_with (go_at_call 8;refine cp (fQ.out _ eN) ?_;intro w1 aw;have cH:=aw.size)
  go_ret
  exact RetB.of rfl aw
 ·have r:decide ((990:Int)<(s.size:Int))=false:=eL aG;have c:s.size<=990:=aG;have hl:s.data.toList.length<=990:=by rw[dN];exact c
  obtain⟨D,L,iC,j⟩:=ycQ n hn;have l:=fun(W:World) (hW:Below w.heap.size w W)=>j W (hv.on hW);obtain⟨pZ,HS⟩:=dY l hs;clear j l;rcases Fx.ybr D L s.data.toList with ⟨t,hp⟩|⟨e,p,hp,o,A⟩
  ·have i:t.kind≠zn.kind:=ypS (Fx.ygQ hp).1;have d:=fun(W:World) (g b v b2:Nat) (S:St w W g b v b2 D L)=>IB iC S hz hp;have Jv:=aL d;clear d;rcases Fx.yw1 iC s.data.toList hl t hp with h2|⟨z,h2⟩
   ·rw[<-yiq] at h2;have a:=fun(W:World) (g b v b2:Nat) (S:St w W g b v b2 D L)=>IB iC S (ydJ s c) h2;have dU:=aL a;clear a h2 hp i hs hv iC hl hz;go_enter func7,ntmps7
    go_wp2_with (first|(go_at_call 8;refine cp (fQ.out _ eN) ?_;intro w1 aw;have cH:=aw.size)|(go_at_call 17;refine cV (pZ.out _ aw) ?_;rintro e w3 ⟨bz,uX,wu,uZ,ww,uW,tK,uY,tM,fi,sp,fj,sq,kz,zz,rfl,aU⟩;refine yc8 ?_;intro fb X3 Y3 wX F0 mL mR bY zY;have cL:=aw.trans (aU.mono aw.size);have pn:=aL (cL.trans (bY.mono cL.size));have pi:=aL mL;have x1:=zS pi.out rfl;clear mL mR bY)|(go_at_call 18;refine cV (RW HS.out _ _ _ _ _ _ _ _ _ D L _ pn.out) ?_;rintro e w5 ⟨g,b,v,c2,rfl,hg,hb,gU,dh,S5,dr⟩;have pV:=aL S5;have l1:Y3.heap.size<=b:=hb;have l5:b<w5.heap.size:=S5.fw.fo.rd.lt;clear S5 dr)|(go_at_call 21;refine yiS ?_;intro w6 X6 O7 Z6 J4 LR At mT rq kh tV D5 BG y6)|(go_at_call 21;refine ykh ?_;intro w7 X7 O6 Z7 FZ Fd u7 mS nH nO Aa pm BF qM DT y7 y8)|(go_at_call 22;refine cp (ygf qM.out nH.out) ?_;intro m f))
    go_ret
    exact RetB.of rfl (mS.out.bl.trans (f.mono mS.out.bl.size))
   ·rw[<-yiq] at h2;have a:=fun(W:World) (g b v b2:Nat) (S:St w W g b v b2 D L)=>W1 iC S (ydJ s c) h2;obtain⟨dU,y⟩:=dY a i;clear a h2 hp i hs hv iC hl hz;go_enter func7,ntmps7
    go_wp2_with (first|(go_at_call 8;refine cp (fQ.out _ eN) ?_;intro w1 aw;have cH:=aw.size)|(go_at_call 17;refine cV (pZ.out _ aw) ?_;rintro e w3 ⟨bz,uX,wu,uZ,ww,uW,tK,uY,tM,fi,sp,fj,sq,kz,zz,rfl,aU⟩;refine yc8 ?_;intro fb X3 Y3 wX F0 mL mR bY zY;have cL:=aw.trans (aU.mono aw.size);have pn:=aL (cL.trans (bY.mono cL.size));have pi:=aL mL;have x1:=zS pi.out rfl;clear mL mR bY)|(go_at_call 18;refine cV (RW HS.out _ _ _ _ _ _ _ _ _ D L _ pn.out) ?_;rintro e w5 ⟨g,b,v,c2,rfl,hg,hb,gU,dh,S5,dr⟩;have pV:=aL S5;have l1:Y3.heap.size<=b:=hb;have l5:b<w5.heap.size:=S5.fw.fo.rd.lt;clear S5 dr)|(go_at_call 21;refine yiS ?_;intro w6 X6 O7 Z6 J4 LR At mT rq kh tV D5 BG y6)|(go_at_call 21;refine ykh ?_;intro w7 X7 O6 Z7 FZ Fd u7 mS nH nO Aa pm BF qM DT y7 y8)|(go_at_call 22;refine cp (ywZ qM.out nH.out y.out) ?_;intro m f))
    go_ret
    exact RetB.of rfl (mS.out.bl.trans (f.mono mS.out.bl.size))
  ·have d:=fun(W:World) (g b v b2:Nat) (S:St w W g b v b2 D L)=>W1 iC S hz hp;have a:=fun(W:World) (g b v b2:Nat) (S:St w W g b v b2 D L)=>yoD iC S (⟨#[32,40,32]⟩++s++⟨#[194,160,41,10]⟩) (ydJ s c);obtain⟨Jv,dU⟩:=dY d a;clear d a;have H:(e==0)=false:=by simp[o]
   have G:p<=990:=aG;rcases Fx.ysk D L s.data.toList hl e p hp with h2|⟨h2,E,u⟩
   ·rw[<-ymd] at h2;have fy:=fun(W:World) (g b v b2:Nat) (S:St w W g b v b2 D L)=>W1 iC S (yli s c) h2;have fR:=aL fy;have q:(e==e)=true:=cn;have C:((p:Int)+2==(p:Int)+2)=true:=cn;exact yhd
   ·rw[<-ymd] at h2;have fy:=fun(W:World) (g b v b2:Nat) (S:St w W g b v b2 D L)=>W1 iC S (yli s c) h2;have fR:=aL fy;have x:p=0:=aG;subst x;have q:(e==e)=true:=cn;have B:(e != 13)=true:=by simp[u]
    exact yhd
end
end Go.Proofs.YtilbpmimoijfhaaGreatDoor
