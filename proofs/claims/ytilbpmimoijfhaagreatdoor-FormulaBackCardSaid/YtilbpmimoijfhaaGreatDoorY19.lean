import Derived.Test.YtilbpmimoijfhaaGreatDoorY15
import Derived.Test.YtilbpmimoijfhaaGreatDoorY16
import Derived.Test.YtilbpmimoijfhaaGreatDoorY11
namespace Go.Proofs.YtilbpmimoijfhaaGreatDoor
set_option linter.all false
set_option maxRecDepth 100000
set_option maxHeartbeats 16000000
open Go.RowKit Go.Proofs.Tryz
section
attribute [local go_sem] Dc.Res.val
end

section
attribute [local go_sem] Fl.dv Dc.Res.val
def Fl.yqq (x:Nat):Fl.mant x<Na.B^2/\2*Fl.mant x+1<Na.B^2/\(-1100<=Fl.expn x/\Fl.expn x<=1100)/\(-1100<=Fl.expn x-1/\Fl.expn x-1<=1100):=by have c:=Fl.VS x;have b:=Fl.KU x;have a:Na.B^2=18446744073709551616:=rfl;omega
def yjo (x:Nat) (hx:x<18446744073709551616) (w:World) (F:Tab w):Calls prog 107 #[.int .u64 x] w (RetB (Fl.dec x).val w):=by
 obtain⟨d,b2,l,u⟩:=Fl.yqq x;have a:=fun w=>yam x hx w;have f:=fun w=>ydH x hx w;by_cases h:3<=Fl.kind x
 ·have hd:=aL (show Fl.dec x=⟨false,[],0,11⟩ from bT h);obtain⟨k,c⟩:=bx (Fl.kind x);rw[<-c] at a h;have n:=aL a;clear c a f d b2 l u;go_enter func107,ntmps107
  go_wp2_with (go_at_call 106;refine cY (n.out _) ?_)
  refine eB (v:= .tuple #[.agg #[.bool false,.string ⟨#[]⟩,.int .i64 0],.int .i64 11]) (by simp[results,results107,go_sem];done) rfl (RetB.of (by rw[hd.out];first|done|rfl) dt)
 ·have hd:=aL (show Fl.dec x=Fl.okd (Fl.of (Fl.neg x) (Fl.mant x) (Fl.expn x)) from bv h);obtain⟨k,c⟩:=bx (Fl.kind x);obtain⟨m,hm⟩: ∃ k,k=Fl.mant x:=⟨_,rfl⟩;obtain⟨e,i⟩: ∃ k,k=Fl.expn x:=⟨_,rfl⟩;obtain⟨s,r⟩: ∃ k,k=Fl.neg x:=⟨_,rfl⟩;rw[<-hm,<-i,<-r] at f hd;rw[<-hm] at d b2;rw[<-i] at l u;rw[<-c] at a h;have E:m<18446744073709551616:=d;obtain⟨K,J⟩:=l;obtain⟨n,z⟩:=dY a f;have I:=aL (fun w=>yb3 m E w);have q:=aL (fun b g (hb:Below w.heap.size w b) (a:Blk b g (Na.cl m))=>ymz s (some ⟨g,0,none⟩) (Na.cl m).length m e b (a.sl (Na.zh m) cm) d aG (F.below hb));obtain⟨R,t⟩:=bx (Fl.of s m e);rw[<-t] at hd q;clear c hm i r a f d b2 t;go_enter func107,ntmps107
  go_wp2_with (first|(go_at_call 106;refine cY (n.out _) ?_)|(go_at_call 138;refine cY (z.out _) ?_)|(go_at_call 140;refine cV (I.out _) ?_;rintro e b ⟨g,rfl,hg,a,y⟩;have G:=(Z3.new w).on y;have j:Below w.heap.size w b:=yY (ek) (y.mono cn))|(go_at_call 139;refine cp (q.out _ _ j a) ?_;intro o hb2;have L:=j.trans (hb2.mono j.size);have H:=G.on hb2;obtain⟨y0,y1,y2,yf,yl⟩:=H;have A:=yf 0;have B:=yf 1;have C:=yf 2;have yn: ¬ w.heap.size=o.heap.size:=aG;have D: ¬ o.heap.size=w.heap.size:=aG))
  refine eB (v:= .tuple #[Fl.dv R,.int .i64 0]) (by simp[results,results107,go_sem,y0,y1,y2,A,B,C,yn,D,yl];done) rfl (RetB.of (by rw[hd.out];first|done|rfl) dt)
end



section
attribute [local go_sem] Fl.dv
def Z5 (W:World) (b:Nat):Prop:=W.cell? ⟨b,0,none⟩=some (.bool false)/\W.cell? ⟨b,1,none⟩=some (.string ⟨#[]⟩)/\W.cell? ⟨b,2,none⟩=some (.int .i64 0)/\W.cell? ⟨b,3,none⟩=some (.int .i64 0)/\W.cell? ⟨b,4,none⟩=some (.int .i64 0)/\(∀ o,W.frozen? ⟨b,o,none⟩=false)/\b<W.heap.size
section
variable (x:Nat) (hx:x<18446744073709551616) (most:Int) (hm: -9223372036854775808<=most/\most<=9223372036854775807) (w:World)
include hx hm
end
def ype (w:World):Sl (w.alloc (Obj.cells #[Value.int IntKind.u32 1] 85)) (some ⟨w.heap.size,0,none⟩) 1 (Na.cl 1):=by rw[Na.DZ];exact yoI w 1 bL
end

def CF (w:World) (b:Nat) (a:List Value):Prop:=Cs w b a/\ ∀ o,w.frozen? ⟨b,o,none⟩=false
def CF.new (w:World) (a:List Value) (t:TypeId):CF (w.alloc (.cells a.toArray t)) w.heap.size a:=
 ⟨Cs.new w a _,fun o=>by
  unfold World.frozen?;simp only[];rw[show(w.alloc (.cells a.toArray t)).heap[w.heap.size]? =some _ from My w _]
  simp⟩
def CF.on {w w':World} {b:Nat} {a:List Value} (c:CF w b a) (hb:Below w.heap.size w w'):CF w' b a:=
 ⟨c.1.on hb,fun o=>(hb.frozen (p:=⟨b,o,none⟩) c.1.1).trans (c.2 o)⟩
def CF.stored {w:World} {b:Nat} {a:List Value} (us:List Value) (c:CF w b a) (hl:us.length=a.length):CF (w.setCells b 0 us) b us:=
 ⟨c.1.stored _ hl,fun o=>by rw[yb9];exact c.2 o⟩
def CF.alloc {w:World} {b:Nat} {a:List Value} (c:CF w b a) (o:Obj):CF (w.alloc o) b a:=c.on (eN.alloc cm o)
def pw0:List Value:=[.int .u64 0,.int .u64 0,.int .i64 0,.bool false]
def Fl.pval (x:Int):Value:= .agg #[.int .u64 ((Fl.pwP x / 18446744073709551616:Nat):Int),.int .u64 ((Fl.pwP x % 18446744073709551616:Nat):Int),.int .i64 (Fl.pwE x),.bool (Fl.pwA x)]
def yjh (N:Nat) (hi lo:Nat) (a:Option Addr) (c:Nat) (w:World) (s:Sl w a c (Na.cl N)) (d:Fl.Mid N) (b:hi=N / 18446744073709551616) (hl:lo=N % 18446744073709551616) (e:N<340282366920938463463374607431768211456):
 Calls prog 290 #[.slice a (Na.cl N).length c] w (RetB (.agg #[.int .u64 hi,.int .u64 lo]) w):=by
 have h:=yr8 a c (Na.cl N) w s (by unfold Fl.Mid at d;omega);rw[Na.nK,o0 (show N / 18446744073709551616<18446744073709551616 by omega),<-b,<-hl] at h;exact h
def ypf (j:Nat) (hj:0<j) (Nt:j<=400) (w:World):Calls prog 279 #[.int .i64 (-(j:Int))] w (RetB (Fl.pval (-(j:Int))) w):=by
 obtain⟨E,g,D⟩:=Fl.yuZ hj;have m:=(Fl.ybD (-(j:Int))).2;have z:=Fl.OM j;have u:=Fl.ydL j;have fT:=Fl.Kw (show j<=2000 by omega);rw[Fl.pval,E,D];obtain⟨P,J⟩:=bx (Fl.pwP (-(j:Int)));rw[<-J] at g m ⊢;have o:=fun f=>L5 10 (j:Int) f aG aG;rw[Fl.ycO aG] at o;obtain⟨T,I⟩:=bx (10^j);rw[<-I] at g o u fT z ⊢;obtain⟨L,t⟩:=bx (Na.bitLen T);have r:=fun c c1 f (d:Sl f c c1 (Na.cl T))=>Ng c c1 (Na.cl T) f d T4;rw[Na.nK,<-t] at r;rw[<-t] at g z ⊢
 have l:=fun(wr:World)=>(by
  have:=ybC _ _ (Na.cl 1) ((L+127:Nat):Int) _ (ype wr) (by rw[Na.DZ];simp) aG;rw[Fl.yfI bL (by show 1+_<=_;omega),Na.DZ] at this
  exact this:Calls prog 174 #[.slice (some ⟨wr.heap.size,0,none⟩) 1 1,.int .i64 ((L+127:Nat):Int)] (wr.alloc (Obj.cells #[Value.int IntKind.u32 1] 85)) (ln (Na.cl (1*2^(L+127)),0) (wr.alloc (Obj.cells #[Value.int IntKind.u32 1] 85))))
 have i:Fl.Mid (1*2^(L+127)):=Fl.yb8 (k:=L+128) (by rw[nW];exact yal bL aG) aG;obtain⟨U,hU⟩:=bx (1*2^(L+127));rw[<-hU] at l i g;have Z:Fl.Mid P:=Fl.yb8 (k:=128) (eR m bL) bL
 have F:=fun(wr:World) c c1 q c2 (d:Sl wr c c1 (Na.cl U)) (s:Sl wr q c2 (Na.cl T))=>(by
  have:=yl0 c c1 (Na.cl U) q c2 (Na.cl T) wr d s (by unfold Fl.Mid at i;omega) T4;rw[Fl.yku i fT u,<-g] at this
  exact this:Calls prog 266 #[.slice c (Na.cl U).length c1,.slice q (Na.cl T).length c2] wr (Ic (Na.cl P,Na.cl (U % T),0) wr))
 have y:=fun(wr:World) c c1 (d:Sl wr c c1 (Na.cl P))=>yjh P _ _ c c1 wr d Z rfl rfl m;obtain⟨hi,O⟩: ∃ x,x=P / 18446744073709551616:=⟨_,rfl⟩;obtain⟨lo,M⟩: ∃ x,x=P % 18446744073709551616:=⟨_,rfl⟩;rw[<-O,<-M] at y ⊢;have kD:max (-(j:Int)) (-(-(j:Int)))=(j:Int):=aG;obtain⟨HP,E0,K,Qx,HV⟩:=qF o r l F y;obtain⟨n,hn⟩:=bx (-(j:Int):Int);have Be: -n=(j:Int):=aG;have hnb:n<0:=aG;rw[<-hn];have RV:max n (j:Int)=(j:Int):=aG;have C: ∀ a b:Nat,((L+127:Nat):Int)=(L:Int)+127:=fun _ _=>by omega
 have X: ∀ wr:World,Calls prog 174 #[.slice (some ⟨wr.heap.size,0,none⟩) 1 1,.int .i64 ((L:Int)+127)] (wr.alloc (Obj.cells #[Value.int IntKind.u32 1] 85)) (ln (Na.cl U,0) (wr.alloc (Obj.cells #[Value.int IntKind.u32 1] 85))):=fun wr=>by rw[<-C 0 0];exact l wr
 replace K:=aL X;have hLb:L<=4*400+1:=aG;clear E g D m u fT J o I t r l i hU Z F y O M hn z kD C X;refine yil ?_;intro LL et;go_enter func279,ntmps279
 go_wp2_with (first|(go_at_call 176;refine cV (HP.out _) ?_;rintro e f ⟨c,c1,rfl,d, -,R⟩;have I6:=LL.out.on R;have Q:=et.out.trans (R.mono cn))|(go_at_call 218;refine cY (E0.out _ _ _ d) ?_)|(go_at_call 174;refine cV (K.out _) ?_;rintro e w2 ⟨q,c2,rfl,s, -,hb2⟩;have A:Below f.heap.size f w2:=yY (ek) (hb2.mono cn);have V:=Q.trans (A.mono Q.size);have Ec:=d.on A;have I5:=I6.on A)|(go_at_call 266;refine cV (Qx.out _ _ _ _ _ s Ec) ?_;rintro e w3 ⟨a3,c3,a4,c4,rfl,s3, -, -, -,S⟩;have N:=V.trans (S.mono V.size);have Yu:=I5.on S;have fb:=N.size)|(go_at_call 290;refine cp (HV.out _ _ _ s3) ?_;intro w4 gh;obtain⟨G,xL,xD,mZ⟩:=g9 (w3) gh;(try simp only[fO,gz,fY,gt] at mZ);have bM:=N.trans (G.mono fb);have gj:=Yu.on G;refine ydT ?_;intro q0 q1 q2 q3 z0 z1 z2 z3 ql))
 have HS:=gj.stored [.int .u64 hi,.int .u64 lo,.int .i64 (-((L:Int)+127)),.bool false] rfl;have W:=mX (B:=w.heap.size) (b:=w.heap.size) cm [.int .u64 hi,.int .u64 lo,.int .i64 (-((L:Int)+127)),.bool false] 0 bM;obtain⟨Y,H⟩:=bx (w4.setCells w.heap.size 0 [.int .u64 hi,.int .u64 lo,.int .i64 (-((L:Int)+127)),.bool false]);change bodyPost _ _ _ _ _ (w4.setCells w.heap.size 0 [.int .u64 hi,.int .u64 lo,.int .i64 (-((L:Int)+127)),.bool false]);rw[<-H] at HS W ⊢;refine ybk ?_;intro y0 y1 y2 y3;clear H;refine eB (v:= .agg #[.int .u64 hi,.int .u64 lo,.int .i64 (-((L:Int)+127)),.bool false]) ye4 rfl (RetB.of rfl W)
def yo5 (j:Nat) (Nt:j<=400) (w:World):Calls prog 279 #[.int .i64 (j:Nat)] w (RetB (Fl.pval (j:Int)) w):=by
 obtain⟨e,f⟩:=bx ((Na.bitLen (10^j):Int)-128:Int);obtain⟨M,i,g⟩:=Fl.ytn f;have m:=(Fl.ybD (j:Int)).2;have I:=Fl.OM j;have G:=Fl.ydL j;have fT:=Fl.Kw (show j<=2000 by omega);rw[Fl.pval,M];obtain⟨P,q⟩:=bx (Fl.pwP (j:Int));obtain⟨A,F⟩: ∃ P,P=Fl.pwA (j:Int):=⟨_,rfl⟩;rw[<-q,<-F] at i g;rw[<-q] at m;rw[<-q,<-F];have s:=fun d=>L5 10 (j:Int) d aG aG;rw[Fl.ycO aG] at s;obtain⟨T,Q⟩:=bx (10^j);rw[<-Q] at i g s G fT I f;obtain⟨L,r⟩:=bx (Na.bitLen T);have D:=fun c c1 d (a:Sl d c c1 (Na.cl T))=>Ng c c1 (Na.cl T) d a T4;rw[Na.nK,<-r] at D;rw[<-r] at I f;have EO:Fl.Mid P:=Fl.yb8 (k:=128) (eR m bL) bL;have H:=fun(wr:World) c c1 (a:Sl wr c c1 (Na.cl P))=>yjh P _ _ c c1 wr a EO rfl rfl m;obtain⟨hi,W⟩: ∃ x,x=P / 18446744073709551616:=⟨_,rfl⟩;obtain⟨lo,U⟩: ∃ x,x=P % 18446744073709551616:=⟨_,rfl⟩;rw[<-W,<-U] at H ⊢;have heL:(L:Int)-128=e:=f.symm;have RV:max (j:Int) (-(j:Int))=(j:Int):=aG;have mj: ¬ (j:Int)<0:=aG;have Xe: -128<=e/\e<=1500:=aG;obtain⟨eb1,eb2⟩:=Xe;obtain⟨HP,E0,HV⟩:=iJ s D H;refine yil ?_;intro LL et;by_cases V:e<=0
 ·obtain⟨q1,q2⟩:=i V;obtain⟨k,n⟩:=bx ((-e).toNat :Nat);rw[<-n] at q1;have Kt: -e=(k:Int):=aG;have O:=fun(wr:World) c c1 (a:Sl wr c c1 (Na.cl T))=>ybC c c1 (Na.cl T) (k:Int) wr a T4 aG;rw[Fl.yfI G (by rw[<-r];omega),<-q1] at O;have fQ:=aL O;subst q2;clear M i g m G fT q F s Q r D O EO H W U I f n q1;go_enter func279,ntmps279
  go_wp2_with (first|(go_at_call 176;refine cV (HP.out _) ?_;rintro e d ⟨c,c1,rfl,a, -,u⟩;have Z:=LL.out.on u;have t:=et.out.trans (u.mono cn))|(go_at_call 218;refine cY (E0.out _ _ _ a) ?_)|(go_at_call 174;refine cV (fQ.out _ _ _ a) ?_;rintro e J ⟨a2,c2,rfl,K, -,hb2⟩;have y:=t.trans (hb2.mono t.size);have I5:=Z.on hb2;have S:=y.size)|(go_at_call 290;refine cp (HV.out _ _ _ K) ?_;intro w4 R;obtain⟨l,xL,xD,N⟩:=g9 (J) R;(try simp only[fO,gz,fY,gt] at N);have X:=y.trans (l.mono S);have gj:=I5.on l;refine ydT ?_;intro q0 q1 q2 q3 z0 z1 z2 z3 ql))
  have HS:=gj.stored [.int .u64 hi,.int .u64 lo,.int .i64 (e),.bool true] rfl;have C:=mX (B:=w.heap.size) (b:=w.heap.size) cm [.int .u64 hi,.int .u64 lo,.int .i64 (e),.bool true] 0 X;obtain⟨Y,o⟩:=bx (w4.setCells w.heap.size 0 [.int .u64 hi,.int .u64 lo,.int .i64 (e),.bool true]);change bodyPost _ _ _ _ _ (w4.setCells w.heap.size 0 [.int .u64 hi,.int .u64 lo,.int .i64 (e),.bool true]);rw[<-o] at HS C ⊢;refine ybk ?_;intro y0 y1 y2 y3;clear o;refine eB (v:= .agg #[.int .u64 hi,.int .u64 lo,.int .i64 (e),.bool true]) ye4 rfl (RetB.of rfl C)
 ·obtain⟨q1,q2⟩:=g aG;obtain⟨k,n⟩:=bx (e.toNat:Nat);rw[<-n] at q1 q2;have Kt:e=(k:Int):=aG;have E:=fun(wr:World) c c1 (a:Sl wr c c1 (Na.cl T))=>yhG c c1 (Na.cl T) (k:Int) wr a T4 aG;rw[Fl.ypD fT,<-q1] at E;obtain⟨z,hz⟩:=bx (decide (T % 2^k≠0));rw[<-hz] at E q2;have Zq:=aL E;have TD:(!z)=A:=q2.symm;subst Kt;have r7: ¬ (k:Int)<=0:=V;have HAZ:=aL TD;clear M i g m G fT q F s Q r D E EO H W U I f n q1 q2 hz TD V;go_enter func279,ntmps279
  go_wp2_with (first|(go_at_call 176;refine cV (HP.out _) ?_;rintro e d ⟨c,c1,rfl,a, -,u⟩;have Z:=LL.out.on u;have t:=et.out.trans (u.mono cn))|(go_at_call 218;refine cY (E0.out _ _ _ a) ?_)|(go_at_call 175;refine cV (Zq.out _ _ _ a) ?_;rintro e J ⟨a2,c2,rfl,K, -,hb2⟩;have y:=t.trans (hb2.mono t.size);have I5:=Z.on hb2;have S:=y.size)|(go_at_call 290;refine cp (HV.out _ _ _ K) ?_;intro w4 R;obtain⟨l,xL,xD,N⟩:=g9 (J) R;(try simp only[fO,gz,fY,gt] at N);have X:=y.trans (l.mono S);have gj:=I5.on l;refine ydT ?_;intro q0 q1 q2 q3 z0 z1 z2 z3 ql))
  rw[<-HAZ.out];have HS:=gj.stored [.int .u64 hi,.int .u64 lo,.int .i64 ((k:Int)),.bool (!z)] rfl;have C:=mX (B:=w.heap.size) (b:=w.heap.size) cm [.int .u64 hi,.int .u64 lo,.int .i64 ((k:Int)),.bool (!z)] 0 X;obtain⟨Y,o⟩:=bx (w4.setCells w.heap.size 0 [.int .u64 hi,.int .u64 lo,.int .i64 ((k:Int)),.bool (!z)]);change bodyPost _ _ _ _ _ (w4.setCells w.heap.size 0 [.int .u64 hi,.int .u64 lo,.int .i64 ((k:Int)),.bool (!z)]);rw[<-o] at HS C ⊢;refine ybk ?_;intro y0 y1 y2 y3;clear o;refine eB (v:= .agg #[.int .u64 hi,.int .u64 lo,.int .i64 ((k:Int)),.bool (!z)]) ye4 rfl (RetB.of rfl C)
def yxa (n:Int) (hn: -400<=n/\n<=400) (w:World):Calls prog 279 #[.int .i64 n] w (RetB (Fl.pval n) w):=by
 by_cases h:n<0
 ·obtain⟨j,hj⟩: ∃ j:Nat,n= -(j:Int):=⟨(-n).toNat,by omega⟩;subst hj;exact ypf j aG aG w
 ·obtain⟨j,hj⟩: ∃ j:Nat,n=(j:Int):=⟨n.toNat,by omega⟩;subst hj;exact yo5 j aG w

def tkv (k a n:Int) (t:ByteArray) (x:Int):Value:= .agg #[.int .i64 k,.int .i64 a,.int .i64 n,.string t,.int .i64 x]
def Cs.off {w:World} {b c:Nat} {d:List Value} (h:Cs w b d) (e:b≠c) (i:Nat) (v:Value):Cs (w.setCell ⟨c,i,none⟩ v) b d:=
 ⟨by rw[rX];exact h.1,fun j hj=>(Mem.yad (a:=⟨c,i,none⟩) (b:=⟨b,j,none⟩) e v).trans (h.2 j hj)⟩
def yoz (l:List UInt8) (c:UInt8):Lib.byteCells (l++[c])=Lib.byteCells l++[.int .u8 c.toNat]:=by simp[Lib.byteCells]
def yvZ (l:List UInt8):(Lib.byteCells l).length =l.length:=by simp[Lib.byteCells]
def ysX (s:ByteArray) (r:List UInt8) (at':Nat) (w:World) (A:s.data.toList=34::r) (hz:s.size<=1000000000) (ha:at'<=1000000000):
 Calls prog 63 #[.string s,.int .i64 at'] w (RetB (match Fx.quot r with|some (t,l)=>tkv 2 at' ((at'+(s.size-l.length):Nat)) ⟨t.toArray⟩ 0|none=>tkv 6 at' 0 ⟨#[]⟩ 0) w):=by
 obtain⟨v,hv⟩:=bx ((match Fx.quot r with|some (t,l)=>tkv 2 at' ((at'+(s.size-l.length):Nat)) ⟨t.toArray⟩ 0|none=>tkv 6 at' 0 ⟨#[]⟩ 0));rw[<-hv];have B:s.data.toList.length=s.size:=dN s;have Q:1<=s.size:=by rw[<-B,A];simp
 have D:s.data.toList.drop 1=r:=by rw[A];rfl
 obtain⟨C,HD,x⟩:=iJ hv D B;clear hv D B A;go_enter func63,ntmps63
 go_wp2_with fail
 obtain⟨W,g⟩:=bx ((((w.alloc (Obj.cells #[.int .i64 0,.int .i64 0,.int .i64 0,.string ⟨#[]⟩,.int .i64 0] 77)).alloc (Obj.cells #[.int .i64 2,.int .i64 at',.int .i64 0,.string ⟨#[]⟩,.int .i64 0] 77)).alloc (Obj.cells #[.pointer none,.slice none 0 0] 129)));have Z:W.heap.size=w.heap.size+3:=by rw[g];simp
 have Cj:Below w.heap.size w W:=by rw[g];exact(((ek).alloc cn _).alloc pp _)
 have uD:CF W w.heap.size [.int .i64 0,.int .i64 0,.int .i64 0,.string ⟨#[]⟩,.int .i64 0]:=by rw[g];exact(((CF.new w _ _).alloc _).alloc _)
 have oW:CF W (w.heap.size+1) [.int .i64 2,.int .i64 at',.int .i64 0,.string ⟨#[]⟩,.int .i64 0]:=by have:=(CF.new (w.alloc (Obj.cells #[.int .i64 0,.int .i64 0,.int .i64 0,.string ⟨#[]⟩,.int .i64 0] 77)) [.int .i64 2,.int .i64 at',.int .i64 0,.string ⟨#[]⟩,.int .i64 0] 77).alloc (Obj.cells #[.pointer none,.slice none 0 0] 129);rw[i7] at this;rw[g];exact this
 have m:Lib.IsBuilder 129 5 (w.heap.size+2) (w.heap.size+2) (Lib.byteCells []) W:=by
  left;refine⟨cm,.slice none 0 0,?_,⟨rfl,Or.inl ⟨rfl,rfl⟩⟩,?_⟩
  ·have:=My ((w.alloc (Obj.cells #[.int .i64 0,.int .i64 0,.int .i64 0,.string ⟨#[]⟩,.int .i64 0] 77)).alloc (Obj.cells #[.int .i64 2,.int .i64 at',.int .i64 0,.string ⟨#[]⟩,.int .i64 0] 77)) (Obj.cells #[.pointer none,.slice none 0 0] 129);rw[i7,i7] at this;rw[g];exact this
  ·simp[Value.ownBlock]
 rw[<-g];have Be: ¬ w.heap.size=w.heap.size+1:=aG;obtain⟨g2,E⟩:=bx (w.heap.size+1+1);rw[<-E];have q:w.heap.size+2=g2:=aG;rw[q] at m;have Sj:w.heap.size<g2:=aG;have mr:w.heap.size+1<g2:=aG;have KB:g2<W.heap.size:=aG;clear g q E Z;go_loopw [7] (fun i wr=> ∃ (k:Nat) (eS:List UInt8),1<=k/\k<=s.size/\i= .int .i64 k/\eS.length<=k/\Hid (Fx.quot r=(Fx.quot (s.data.toList.drop k)).map fun p=>(eS++p.1,p.2))/\Hid (Lib.IsBuilder 129 5 g2 g2 (Lib.byteCells eS) wr)/\Below g2 W wr) (fun i _=>s.size-(intOf i).toNat)
 case atStart=>exact⟨1,[],cm,Q,rfl,iH _,aL (by rw[HD.out];cases Fx.quot r<;>simp),aL m,eN⟩
 case round=>
  obtain⟨k,eS,jF,hk,rfl,Xr,b,I,cG⟩:=hrel;have nT:=cG.size;have V:Below w.heap.size w wr:=Cj.trans (cG.mono aG);have m0:=uD.1.1;have m1:=oW.1.1;by_cases Y:k<s.size
  ·have T:(k:Int)<(s.size:Int):=aG
   have G: ∀ (c:UInt8) (a:World),Lib.IsBuilder 129 5 g2 g2 (Lib.byteCells eS) a->g2<=a.heap.size->Calls prog 97 #[.pointer (some ⟨g2,0,none⟩),.int .u8 c.toNat] a fun e w'=>e= .returned .nilIface /\(Lib.BuilderAt 129 5 g2 g2 (.pointer (some ⟨g2,0,none⟩)) (Lib.byteCells (eS++[c])) w'/\Below g2 a w'):=fun c a h hg=>by rw[yoz];exact ywL g2 g2 (Lib.byteCells eS) c.toNat a h (by rw[yvZ];omega) hg
   have H: ∀ (a:World),Lib.IsBuilder 129 5 g2 g2 (Lib.byteCells eS) a->g2<=a.heap.size->Calls prog 78 #[.pointer (some ⟨g2,0,none⟩)] a fun e w'=>e= .returned (.string ⟨eS.toArray⟩)/\Below g2 a w':=fun a h hg=>yms g2 g2 eS a h hg;have L:g2<=wr.heap.size:=aG;have K:=aL (fun c=>G c wr I.out L);have mQ:=aL (H wr I.out L)
   have f:s.data.toList.drop k=s[k]::s.data.toList.drop (k+1):=by rw[xE (by rw[x.out];exact Y)];congr 1
   rw[f] at b;clear G H f;by_cases d:s[k]=34
   ·have U:((s[k].toNat :Int)==34)=true:=by rw[d];rfl
    by_cases R:k+1<s.size
    ·have S:((k:Int)+1==(s.size:Int))=false:=nY
     have f:s.data.toList.drop (k+1)=s[k+1]::s.data.toList.drop (k+2):=by rw[xE (by rw[x.out];exact R)];congr 1
     rw[f,d] at b;clear f;have i3:(k:Int)+1<(s.size:Int):=aG;by_cases n:s[k+1]=34
     ·have hq:Fx.quot (34::s[k+1]::s.data.toList.drop (k+2))=(Fx.quot (s.data.toList.drop (k+2))).map fun p=>(34::p.1,p.2):=by rw[n,Fx.quot]
      have y:=aL (show Fx.quot r=(Fx.quot (s.data.toList.drop (k+2))).map fun p=>((eS++[s[k+1]])++p.1,p.2) by rw[b.out,hq,R9,n];congr 1;funext p;simp);have NW:((s[k+1].toNat :Int)==34)=true:=by rw[n];rfl
      clear hq d n uD oW m b;go_wp2_with (first|(go_at_call 97;refine cV (K.out _) ?_;rintro e w1 ⟨rfl,u,ab⟩;have z:=aL u;clear u;have af:=ab.size))
      exact⟨⟨k+2,eS++[s[k+1]],by omega,by omega,by go_num,by simp;omega,y,aL (Or.inr z.out),cG.trans ab⟩,by simp[intOf];omega⟩
     ·have hq:Fx.quot (34::s[k+1]::s.data.toList.drop (k+2))=some ([],s[k+1]::s.data.toList.drop (k+2)):=by
       rw[Fx.quot]
       ·rw[bT rfl]
       ·intro t e1 q;injection q with q _;exact absurd q n
      have J:(s[k+1]::s.data.toList.drop (k+2)).length =s.size-(k+1):=by rw[gE,rS,x.out];omega
      have HE:=aL (show v=tkv 2 at' ((at':Int)+((k:Int)+1)) ⟨eS.toArray⟩ 0 by
       rw[C.out,b.out,hq];simp only[yd,rm,J]
       congr 1;omega)
      have NW:((s[k+1].toNat :Int)==34)=false:=by simp only[gN,tq];intro e;exact n (qu.1 yfL)
      clear hq d n J m b;exact yhF
    ·have S:((k:Int)+1==(s.size:Int))=true:=by simp only[sb];omega
     have f:s.data.toList.drop (k+1)=[]:=KC (by rw[x.out];omega);rw[f,d] at b;have hq:Fx.quot [34]=some ([],[]):=rfl
     have HE:=aL (show v=tkv 2 at' ((at':Int)+((k:Int)+1)) ⟨eS.toArray⟩ 0 by
      rw[C.out,b.out,hq];simp only[yd,rm,rp]
      congr 1<;>omega)
     clear f hq d m b;exact yhF
   ·have hq:Fx.quot (s[k]::s.data.toList.drop (k+1))=(Fx.quot (s.data.toList.drop (k+1))).map fun p=>(s[k]::p.1,p.2):=by
     rw[Fx.quot]
     ·rw[bv d]
     ·intro t e;exact absurd e d
    have y:=aL (show Fx.quot r=(Fx.quot (s.data.toList.drop (k+1))).map fun p=>((eS++[s[k]])++p.1,p.2) by rw[b.out,hq,R9];congr 1;funext p;simp)
    have F:((s[k].toNat :Int)==34)=false:=by simp only[gN,tq];intro e;exact d (qu.1 yfL)
    have Xi: ¬ (s[k].toNat :Int)=34:=fun e=>by rw[e] at F;cases F
    clear hq d uD oW m b;go_wp2_with (first|(go_at_call 97;refine cV (K.out _) ?_;rintro e w1 ⟨rfl,u,ab⟩;have z:=aL u;clear u;have af:=ab.size))
    exact⟨⟨k+1,eS++[s[k]],by omega,by omega,by go_num,by simp;omega,y,aL (Or.inr z.out),cG.trans ab⟩,by simp[intOf];omega⟩
  ·have T: ¬ (k:Int)<(s.size:Int):=aG
   have hq:Fx.quot r=none:=by rw[b.out,KC (by rw[x.out];omega)];rfl
   have HE:=aL (show v=tkv 6 at' 0 ⟨#[]⟩ 0 by rw[C.out,hq]);have c0:CF wr w.heap.size [.int .i64 0,.int .i64 0,.int .i64 0,.string ⟨#[]⟩,.int .i64 0]:=⟨⟨by omega,fun j hj=>(cG.cell (p:=⟨w.heap.size,j,none⟩) (show w.heap.size<g2 by omega)).trans (uD.1.2 j hj)⟩,fun o=>(cG.frozen (p:=⟨w.heap.size,o,none⟩) (show w.heap.size<g2 by omega)).trans (uD.2 o)⟩;have x0:=c0.1.get 0 rfl;have x1:=c0.1.get 1 rfl;have x2:=c0.1.get 2 rfl;have x3:=c0.1.get 3 rfl;have x4:=c0.1.get 4 rfl;have xf:=c0.2 0;have P:=c0.2 1;have O:=c0.2 2;have N:=c0.2 3;have M:=c0.2 4;clear hq uD oW m;go_wp2_with fail
   (obtain⟨X_,td⟩: ∃ X,X=((wr).setCells (w.heap.size) 0 [.int .i64 6,.int .i64 at',.int .i64 0,.string ⟨#[]⟩,.int .i64 0]):=⟨_,rfl⟩;change bodyPost _ _ _ _ _ ((wr).setCells (w.heap.size) 0 [.int .i64 6,.int .i64 at',.int .i64 0,.string ⟨#[]⟩,.int .i64 0]);rw[<-td];have D_:Cs X_ (w.heap.size) [.int .i64 6,.int .i64 at',.int .i64 0,.string ⟨#[]⟩,.int .i64 0]:=(by rw[td];exact Cs.stored [.int .i64 6,.int .i64 at',.int .i64 0,.string ⟨#[]⟩,.int .i64 0] (c0.1) rfl);have Fi:=D_.get 0 rfl;have Fh:=D_.get 1 rfl;have Fg:=D_.get 2 rfl;have Ff:=D_.get 3 rfl;have Fe:=D_.get 4 rfl;have th:Below w.heap.size w X_:=(by rw[td];exact mX (by first|omega|simp) _ _ (V));refine eB (v:= .agg #[.int .i64 6,.int .i64 at',.int .i64 0,.string ⟨#[]⟩,.int .i64 0]) (by(simp[results,results63,go_sem,Fi,Fh,Fg,Ff,Fe];done)) rfl (RetB.of HE.out.symm th))

def EvR (w:World):Prop:= ∃ ev,w.cell? ⟨6,0,none⟩=some ev/\(ev= .nilIface ∨ ∃ a pe,ev= .iface a pe)/\6<w.heap.size
def EvR.below {w w':World} (h:EvR w) (hb:Below w.heap.size w w'):EvR w':=by obtain⟨ev,c,b,a⟩:=h;exact⟨ev,(hb.cell (p:=⟨_,0,none⟩) a).trans c,b,eR a hb.size⟩
def EvR.below_of {w w':World} (h:EvR w) (hb:Below w.heap.size w w'):EvR w':=h.below hb
structure Sg (w:World) (p g:Nat) (D L:UInt8):Prop where
 rd:w.cell? ⟨p,0,none⟩=some (.pointer (some ⟨g,0,none⟩))
 dec:w.cell? ⟨g,1,none⟩=some (.string ⟨#[D]⟩)
 lst:w.cell? ⟨g,3,none⟩=some (.string ⟨#[L]⟩)
 pl:p<w.heap.size
 gl:g<w.heap.size
def Sg.on {w w':World} {p g:Nat} {D L:UInt8} (h:Sg w p g D L) (hb:Below w.heap.size w w'):Sg w' p g D L:=
 ⟨(hb.cell (p:=⟨p,0,none⟩) h.pl).trans h.rd,(hb.cell (p:=⟨g,1,none⟩) h.gl).trans h.dec,(hb.cell (p:=⟨g,3,none⟩) h.gl).trans h.lst,eR h.pl hb.size,eR h.gl hb.size⟩
def Cs.put1 {w:World} {b:Nat} {a:List Value} (h:Cs w b a) (i:Nat) (hi:i<a.length) (v:Value):Cs (w.setCell ⟨b,i,none⟩ v) b (a.set i v):=
 ⟨by rw[rX];exact h.1,fun k c=>by
  rw[yx] at c;by_cases e:i=k
  ·subst e;rw[yE _ _ _ (h.2 i c)];simp
  ·rw[tt _ _ _ _ (fun d=>e (dZ Addr.off d)),h.2 k c,List.getElem_set_ne e]⟩
def ydN (D:UInt8) (s:List UInt8):(Fx.cutD D s=none/\Lib.hasPrefix s [D]=false/\Lib.trimPrefix s [D]=s)∨(∃ r,Fx.cutD D s=some r/\s=D::r/\Lib.hasPrefix s [D]=true/\Lib.trimPrefix s [D]=r):=by
 cases s with
 |nil=>exact .inl ⟨rfl,rfl,rfl⟩
 |cons c r=>
  by_cases h:c=D
  ·subst h
   refine .inr ⟨r,by rw[Fx.cutD,bT rfl],rfl,?_,?_⟩
   ·simp[Lib.hasPrefix]
   ·simp[Lib.trimPrefix,Lib.hasPrefix]
  ·have e:Lib.hasPrefix (c::r) [D]=false:=by
    show[D].isPrefixOf (c::r)=false;have:(D==c)=false:=by rw[gN];exact fun e=>h e.symm
    simp[List.isPrefixOf,this]
   refine .inl ⟨by rw[Fx.cutD,bv h],e,?_⟩
   unfold Lib.trimPrefix
   rw[e];rfl

section
open Fx (Tr)
structure Two (g h:Nat) (w w':World):Prop where
 size:w.heap.size<=w'.heap.size
 os:w'.os=w.os
 tape:w'.tape=w.tape
 output:w'.output=w.output
 block: ∀ k,k≠g->k≠h->k<w.heap.size->w'.heap[k]? =w.heap[k]?
def Two.refl (g h:Nat) (w:World):Two g h w w:=⟨cm,rfl,rfl,rfl,fun _ _ _ _=>rfl⟩
def Two.trans {g h:Nat} {a b c:World} (x:Two g h a b) (y:Two g h b c):Two g h a c:=
 ⟨dE x.size y.size,y.os.trans x.os,y.tape.trans x.tape,y.output.trans x.output,fun k f e d=>(y.block k f e (eR d x.size)).trans (x.block k f e d)⟩
def Two.of {g h:Nat} {w w':World} (hb:Below w.heap.size w w'):Two g h w w':=⟨hb.size,hb.os,hb.tape,hb.output,fun k _ _ a=>hb.block k a⟩
def Two.below {g h B:Nat} {w w':World} (x:Two g h w w') (hg:B<=g) (b:B<=h) (c:B<=w.heap.size):Below B w w':=⟨x.os,x.tape,x.output,x.size,fun k a=>x.block k aG aG aG⟩
def Two.setL {g h:Nat} {w w':World} (x:Two g h w w') (o:Nat) (u:Value):Two g h w (w'.setCell ⟨g,o,none⟩ u):=
 x.trans ⟨by simp,rfl,rfl,rfl,fun k a _ _=>tF _ _ _ _ a⟩
def ox (p:Value):Sem Value:=Instr.loadAt 27 p
def qh (p:Value):Instr.loadAt 27 p=ox p:=rfl
def ve (p v:Value):Sem Unit:=Instr.storeAt 27 p v
def qn (p v:Value):Instr.storeAt 27 p v=ve p v:=rfl
def yeB (x:Value):Sem Value:=Instr.buildSlice 25 1 #[(0,x)]
def yaV (x y:Value):Sem Value:=Instr.buildSlice 25 2 #[(0,x),(1,y)]
def xy (a:Operand->Value) (dst:Option Tmp) (x:Operand) (b:TypeId) (pos:String) (after:Array Edge) (guard:Option (Nat × Bool)):
 execOp a {dst,op:= .buildSlice 25 1 #[(0,x)],type:=b,pos,after,guard}=(do pure (Next.value (<-yeB (a x)))):=by
 unfold execOp yeB;simp
def xc (a:Operand->Value) (dst:Option Tmp) (x y:Operand) (b:TypeId) (pos:String) (after:Array Edge) (guard:Option (Nat × Bool)):
 execOp a {dst,op:= .buildSlice 25 2 #[(0,x),(1,y)],type:=b,pos,after,guard}=(do pure (Next.value (<-yaV (a x) (a y)))):=by
 unfold execOp yaV;simp
structure IsN (X:Value) (cs:List Value):Prop where
 val:X= .agg cs.toArray
 len:cs.length=14
 one: ∀ v ∈ cs,v.oneCell'=true
def IsN.of (t:Tr) (a:Option Addr) (n c:Nat):IsN (trv t (.slice a n c)) (trc t (.slice a n c)):=⟨rfl,rfl,by
 intro v hv
 simp only[trc,sC,yF,yR] at hv
 rcases hv with rfl|rfl|rfl|rfl|rfl|rfl|rfl|rfl|rfl|rfl|rfl|rfl|rfl|rfl<;>rfl⟩
def IsN.agg {X:Value} {cs:List Value} (h:IsN X cs): ∃ k j i g f e d c b a l m n o,cs=[k,j,i,g,f,e,d,c,b,a,l,m,n,o]:=by
 obtain⟨-,hl, -⟩:=h;rcases cs with _|⟨k,_|⟨j,_|⟨i,_|⟨g,_|⟨f,_|⟨e,_|⟨d,_|⟨c,_|⟨b,_|⟨a,_|⟨l,_|⟨m,_|⟨n,_|⟨o,_|⟨p,cs⟩⟩⟩⟩⟩⟩⟩⟩⟩⟩⟩⟩⟩⟩⟩
 all_goals first|(simp at hl;done)|skip
 exact⟨_,_,_,_,_,_,_,_,_,_,_,_,_,_,rfl⟩
def Nd (w:World) (B:Nat) (X:Value):Prop:= ∃ cs,IsN X cs/\Mem w B cs 27
def nput (w:World) (B:Nat) (X:Value):World:=w.setCells B 0 (match X with | .agg a=>a.toList | _=>[])
def ygV {w:World} {B:Nat} {X:Value} {cs:List Value} (h:IsN X cs):nput w B X=w.setCells B 0 cs:=by rw[h.val];unfold nput;simp
def yI (w:World) (B:Nat) (X:Value):(nput w B X).heap.size =w.heap.size:=yJ _ _ _ _
def zg {C B:Nat} (a:C<=B) {w W:World} {X:Value} (h:Below C w W):Below C w (nput W B X):=mX a _ _ h
def Mem.setCells_other {w:World} {b B:Nat} {c:List Value} {t:TypeId} (h:Mem w b c t) (e:b≠B) (us:List Value) (o:Nat):Mem (w.setCells B o us) b c t:=by
 induction us generalizing o w with
 |nil=>exact h
 |cons u us d=>exact d (h.other (a:=⟨B,o,none⟩) e u) (o+1)
def uz {w:World} {B k:Nat} (d:k≠B) (X:Value):(nput w B X).heap[k]? =w.heap[k]? :=by
 unfold nput;generalize (match X with | .agg a=>a.toList | _=>[])=us
 have b: ∀ (us:List Value) (o:Nat) (w:World),(w.setCells B o us).heap[k]? =w.heap[k]? :=by
  intro us
  induction us with
  |nil=>intro o w;rfl
  |cons u us c=>intro o w;rw[World.setCells,c];exact tF _ _ _ _ d
 exact b us 0 w
def Nd.lt {w:World} {B:Nat} {X:Value} (h:Nd w B X):B<w.heap.size:=by obtain⟨_,_,m⟩:=h;exact m.lt
def Nd.put {w:World} {B:Nat} {X Y:Value} {cs:List Value} (h:Nd w B X) (a:IsN Y cs):Nd (nput w B Y) B Y:=by obtain⟨c0,b,m⟩:=h;exact⟨cs,a,by rw[ygV a];exact m.setCells (by rw[a.len,b.len])⟩
def Nd.of {w w':World} {B:Nat} {X:Value} (h:Nd w B X) (a:w'.heap[B]? =w.heap[B]?):Nd w' B X:=by obtain⟨cs,i,m⟩:=h;exact⟨cs,i,a.trans m⟩
def Nd.other {w:World} {B C:Nat} {X:Value} (h:Nd w B X) (a:B≠C) (Y:Value):Nd (nput w C Y) B X:=h.of (uz a Y)
def Nd.below {w w':World} {B C:Nat} {X:Value} (h:Nd w B X) (hb:Below C w w') (a:B<C):Nd w' B X:=h.of (hb.block B a)
def Nd.on {w w':World} {B:Nat} {X:Value} (h:Nd w B X) (hb:Below w.heap.size w w'):Nd w' B X:=h.below hb h.lt
def Nd.two {w w':World} {p b B:Nat} {X:Value} (h:Nd w B X) (a:Two p b w w') (d:B≠p) (c:B≠b):Nd w' B X:=h.of (a.block B d c h.lt)
def Nd.new {w:World} {X:Value} {cs:List Value} (h:IsN X cs):Nd (w.alloc (.cells cs.toArray 27)) w.heap.size X:=⟨cs,h,Mem.new _ _ _⟩
def zn:Tr:= .mk 0 0 [] false 0 Ce.zero Ce.zero []
def znv:Value:=trv zn (.slice none 0 0)
def jg:Obj:=Obj.cells #[.int .i64 0,.int .u64 0,.string ⟨#[]⟩,.bool false,.int .i64 0,.int .i64 0,.int .i64 0,.bool false,.bool false,.int .i64 0,.int .i64 0,.bool false,.bool false,.slice none 0 0] 27
def Nd.zero (w:World):Nd (w.alloc jg) w.heap.size znv:=Nd.new (IsN.of zn none 0 0)
section
def OP:(prog.info? 27).map (·.size)=some 14:=cI
def VQ: ∃ d,prog.underlying 27=some d/\d.isRow=true:=by refine⟨_,underlying27,?_⟩;kernel_rfl
end
def fx {w:World} {B:Nat} {X:Value} (h:Nd w B X):(ox (.pointer (some ⟨B,0,none⟩))).run prog w= .ok X w:=by obtain⟨cs,i,m⟩:=h;obtain⟨d,a,hd⟩:=VQ;rw[i.val];exact yco w B 0 _ cs d (fun j v hv=>by rw[iR];exact m.get j hv) a hd (by rw[OP,i.len])
def jP {w:World} {B:Nat} {X Y:Value} {cs:List Value} (h:Nd w B X) (a:IsN Y cs):(ve (.pointer (some ⟨B,0,none⟩)) Y).run prog w= .ok () (nput w B Y):=by
 obtain⟨c0,i,m⟩:=h;rw[ygV a,a.val]
 have:=ybl (P:=prog) w B 0 27 cs.toArray (fun j hj=>by
  rw[iR];refine⟨?_,m.frozen j⟩;rw[MC,a.len,<-i.len] at hj
  rw[m.get j (n9 hj)];rfl) (by rw[OP,MC,a.len]) (yd0 a.one)
 rw[yfk] at this;exact this
def yoH (k j i g f e d c b a l m n o:Value) (w:World):(Instr.buildSlice 25 1 #[(0,.agg #[k,j,i,g,f,e,d,c,b,a,l,m,n,o])]).run prog w= .ok (.slice (some ⟨w.heap.size,0,none⟩) 1 1) (w.alloc (Obj.cells #[k,j,i,g,f,e,d,c,b,a,l,m,n,o] 27)):=cI
def ywd (k j i g f e d c b a l m n o y0 y1 y2 y3 y4 y5 y6 y7 y8 y9 y10 y11 y12 y13:Value) (w:World):(Instr.buildSlice 25 2 #[(0,.agg #[k,j,i,g,f,e,d,c,b,a,l,m,n,o]),(1,.agg #[y0,y1,y2,y3,y4,y5,y6,y7,y8,y9,y10,y11,y12,y13])]).run prog w= .ok (.slice (some ⟨w.heap.size,0,none⟩) 2 2) (w.alloc (Obj.cells #[k,j,i,g,f,e,d,c,b,a,l,m,n,o,y0,y1,y2,y3,y4,y5,y6,y7,y8,y9,y10,y11,y12,y13] 27)):=cI
def W4 {X:Value} {cs:List Value} (h:IsN X cs) (w:World):(yeB X).run prog w= .ok (.slice (some ⟨w.heap.size,0,none⟩) 1 1) (w.alloc (Obj.cells cs.toArray 27)):=by obtain⟨l,k,j,i,g,f,d,c,b,a,m,n,o,p,e⟩:=h.agg;have hv:=h.val;subst e;rw[hv];exact yoH l k j i g f d c b a m n o p w
def yaY {X Y:Value} {cs ds:List Value} (h:IsN X cs) (k:IsN Y ds) (w:World):(yaV X Y).run prog w= .ok (.slice (some ⟨w.heap.size,0,none⟩) 2 2) (w.alloc (Obj.cells (cs++ds).toArray 27)):=by obtain⟨n,m,l,j,i,g,d,c,b,a,o,p,q,r,e⟩:=h.agg;obtain⟨y0,y1,y2,y3,y4,y5,y6,y7,y8,y9,y10,y11,y12,y13,f⟩:=k.agg;have hv:=h.val;have s:=k.val;subst e f;rw[hv,s];exact ywd n m l j i g d c b a o p q r y0 y1 y2 y3 y4 y5 y6 y7 y8 y9 y10 y11 y12 y13 w
def xr {w:World} {B:Nat} {X:Value} (h:Nd w B X):(ve (.pointer (some ⟨B,0,none⟩)) (.agg #[.int .i64 0,.int .u64 0,.string ⟨#[]⟩,.bool false,.int .i64 0,.int .i64 0,.int .i64 0,.bool false,.bool false,.int .i64 0,.int .i64 0,.bool false,.bool false,.slice none 0 0])).run prog w= .ok () (nput w B znv):=
 jP h (IsN.of zn none 0 0)
def Nd.putZero {w:World} {B:Nat} {X:Value} (h:Nd w B X):Nd (nput w B znv) B znv:=h.put (IsN.of zn none 0 0)
def yuN {f:Func} {n m:Nat} (c:f.results= #[ResultVar.cell n 27,ResultVar.tmp m]) {tmps:Array Value} {B:Nat} {W:World} {X b:Value} (h:tmps.getD n undef= .pointer (some ⟨B,0,none⟩)) (hb:tmps.getD m undef=b) (D:Nd W B X):
 (results f tmps).run prog W= .ok (.tuple #[X,b]) W:=by
 have hl:=fx D;unfold ox Instr.loadAt at hl;refine ycM ?_;intro h' jm;obtain⟨cs,i,mm⟩:=D;obtain⟨d,a,hd⟩:=VQ;have hv:=yeM (P:=prog) W B 0 _ cs d (fun j v hv=>by rw[iR];exact mm.get j hv) a hd (by rw[OP,i.len]);rw[<-i.val] at hv;simp[results,c,h',jm,asAddr,zM,zq,z7,hv]
def lS {f:Func} {n m:Nat} {Q:Ending->World->Prop} (a:f.results= #[ResultVar.cell n 27,ResultVar.tmp m]) {tmps:Array Value} {B:Nat} {W:World} {X b:Value} (h:tmps.getD n undef= .pointer (some ⟨B,0,none⟩)) (hb:tmps.getD m undef=b) (D:Nd W B X)
 (c:Q (.returned (.tuple #[X,b])) W):bodyPost prog f Q Exit.ret {tmps:=tmps,defers:=[]} W:=
 eB (yuN a h hb D) rfl c
def yon {f:FuncId} {args:Array Value} {w:World} {n:Nat} {v:Value} (h:Calls prog f args (w.drewN n) (Ret0 v (w.drewN n))):Calls prog f args (w.drewN n) fun e c=>e= .returned v/\ ∃ m,c=w.drewN m:=
 h.mono fun _ _ ⟨b,a⟩=>⟨b,n,a.symm⟩
end

def yvK {f:Func} {n:Nat} (g:f.results= #[ResultVar.cell n 77]) {tmps:Array Value} {B:Nat} {X:World} (h:tmps.getD n undef= .pointer (some ⟨B,0,none⟩)) {c0 c1 c2 c3 c4:Value} (D:Cs X B [c0,c1,c2,c3,c4]):
 (results f tmps).run prog X= .ok (.agg #[c0,c1,c2,c3,c4]) X:=by
 have e:=D.get 0 rfl;have d:=D.get 1 rfl;have c:=D.get 2 rfl;have b:=D.get 3 rfl;have a:=D.get 4 rfl;have h':tmps[n]?.getD undef= .pointer (some ⟨B,0,none⟩):=nu;simp[results,g,h',go_sem,e,d,c,b,a]
def Kc {f:Func} {n:Nat} {Q:Ending->World->Prop} (g:f.results= #[ResultVar.cell n 77]) {tmps:Array Value} {W:World} {B:Nat} {c0 c1 c2 c3 c4 e d c b a:Value} (h:tmps.getD n undef= .pointer (some ⟨B,0,none⟩)) (D:Cs W B [e,d,c,b,a])
 (i:Q (.returned (.agg #[c0,c1,c2,c3,c4])) (((((W.setCell ⟨B,0,none⟩ c0).setCell ⟨B,1,none⟩ c1).setCell ⟨B,2,none⟩ c2).setCell ⟨B,3,none⟩ c3).setCell ⟨B,4,none⟩ c4)):
 bodyPost prog f Q Exit.ret {tmps:=tmps,defers:=[]} (((((W.setCell ⟨B,0,none⟩ c0).setCell ⟨B,1,none⟩ c1).setCell ⟨B,2,none⟩ c2).setCell ⟨B,3,none⟩ c3).setCell ⟨B,4,none⟩ c4):=
 eB (yvK g h (Cs.stored [c0,c1,c2,c3,c4] D rfl)) rfl i
def I7 {w W:World} {B:Nat} {v:Value} {k a n x e f d c:Int} {t t':ByteArray} {c0 c1 c2 c3 c4:Value} (h:v=tkv k a n t x) (r:c0= .int .i64 e) (q:c1= .int .i64 f) (o:c2= .int .i64 d) (m:c3= .string t') (l:c4= .int .i64 c) (i:e=k) (j:f=a) (hn:d=n) (g:t'=t) (hx:c=x)
 (b:w.heap.size<=B) (hb:Below w.heap.size w W):RetB v w (.returned (.agg #[c0,c1,c2,c3,c4])) (((((W.setCell ⟨B,0,none⟩ c0).setCell ⟨B,1,none⟩ c1).setCell ⟨B,2,none⟩ c2).setCell ⟨B,3,none⟩ c3).setCell ⟨B,4,none⟩ c4):=by
 subst r q o m l i j hn g hx;rw[h];exact⟨rfl,((((hb.setCell (p:=⟨B,0,none⟩) b _).setCell (p:=⟨B,1,none⟩) b _).setCell (p:=⟨B,2,none⟩) b _).setCell (p:=⟨B,3,none⟩) b _).setCell (p:=⟨B,4,none⟩) b _⟩

def yre (L:UInt8) (w:World):(Instr.buildSlice 54 17 #[(0,.string ⟨#[60,62]⟩),(1,.string ⟨#[60,61]⟩),(2,.string ⟨#[62,61]⟩),(3,.string ⟨#[60]⟩),(4,.string ⟨#[62]⟩),(5,.string ⟨#[61]⟩),(6,.string ⟨#[38]⟩),(7,.string ⟨#[43]⟩),(8,.string ⟨#[45]⟩),(9,.string ⟨#[42]⟩),(10,.string ⟨#[47]⟩),(11,.string ⟨#[94]⟩),(12,.string ⟨#[37]⟩),(13,.string ⟨#[40]⟩),(14,.string ⟨#[41]⟩),(15,.string ⟨#[58]⟩),(16,.string ⟨#[L]⟩)]).run prog w= .ok (.slice (some ⟨w.heap.size,0,none⟩) 17 17) (w.alloc (Obj.cells #[.string ⟨#[60,62]⟩,.string ⟨#[60,61]⟩,.string ⟨#[62,61]⟩,.string ⟨#[60]⟩,.string ⟨#[62]⟩,.string ⟨#[61]⟩,.string ⟨#[38]⟩,.string ⟨#[43]⟩,.string ⟨#[45]⟩,.string ⟨#[42]⟩,.string ⟨#[47]⟩,.string ⟨#[94]⟩,.string ⟨#[37]⟩,.string ⟨#[40]⟩,.string ⟨#[41]⟩,.string ⟨#[58]⟩,.string ⟨#[L]⟩] 9)):=cI
def yvP {op:Oper} {a:Act} {w:World} {K:Act->World->Prop} {Q:Exit->Act->World->Prop} (L:UInt8) (k:Tmp) (b:op.op= .buildSlice 54 17 #[(0,.const (.string ⟨#[60,62]⟩)),(1,.const (.string ⟨#[60,61]⟩)),(2,.const (.string ⟨#[62,61]⟩)),(3,.const (.string ⟨#[60]⟩)),(4,.const (.string ⟨#[62]⟩)),(5,.const (.string ⟨#[61]⟩)),(6,.const (.string ⟨#[38]⟩)),(7,.const (.string ⟨#[43]⟩)),(8,.const (.string ⟨#[45]⟩)),(9,.const (.string ⟨#[42]⟩)),(10,.const (.string ⟨#[47]⟩)),(11,.const (.string ⟨#[94]⟩)),(12,.const (.string ⟨#[37]⟩)),(13,.const (.string ⟨#[40]⟩)),(14,.const (.string ⟨#[41]⟩)),(15,.const (.string ⟨#[58]⟩)),(16,.tmp k)])
 (hx:a.eval (.tmp k)= .string ⟨#[L]⟩) (h:K (a.put op.dst (.slice (some ⟨w.heap.size,0,none⟩) 17 17)) (w.alloc (Obj.cells #[.string ⟨#[60,62]⟩,.string ⟨#[60,61]⟩,.string ⟨#[62,61]⟩,.string ⟨#[60]⟩,.string ⟨#[62]⟩,.string ⟨#[61]⟩,.string ⟨#[38]⟩,.string ⟨#[43]⟩,.string ⟨#[45]⟩,.string ⟨#[42]⟩,.string ⟨#[47]⟩,.string ⟨#[94]⟩,.string ⟨#[37]⟩,.string ⟨#[40]⟩,.string ⟨#[41]⟩,.string ⟨#[58]⟩,.string ⟨#[L]⟩] 9))):op.wp prog a w K Q:=by
 unfold Oper.wp execOp;have e: ∀ z:Value,a.eval (.const z)=z:=fun z=>rfl;simp only[b,List.map_toArray,ya,M8,hx,e];simp only[zM,zq,yre L w,z7];exact h

def ycT (neg:Bool) (hi lo:Nat) (e:Int) (more:Bool) (w:World) (d:hi<18446744073709551616) (hl:lo<18446744073709551616) (j: -10000<=e/\e<=2000):
 Calls prog 255 #[.bool neg,.agg #[.int .u64 hi,.int .u64 lo],.int .i64 e,.bool more] w (RetB (.int .u64 ((Fl.sgn neg+Fl.rd (hi*18446744073709551616+lo) e more:Nat):Int)) w):=by
 have i:=aL (fun a=>ysO hi lo a d hl);have c:=aL (fun a c0 c1 hb=>ymx neg w.heap.size hi lo e more a c0 c1 hb d hl j);obtain⟨L,f⟩:=bx (Na.bitLen (hi*18446744073709551616+lo));rw[<-f] at i c;obtain⟨D,g⟩:=bx (Fl.sgn neg+Fl.rd (hi*18446744073709551616+lo) e more);rw[<-g] at c ⊢;clear f g;go_enter func255,ntmps255
 go_wp2_with (first|(go_at_call 272;refine cp (i.out _) ?_;refine pt ?_;intro a m x u t E B y z A C v;have b:=(C2.new w hi lo).on m;have o:=b.1.get 0 rfl;have q:=b.1.get 1 rfl;have r:=b.1.1)|(go_loud (go_at_call 271;refine cp (c.out _ o q r) ?_;intro s n;obtain⟨H,F,G,l⟩:=g9 (w) n;(try simp only[fO,gz,fY,gt] at l))))
 go_ret
 exact qO

def yrN (L:List Nat) (n:Nat) (more:Bool) (a b:Value):Prop:= ∃ (i:Nat) (m:Bool),i<=n/\b= .int .i64 i/\a= .bool m/\Hid (m=(more || decide (Na.val (L.take i)≠0)))
def Na.ywX {L:List Nat} {i:Nat} (h:i<L.length):(Na.val (L.take (i+1))≠0)↔(Na.val (L.take i)≠0∨L[i]≠0):=by
 rw[Na.ra L i h];have b:0<Na.B^i:=fp bL;constructor
 ·intro d;by_cases a:Na.val (L.take i)=0
  ·right;intro c;apply d;rw[a,c,sr]
  ·exact Or.inl a
 ·rintro (a|a)
  ·omega
  ·have:=xG b (zm a);omega
def Na.yqr {L:List Nat} {c:Nat} (d:Na.OK L) (a:c<=L.length):Na.val (L.drop c)=Na.val L / 2^(32*c)/\Na.val (L.take c)=Na.val L % 2^(32*c):=by
 have e:Na.B^c=2^(32*c):=by rw[yc]
 have h:=Na.wW L c a;have hl:=Na.rf (L.take c) (Na.Au d c);rw[nn,rD a,e] at hl;rw[e] at h;have b:0<2^(32*c):=fp bL;rw[h];exact⟨by rw[Ay,JS b,t6 hl,ms],by rw[E5,o0 hl]⟩
def Na.yuA {N c:Nat} (f:(Na.cl N).length =c+4):54<=Na.bitLen (N / 2^(32*c)):=by
 have b: ¬ (Na.cl N).length <=c+3:=aG;rw[Na.Da] at b;have e:Na.B^c=2^(32*c):=by rw[yc]
 have d:Na.B^3=79228162514264337593543950336:=bL
 have j:79228162514264337593543950336<=N / 2^(32*c):=by rw[zj (fp bL),<-e,<-d,<-Nat.pow_add,Ay];omega
 rcases qt (Na.bitLen (N / 2^(32*c))) 54 with a|a
 ·have i:=(Fl.rh (n:=N / 2^(32*c)) aG).2.1;have g:2^Na.bitLen (N / 2^(32*c))<=2^53:=hJ bL aG;omega
 ·exact a
def yn1 (neg:Bool) (a:Option Addr) (c:Nat) (l:List Nat) (e:Int) (more:Bool) (w:World) (h:Sl w a c l) (hl:l.length<=4000) (W: -10000<=e/\e<=2000) (q:(Na.cl (Na.val l)).length <=4):
 Calls prog 265 #[.bool neg,.slice a l.length c,.int .i64 e,.bool more] w (RetB (.int .u64 ((Fl.sgn neg+Fl.rd (Na.val l) e more:Nat):Int)) w):=by
 refine yjX ?_;intro H1 N hN ei dP;rw[ei] at H1;rw[<-hN] at q ⊢;have y:=Na.zh N;have u:=Na.nK N;obtain⟨L,E⟩:=bx (Na.cl N);rw[<-E] at H1 dP q y u;obtain⟨Lg,Le⟩:=W;obtain⟨R,x⟩:=bx (Fl.sgn neg+Fl.rd N e more);rw[<-x];have V:=aL (show R=Fl.sgn neg+Fl.rd (Na.val L) e more by rw[x,u]);have M:=aL y;have OG:=q;have V9:decide ((0:Int)<((L.length:Nat):Int)-4)=false:=eL aG;clear ei hN E h x u y q;go_enter func265,ntmps265
 go_upto_if 20 with (go_at_call 179;refine cV H1.out ?_;rintro e w1 ⟨g,rfl,hg,o,I⟩)
 have bc:Hid (∀ k (o:k<L.length),w1.cell? ⟨g,k,none⟩=some (.int .u32 (L[k]:Int))):=aL (fun k S=>o.cell k S);have Qq:=aL o.lt;have z:=aL I;clear o I H1;obtain⟨q1,q2⟩:=ydy L;refine yju ?_;intro uK rx Ak et;clear q1 q2 dP;go_wp2_with fail
 go_loopw [46] (fun v wr=>yes L w1.heap.size w1 v wr) (fun v _=>L.length-(intOf v).toNat)
 case atStart=>exact⟨0,0,0,iH _,rfl,by decide,by decide,uK,rx,Ak,et⟩
 case round=>
  clear et Ak uK rx;obtain⟨i,hi,lo,Kx,rfl,hh,hl,K,J,HC,m⟩:=hrel;by_cases aW:i<L.length
  ·obtain⟨mm,j,d,H,D,P,hj,f1,f2,hd,jS,Z,hD,Y,v1,v2,v3,v4,v5⟩:=yc4 aW M.out K.out J.out;have hb:=Qq.out;have hx:=(m.out.cell (p:=⟨g,j,none⟩) hb).trans (bc.out j hj);rw[<-hd] at hx;refine yeo ?_;intro H1 DB Ja c0 c1;have z0:=HC.out.2 0;have z1:=HC.out.2 1;have bQ:=HC.out.1.1;have fe:=m.out.size;clear v1 v2 v4 v5 hd;skip
   go_wp2_with (first|(go_at_call 274;refine Ls ?_;refine Xz ?_;intro t s aI aO aN ah;obtain⟨aA,aF,aE,aD,au,aJ⟩:=own6 s (w1.heap.size);obtain⟨bA,bE,bD,bC,aZ,bW⟩:=own6 s (g)))
   obtain⟨X,C⟩:=bx (t.setCells w1.heap.size 0 [.int .u64 H,.int .u64 D]);change Code.wp _ _ _ _ (t.setCells w1.heap.size 0 [.int .u64 H,.int .u64 D]);have f:=(HC.out.on (s.mono cm)).stored H D;have n:=mX (B:=w1.heap.size) (b:=w1.heap.size) cm [.int .u64 H,.int .u64 D] 0 (m.out.trans (s.mono fe));have Q:(t.setCells w1.heap.size 0 [.int .u64 H,.int .u64 D]).cell? ⟨g,j,none⟩=some (.int .u32 d):=(n.cell (p:=⟨g,j,none⟩) hb).trans ((m.out.cell (p:=⟨g,j,none⟩) hb).symm.trans hx);rw[<-C] at f n Q ⊢;have x0:=f.1.get 0 rfl;have x1:=f.1.get 1 rfl;have y0:=f.2 0;have y1:=f.2 1;have xl:=f.1.1;have U:=aL (f.low P);have T:=aL (n.setCell (p:=⟨w1.heap.size,1,none⟩) cm (.int .u64 P));clear C f n c0 c1 hx;go_region
   go_wp2
   go_roundw
   case rel=>exact⟨i+1,H,P,by omega,by go_num,Z,Y,DB,Ja,aL U.out.drew,aL T.out.drew⟩
   case measure=>simp[intOf];omega
  ·have O:i=L.length:=aG;have hv:=yez (L:=L) O.symm
   have OV:Na.val L<340282366920938463463374607431768211456:=by have r:=Na.rf L M.out;exact eR r (dE (hJ bL OG) bL)
   have r:=K.out;have F:=J.out;rw[hv] at r F;have G:hi*18446744073709551616+lo=Na.val L:=aG;have hj:=fun w1=>ycT neg hi lo e more w1 hh hl ⟨Lg,Le⟩;rw[G,<-V.out] at hj;have HJ:=aL hj;have c0:=HC.out.1.get 0 rfl;have c1:=HC.out.1.get 1 rfl;have bQ:=HC.out.1.1;have A:=z.out.trans (m.out.mono z.out.size);have Db:=A.size;skip
   clear hj r F G hv O;go_wp2_with (first|(go_at_call 255;refine cp (HJ.out _) ?_;refine Xz ?_;intro w3 an dO gg gf bK;have XW:Below w.heap.size w w3:=A.trans (dO.mono Db)))
   go_ret
   exact qO
def ywI (neg:Bool) (a:Option Addr) (c:Nat) (l:List Nat) (e:Int) (more:Bool) (w:World) (h:Sl w a c l) (hl:l.length<=4000) (he: -10000<=e/\e<=2000) (S:4<(Na.cl (Na.val l)).length) (I:e+32*(((Na.cl (Na.val l)).length :Int)-4)<=2000):
 Calls prog 265 #[.bool neg,.slice a l.length c,.int .i64 e,.bool more] w (RetB (.int .u64 ((Fl.sgn neg+Fl.rd (Na.val l) e more:Nat):Int)) w):=by
 refine yjX ?_;intro H1 N hN ei dP;rw[ei] at H1;rw[<-hN] at S I ⊢;have C:=Na.zh N;have O:=Na.nK N;obtain⟨k,A⟩: ∃ k,(Na.cl N).length =k+4:=⟨(Na.cl N).length -4,by omega⟩;have hcut:=(And.intro (Na.yqr (c:=k) C aG) (Na.yuA A));obtain⟨L,hL⟩:=bx (Na.cl N);rw[<-hL] at H1 dP C O hcut A S I;obtain⟨e1,e2⟩:=he;obtain⟨R,Q⟩:=bx (Fl.sgn neg+Fl.rd N e more);rw[<-Q];obtain⟨HR,Zf,Jy,HC,ZT⟩:=qF Q O C hcut A;have Nj:((L.length:Nat):Int)-4=(k:Int):=aG;have Ku:0<k:=aG;obtain⟨n,hn⟩:=bx (L.length);have HN:=aL hn;rw[<-hn] at Nj S I dP;have Ev:k<=n:=aG;have vE:k<=4000:=aG;have hkq:e+32*(k:Int)<=2000:=aG;have sK:(n:Int)-(k:Int)=4:=aG;obtain rfl:n=k+4:=aG;clear ei hN hL h Q O C hcut A hn Nj Ev sK;go_enter func265,ntmps265
 go_upto_if 20 with (go_at_call 179;refine cV H1.out ?_;rintro e w1 ⟨g,rfl,hg,v,aw⟩;rw[<-HN.out])
 obtain⟨t,J⟩:=dY v aw;clear v aw H1;go_wp2_with fail
 go_loop [3,25] (fun mv q=>yrN L k more mv q) (fun _ i=>k-(intOf i).toNat)
 case atStart=>exact⟨0,more,iH _,rfl,rfl,aL (by rw[wh];simp[Na.val])⟩
 case round=>
  obtain⟨i,m,WS,rfl,rfl,Y⟩:=hrel;by_cases U:i<k
  ·have V:i<L.length:=by have:=HN.out;omega
   have hx:=t.out.cell i V;have jy:L[i]<4294967296:=Jy.out _ (pK V);have T:=Na.ywX V;obtain⟨x,gS⟩:=bx (L[i]);rw[<-gS] at hx jy T
   have jh:(more || decide (Na.val (L.take (i+1))≠0))=(m || decide (x≠0)):=by rw[Y.out,Bool.or_assoc,<-Bool.decide_or];congr 1;exact sd.2 T
   have Us:=aL jh;clear T jh gS t J
   cases m with
   |true=>
    go_wp2_with fail
    go_round
    case rel=>exact⟨i+1,true,by omega,by go_num,rfl,aL (by rw[Us.out];rfl)⟩
    case measure=>simp[intOf];omega
   |false=>
    go_wp2_with fail
    go_round
    case rel=>exact⟨i+1,decide (0<x),by omega,by go_num,by go_num,aL (by rw[Us.out,Sc];apply sd.2;omega)⟩
    case measure=>simp[intOf];omega
  ·have F:i=k:=aG;subst F;obtain⟨⟨c1,c2⟩,c3⟩:=HC.out;have z:=Fl.yof (n:=N) (c:=32*i) (e:=e) (more:=more) c3;rw[Zf.out] at c1 c2;rw[<-c1,<-c2,<-Y.out] at z;obtain⟨K,hK⟩:=bx (32*i:Nat);have hKi:(32:Int)*(i:Int)=(K:Int):=aG;obtain⟨r,W⟩:=bx (e+(K:Int):Int);have hei:e+(K:Int)=r:=W.symm;have Lg: -10000<=r:=aG;have Le:r<=2000:=aG;rw[show(((32*i:Nat):Int))=(K:Int) by omega,<-W] at z;have XU:(L.drop i).length =4:=by rw[rS];have:=ZT.out;omega
   have lQ:=aL (show R=Fl.sgn neg+Fl.rd (Na.val (L.drop i)) r m by rw[HR.out,z]);have Z:=aL (Na.yfa Jy.out i)
   have bc:Hid (∀ k (v:k<(L.drop i).length),w1.cell? ⟨g,i+k,none⟩=some (.int .u32 ((L.drop i)[k]:Int))):=aL (fun k v=>by simp only[Nk];exact t.out.cell _ _)
   have Qq:=aL t.out.lt;obtain⟨M,hM⟩:=bx (L.drop i);rw[<-hM] at XU lQ Z bc;have OG:M.length<=4:=aG;clear c1 c2 c3 z hK W hM Y HC t U;obtain⟨q1,q2⟩:=ydy M;refine yju ?_;intro uK rx Ak et;clear q1 q2;go_wp2_with fail
   go_loopw [46] (fun q wr=>yes M w1.heap.size w1 q wr) (fun q _=>M.length-(intOf q).toNat)
   case atStart=>exact⟨0,0,0,iH _,rfl,by decide,by decide,uK,rx,Ak,et⟩
   case round=>
    clear et Ak uK rx;obtain⟨o,hi,lo,Kx,rfl,hh,hl,HH,HL,HC,s⟩:=hrel;by_cases U:o<M.length
    ·obtain⟨mm,j,d,H,D,P,hj,f1,f2,hd,jS,hH,hD,hP,v1,v2,v3,v4,v5⟩:=yc4 U Z.out HH.out HL.out;have hb:=Qq.out;have hx:=(s.out.cell (p:=⟨g,i+j,none⟩) hb).trans (bc.out j hj);rw[<-hd] at hx;refine yeo ?_;intro H1 DB Ja c0 c1;have z0:=HC.out.2 0;have z1:=HC.out.2 1;have bQ:=HC.out.1.1;have fe:=s.out.size;clear v1 v2 v4 v5 hd;have f2':(3:Int)-(o:Int)=(j:Int):=aG;have Nb:o<4:=aG;go_wp2_with (first|(go_at_call 274;refine Ls ?_;refine Xz ?_;intro G E aI aO aN ah;obtain⟨aA,aF,aE,aD,au,aJ⟩:=own6 E (w1.heap.size);obtain⟨bA,bE,bD,bC,aZ,bW⟩:=own6 E (g)))
     obtain⟨X,hX⟩:=bx (G.setCells w1.heap.size 0 [.int .u64 H,.int .u64 D]);change Code.wp _ _ _ _ (G.setCells w1.heap.size 0 [.int .u64 H,.int .u64 D]);have f:=(HC.out.on (E.mono cm)).stored H D;have u:=mX (B:=w1.heap.size) (b:=w1.heap.size) cm [.int .u64 H,.int .u64 D] 0 (s.out.trans (E.mono fe));have wZ:(G.setCells w1.heap.size 0 [.int .u64 H,.int .u64 D]).cell? ⟨g,i+j,none⟩=some (.int .u32 d):=(u.cell (p:=⟨g,i+j,none⟩) hb).trans ((s.out.cell (p:=⟨g,i+j,none⟩) hb).symm.trans hx);rw[<-hX] at f u wZ ⊢;have x0:=f.1.get 0 rfl;have x1:=f.1.get 1 rfl;have y0:=f.2 0;have y1:=f.2 1;have xl:=f.1.1;have ud:=aL (f.low P);have ue:=aL (u.setCell (p:=⟨w1.heap.size,1,none⟩) cm (.int .u64 P));clear hX f u c0 c1 hx;go_region
     go_wp2
     go_roundw
     case rel=>exact⟨o+1,H,P,by omega,by go_num,hH,hP,DB,Ja,aL ud.out.drew,aL ue.out.drew⟩
     case measure=>simp[intOf];omega
    ·have F:o=M.length:=aG;have hv:=yez (L:=M) F.symm
     have OV:Na.val M<340282366920938463463374607431768211456:=by have y:=Na.rf M Z.out;exact eR y (dE (hJ bL OG) bL)
     have y:=HH.out;have h2:=HL.out;rw[hv] at y h2;have fu:hi*18446744073709551616+lo=Na.val M:=aG;have hj:=fun w1=>ycT neg hi lo r m w1 hh hl ⟨Lg,Le⟩;rw[fu,<-lQ.out] at hj;have HJ:=aL hj;have c0:=HC.out.1.get 0 rfl;have c1:=HC.out.1.get 1 rfl;have bQ:=HC.out.1.1;have kO:=J.out.trans (s.out.mono J.out.size);have Db:=kO.size;have Nb: ¬ o<4:=aG;clear hj y h2 fu hv F;go_wp2_with (first|(go_at_call 255;refine cp (HJ.out _) ?_;refine Xz ?_;intro w3 an dO gg gf bK;have XW:Below w.heap.size w w3:=kO.trans (dO.mono Db)))
     go_ret
     exact qO
def yh2 (neg:Bool) (a:Option Addr) (c:Nat) (l:List Nat) (e:Int) (more:Bool) (w:World) (h:Sl w a c l) (hl:l.length<=4000) (b: -10000<=e/\e<=2000) (d:e+32*(((Na.cl (Na.val l)).length :Int)-4)<=2000):
 Calls prog 265 #[.bool neg,.slice a l.length c,.int .i64 e,.bool more] w (RetB (.int .u64 ((Fl.sgn neg+Fl.rd (Na.val l) e more:Nat):Int)) w):=by
 by_cases f:(Na.cl (Na.val l)).length <=4
 ·exact yn1 neg a c l e more w h hl b f
 ·exact ywI neg a c l e more w h hl b aG d



def Fl.Hk (n:Int):List Value:=[.int .u64 ((Fl.pwP n / 18446744073709551616:Nat):Int),.int .u64 ((Fl.pwP n % 18446744073709551616:Nat):Int),.int .i64 (Fl.pwE n),.bool (Fl.pwA n)]
def ywB (c a b o:Nat) (n:Int) (W:World) (hn: -400<=n/\n<=400) (Z:c<W.heap.size) (H7:a<W.heap.size) (hb:b<W.heap.size) (r:c≠b) (q:a≠b)
 (H:W.cell? ⟨c,0,none⟩=some (.int .i64 n)) (G:W.cell? ⟨a,0,none⟩=some (.pointer (some ⟨b,o,none⟩)))
 (c0:W.cell? ⟨b,o+3,none⟩=some (.int .u64 0)) (c1:W.cell? ⟨b,o+4,none⟩=some (.int .u64 0)) (c2:W.cell? ⟨b,o+5,none⟩=some (.int .i64 0)) (c3:W.cell? ⟨b,o+6,none⟩=some (.bool false)) (g: ∀ o,W.frozen? ⟨b,o,none⟩=false):
 Calls prog 278 #[.pointer (some ⟨c,0,none⟩),.pointer (some ⟨a,0,none⟩)] W fun e w'=>e= .returned (.tuple #[])/\ ∃ p,Below W.heap.size W p/\w'=p.setCells b (o+3) (Fl.Hk n):=by
 have d:=fun f=>yxa n hn f;simp only[Fl.pval] at d;rw[Fl.Hk];obtain⟨A,l⟩:=bx (Fl.pwP n / 18446744073709551616);obtain⟨B,k⟩: ∃ A,A=Fl.pwP n % 18446744073709551616:=⟨_,rfl⟩;obtain⟨C,j⟩: ∃ A,A=Fl.pwE n:=⟨_,rfl⟩;obtain⟨D,i⟩: ∃ A,A=Fl.pwA n:=⟨_,rfl⟩;rw[<-l,<-k,<-j,<-i] at d;rw[<-l,<-k,<-j,<-i];have v:=aL d;clear d l k j i;have L:=g (o+3);have K:=g (o+4);have J:=g (o+5);have I:=g (o+6);go_enter func278,ntmps278
 go_upto_region 0 with (fail)
 go_region_held3 (fun w'=>w'.cell? ⟨c,0,none⟩=some (.int .i64 n)/\w'.cell? ⟨a,0,none⟩=some (.pointer (some ⟨b,o,none⟩)))
  (first|go_keep|(refine⟨?_,?_⟩<;>(first|(rw[s];assumption)|(rw[u];assumption)))|(refine⟨?_,?_⟩<;>(first|(go_simp;done)|(simp[go_sem, *];done))))
  (first|(go_at_call 279;refine cp (v.out _) ?_;intro f h;obtain⟨m,S,R,t⟩:=g9 (W) h;(try simp only[fO,gz,fY,gt] at t);obtain⟨Y,U,V,X,s,T⟩:=own6 h (c);obtain⟨Q,N,O,P,u,M⟩:=own6 h (a);obtain⟨F,x,y,z,E,w⟩:=own6 h (b)))
 all_goals(refine yai (Hl rfl _ _ _) rfl ?_)
 all_goals first
  |exact⟨rfl,f,m,rfl⟩
  |exact⟨rfl,f.drew,m.drew,rfl⟩
  |exact⟨rfl,_,oY m _,rfl⟩
def yu3 {W0 a w':World} {b o:Nat} {n:Int} (hb:b<W0.heap.size) (s:Slot0 W0 b o) (m:Below (W0.setCell ⟨b,o+1,none⟩ (.int .i32 1)).heap.size (W0.setCell ⟨b,o+1,none⟩ (.int .i32 1)) a)
 (c:w'=(((a.setCells b (o+3) (Fl.Hk n)).setCell ⟨b,o,none⟩ (.int .u32 1)).setCell ⟨b,o+1,none⟩ (.int .i32 0)).drew):Turn b o W0 w'/\Slot1 w' b o n:=by
 have q:b<(W0.setCell ⟨b,o+1,none⟩ (.int .i32 1)).heap.size :=by rw[rX];exact hb
 have r:Turn b o W0 a:=((Turn.refl b o W0).setCell (j:=o+1) aG (.int .i32 1)).trans (Turn.of q m)
 have k: ∀ j,j≠o+1->a.cell? ⟨b,j,none⟩=W0.cell? ⟨b,j,none⟩:=fun j hj=>
  (m.cell (p:=⟨b,j,none⟩) q).trans (tt _ ⟨b,o+1,none⟩ ⟨b,j,none⟩ _ ycW)
 have E:=(k o aG).trans s.done;have z:=(k (o+3) aG).trans s.hi;have y:=(k (o+4) aG).trans s.lo;have x:=(k (o+5) aG).trans s.e;have v:=(k (o+6) aG).trans s.all;have ne: ∀ (w:World) (i j:Nat) (u:Value),i≠j->(w.setCell ⟨b,i,none⟩ u).cell? ⟨b,j,none⟩=w.cell? ⟨b,j,none⟩:=fun w i j u h=>tt _ ⟨b,i,none⟩ ⟨b,j,none⟩ _ ycW;obtain⟨A,l⟩:=bx (.int .u64 ((Fl.pwP n / 18446744073709551616:Nat):Int):Value);obtain⟨B,g⟩: ∃ A:Value,A= .int .u64 ((Fl.pwP n % 18446744073709551616:Nat):Int):=⟨_,rfl⟩;obtain⟨C,f⟩: ∃ A:Value,A= .int .i64 (Fl.pwE n):=⟨_,rfl⟩;obtain⟨D,d⟩: ∃ A:Value,A= .bool (Fl.pwA n):=⟨_,rfl⟩;have t:Fl.Hk n=[A,B,C,D]:=by rw[Fl.Hk,l,g,f,d]
 rw[t] at c;have F:w'=((((((a.setCell ⟨b,o+3,none⟩ A).setCell ⟨b,o+4,none⟩ B).setCell ⟨b,o+5,none⟩ C).setCell ⟨b,o+6,none⟩ D).setCell ⟨b,o,none⟩ (.int .u32 1)).setCell ⟨b,o+1,none⟩ (.int .i32 0)).drew :=c;clear c;subst F;refine⟨((((((r.setCell aG _).setCell aG _).setCell aG _).setCell aG _).setCell aG _).setCell aG _).drew,?_,?_,?_,?_,?_⟩
 ·rw[Rq,ne _ _ _ _ aG,yE _ _ _ (by rw[ne _ _ _ _ aG,ne _ _ _ _ aG,ne _ _ _ _ aG,ne _ _ _ _ aG];exact E)]
 ·rw[Rq,ne _ _ _ _ aG,ne _ _ _ _ aG,ne _ _ _ _ aG,ne _ _ _ _ aG,ne _ _ _ _ aG,yE _ _ _ z,l]
 ·rw[Rq,ne _ _ _ _ aG,ne _ _ _ _ aG,ne _ _ _ _ aG,ne _ _ _ _ aG,yE _ _ _ (by rw[ne _ _ _ _ aG];exact y),g]
 ·rw[Rq,ne _ _ _ _ aG,ne _ _ _ _ aG,ne _ _ _ _ aG,yE _ _ _ (by rw[ne _ _ _ _ aG,ne _ _ _ _ aG];exact x),f]
 ·rw[Rq,ne _ _ _ _ aG,ne _ _ _ _ aG,yE _ _ _ (by rw[ne _ _ _ _ aG,ne _ _ _ _ aG,ne _ _ _ _ aG];exact v),d]
def yob (b o:Nat) (c:Value) (w:World) (a:w.cell? ⟨b,o,none⟩=some (.int .u32 1)) (hb:b<w.heap.size):
 Calls prog 277 #[.pointer (some ⟨b,o,none⟩),c] w fun e w'=>e= .returned (.tuple #[])/\w'=w:=by
 have d:=aL (ye0 ⟨b,o,none⟩ 1 true w a rfl);go_enter func277,ntmps277
 go_wp2_with (go_at_call 288;refine(d.out).mono ?_;rintro e w' ⟨rfl,rfl⟩)
 refine yai (Hl rfl _ _ _) rfl ?_;exact⟨rfl,rfl⟩
def ymI (f d b o:Nat) (n:Int) (w:World) (hn: -400<=n/\n<=400) (D:f<w.heap.size) (G:d<w.heap.size) (hb:b<w.heap.size) (m:f≠b) (l:d≠b)
 (B:w.cell? ⟨f,0,none⟩=some (.int .i64 n)) (A:w.cell? ⟨d,0,none⟩=some (.pointer (some ⟨b,o,none⟩))) (s:Slot0 w b o) (r: ∀ o,w.frozen? ⟨b,o,none⟩=false):
 Calls prog 277 #[.pointer (some ⟨b,o,none⟩),.func (.func 278) #[] #[.pointer (some ⟨f,0,none⟩),.pointer (some ⟨d,0,none⟩)]] w fun e w'=>e= .returned (.tuple #[])/\Turn b o w w'/\Slot1 w' b o n:=by
 have F:=aL (ye0 ⟨b,o,none⟩ 0 false w s.done rfl);have ne: ∀ (g i:Nat) (u:Value),g≠b∨i≠o+1->(w.setCell ⟨b,o+1,none⟩ u).cell? ⟨g,i,none⟩=w.cell? ⟨g,i,none⟩:=fun g i u h=>tt _ ⟨b,o+1,none⟩ ⟨g,i,none⟩ _ (by intro e;injection e with C H;rcases h with h|h;exact h C.symm;omega)
 have y:=yvj b o 278 #[.pointer (some ⟨f,0,none⟩),.pointer (some ⟨d,0,none⟩)] w
  (fun v=> ∃ a,Below (w.setCell ⟨b,o+1,none⟩ (.int .i32 1)).heap.size (w.setCell ⟨b,o+1,none⟩ (.int .i32 1)) a/\v=a.setCells b (o+3) (Fl.Hk n)) s.done s.lock r rfl
  ((ywB f d b o n (w.setCell ⟨b,o+1,none⟩ (.int .i32 1)) hn (by rw[rX];exact D) (by rw[rX];exact G) (by rw[rX];exact hb) m l
    ((ne _ _ _ (Or.inl m)).trans B) ((ne _ _ _ (Or.inl l)).trans A) ((ne _ _ _ (Or.inr aG)).trans s.hi) ((ne _ _ _ (Or.inr aG)).trans s.lo) ((ne _ _ _ (Or.inr aG)).trans s.e) ((ne _ _ _ (Or.inr aG)).trans s.all)
    (fun o'=>by rw[qj];exact r o')).mono (fun e w' ⟨z,a,c,k⟩=>by
     have t:b<(w.setCell ⟨b,o+1,none⟩ (.int .i32 1)).heap.size :=by rw[rX];exact hb
     have x: ∀ j,j<o+3->(a.setCells b (o+3) (Fl.Hk n)).cell? ⟨b,j,none⟩=a.cell? ⟨b,j,none⟩:=fun j hj=>by have q: ∀ (w:World) (i:Nat) (u:Value),i≠j->(w.setCell ⟨b,i,none⟩ u).cell? ⟨b,j,none⟩=w.cell? ⟨b,j,none⟩:=fun w i u h=>tt _ ⟨b,i,none⟩ ⟨b,j,none⟩ _ ycW;exact(q _ (o+6) _ aG).trans ((q _ (o+5) _ aG).trans ((q _ (o+4) _ aG).trans (q _ (o+3) _ aG)))
     refine⟨z,⟨a,c,k⟩,?_,?_,fun o'=>?_⟩
     ·rw[k,x o aG];exact(c.cell (p:=⟨b,o,none⟩) t).trans ((ne _ _ _ (Or.inr aG)).trans s.done)
     ·rw[k,x (o+1) aG];exact(c.cell (p:=⟨b,o+1,none⟩) t).trans (yE _ _ _ s.lock)
     ·rw[k,yb9];exact(c.frozen (p:=⟨b,o',none⟩) t).trans (by rw[qj];exact r o')))
 have E:=aL y;clear y ne;go_enter func277,ntmps277
 go_wp2_with (first|(go_at_call 288;refine(F.out).mono ?_;rintro e w' ⟨rfl,rfl⟩)|(go_at_call 289;refine(E.out).mono ?_;rintro e w' ⟨rfl,v,⟨a,c,rfl⟩,k⟩))
 refine yai (Hl rfl _ _ _) rfl ?_;exact⟨rfl,yu3 hb s c rfl⟩

def Slot0.same {w w':World} {b o:Nat} (h:Slot0 w b o) (a: ∀ o',w'.cell? ⟨b,o',none⟩=w.cell? ⟨b,o',none⟩):Slot0 w' b o:=
 ⟨(a _).trans h.done,(a _).trans h.lock,(a _).trans h.hi,(a _).trans h.lo,(a _).trans h.e,(a _).trans h.all⟩
def Slot1.same {w w':World} {b o:Nat} {n:Int} (h:Slot1 w b o n) (a: ∀ o',w'.cell? ⟨b,o',none⟩=w.cell? ⟨b,o',none⟩):Slot1 w' b o n:=
 ⟨(a _).trans h.done,(a _).trans h.hi,(a _).trans h.lo,(a _).trans h.e,(a _).trans h.all⟩
def Rdr.below {w w':World} {b B:Nat} (h:Rdr w b) (hb:Below B w w') (a:b<B):Rdr w' b:=
 ⟨eR h.lt hb.size,fun o=>(hb.frozen (p:=⟨b,o,none⟩) a).trans (h.free o),fun n d c=>(h.slot n d c).imp (fun s=>s.same fun o'=>hb.cell (p:=⟨b,o',none⟩) a) (fun s=>s.same fun o'=>hb.cell (p:=⟨b,o',none⟩) a)⟩
def Onl.own {b:Nat} {w a Y:World} (h:Onl b w a) (hb:Below w.heap.size a Y) (hl:b<w.heap.size):Onl b w Y:=
 ⟨h.below.trans (hb.mono (lY hl)),fun i hi c=>(hb.block i c).trans (h.block i hi c)⟩
def yk9 (b:Nat) (n:Int) (w:World) (hn: -400<=n/\n<=400) (l:Rdr w b):Calls prog 259 #[.pointer (some ⟨b,0,none⟩),.int .i64 n] w (RetR b (Fl.pval n) w):=by
 obtain⟨k,N⟩: ∃ k:Nat,(400:Int)+n=(k:Int):=⟨(400+n).toNat,by omega⟩;have R:wY n=k*7:=by unfold wY;omega
 have dz:k<=800:=aG;obtain⟨j,r⟩:=hn;have d:=l.slot n j r;have F:=l.lt;obtain⟨S,HS,m⟩:=iJ l d R;clear l d R;go_enter func259,ntmps259
 go_upto_region 1 with (fail)
 go_region
 have T:CF ((((w.alloc (Obj.cells #[Value.int IntKind.i64 n] 3)).alloc (Obj.cells #[.int .u64 0,.int .u64 0,.int .i64 0,.bool false] 97)).alloc (Obj.cells #[Value.pointer (some ⟨b,k*7,none⟩)] 301)).drew) (w.heap.size+1) pw0:=by have h:=CF.new (w.alloc (Obj.cells #[Value.int IntKind.i64 n] 3)) pw0 97;rw[i7] at h;exact(h.alloc _).on (eN.drew)
 have q:Below w.heap.size w ((((w.alloc (Obj.cells #[Value.int IntKind.i64 n] 3)).alloc (Obj.cells #[.int .u64 0,.int .u64 0,.int .i64 0,.bool false] 97)).alloc (Obj.cells #[Value.pointer (some ⟨b,k*7,none⟩)] 301)).drew):=by(repeat(first|exact eN|assumption|refine vh ?_ mY _|refine vc ?_ mY _|refine vr ?_|refine oY ?_ _))
 have L:((((w.alloc (Obj.cells #[Value.int IntKind.i64 n] 3)).alloc (Obj.cells #[.int .u64 0,.int .u64 0,.int .i64 0,.bool false] 97)).alloc (Obj.cells #[Value.pointer (some ⟨b,k*7,none⟩)] 301)).drew).cell? ⟨w.heap.size,0,none⟩=some (.int .i64 n):=Ci;have P:((((w.alloc (Obj.cells #[Value.int IntKind.i64 n] 3)).alloc (Obj.cells #[.int .u64 0,.int .u64 0,.int .i64 0,.bool false] 97)).alloc (Obj.cells #[Value.pointer (some ⟨b,k*7,none⟩)] 301)).drew).cell? ⟨w.heap.size+1+1,0,none⟩=some (.pointer (some ⟨b,k*7,none⟩)):=Ci;have ez:w.heap.size+3=((((w.alloc (Obj.cells #[Value.int IntKind.i64 n] 3)).alloc (Obj.cells #[.int .u64 0,.int .u64 0,.int .i64 0,.bool false] 97)).alloc (Obj.cells #[Value.pointer (some ⟨b,k*7,none⟩)] 301)).drew).heap.size :=cn;generalize ((((w.alloc (Obj.cells #[Value.int IntKind.i64 n] 3)).alloc (Obj.cells #[.int .u64 0,.int .u64 0,.int .i64 0,.bool false] 97)).alloc (Obj.cells #[Value.pointer (some ⟨b,k*7,none⟩)] 301)).drew)=X at *;have f:=S.out.on q
 have Q:Calls prog 277 #[.pointer (some ⟨b,k*7,none⟩),.func (.func 278) #[] #[.pointer (some ⟨w.heap.size,0,none⟩),.pointer (some ⟨w.heap.size+1+1,0,none⟩)]] X fun e a=>e= .returned (.tuple #[])/\Onl b X a/\Rdr a b/\Slot1 a b (k*7) n:=by
  rcases f.slot n j r with s|s
  ·rw[m.out] at s;refine(ymI w.heap.size (w.heap.size+1+1) b (k*7) n X ⟨j,r⟩ aG aG f.lt aG aG L P s f.free).mono ?_;rintro e a ⟨t,M,d⟩;exact⟨t,M.onl,f.turn j (by rw[m.out];exact M) (by rw[m.out];exact d),d⟩
  ·rw[m.out] at s;refine(yob b (k*7) _ X s.done f.lt).mono ?_;rintro e a ⟨t,rfl⟩;exact⟨t,Onl.refl _ _,f,s⟩
 have I:Fl.pval n= .agg #[.int .u64 ((Fl.pwP n / 18446744073709551616:Nat):Int),.int .u64 ((Fl.pwP n % 18446744073709551616:Nat):Int),.int .i64 (Fl.pwE n),.bool (Fl.pwA n)]:=rfl
 have J: ∀ a,Slot1 a b (k*7) n->a.cell? ⟨b,k*7+3,none⟩=some (.int .u64 ((Fl.pwP n / 18446744073709551616:Nat):Int))/\a.cell? ⟨b,k*7+4,none⟩=some (.int .u64 ((Fl.pwP n % 18446744073709551616:Nat):Int))/\a.cell? ⟨b,k*7+5,none⟩=some (.int .i64 (Fl.pwE n))/\a.cell? ⟨b,k*7+6,none⟩=some (.bool (Fl.pwA n)):=
  fun a h=>⟨h.hi,h.lo,h.e,h.all⟩
 obtain⟨A,E⟩:=bx (Fl.pwP n / 18446744073709551616);obtain⟨B,y⟩: ∃ A,A=Fl.pwP n % 18446744073709551616:=⟨_,rfl⟩;obtain⟨C,x⟩: ∃ A,A=Fl.pwE n:=⟨_,rfl⟩;obtain⟨D,u⟩: ∃ A,A=Fl.pwA n:=⟨_,rfl⟩;rw[<-E,<-y,<-x,<-u] at J;rw[<-E,<-y,<-x,<-u] at I;obtain⟨PP,E9⟩:=dY I J;clear I J E y x u;obtain⟨H,g,K⟩:=iJ Q T q;have V:=q.size;clear Q T q L S HS f;go_wp2_with (go_at_call 277;refine(H.out).mono ?_;rintro e a ⟨rfl,c,W,d⟩;obtain⟨s3,s4,s5,s6⟩:=E9.out a d;have g0:=(c.cell (k:=w.heap.size+1+1) (o:=0) aG aG).trans P;have q0:=(c.cell (k:=w.heap.size+1) (o:=0) aG aG).trans (g.out.1.get 0 rfl);have q1:=(c.cell (k:=w.heap.size+1) (o:=1) aG aG).trans (g.out.1.get 1 rfl);have q2:=(c.cell (k:=w.heap.size+1) (o:=2) aG aG).trans (g.out.1.get 2 rfl);have q3:=(c.cell (k:=w.heap.size+1) (o:=3) aG aG).trans (g.out.1.get 3 rfl);have z:=fun o=>(c.frozen (k:=w.heap.size+1) (o:=o) aG aG).trans (g.out.2 o);have z0:=z 0;have z1:=z 1;have z2:=z 2;have z3:=z 3;have qN:=c.size;have U:w.heap.size+1<a.heap.size:=aG)
 have NX:CF a (w.heap.size+1) pw0:=⟨⟨U,fun k N=>(c.cell (k:=w.heap.size+1) (o:=k) aG aG).trans (g.out.1.2 k N)⟩,z⟩;have HS:=NX.stored [.int .u64 A,.int .u64 B,.int .i64 C,.bool D] rfl;have G:=mX (B:=w.heap.size) (b:=w.heap.size+1) (ls _) [.int .u64 A,.int .u64 B,.int .i64 C,.bool D] 0 (oA w.heap.size a);obtain⟨Y,O⟩:=bx (a.setCells (w.heap.size+1) 0 [.int .u64 A,.int .u64 B,.int .i64 C,.bool D]);change bodyPost _ _ _ _ _ (a.setCells (w.heap.size+1) 0 [.int .u64 A,.int .u64 B,.int .i64 C,.bool D]);rw[<-O] at HS G ⊢;refine ybk ?_;intro y0 y1 y2 y3;clear O;have Z:Onl b w a:=⟨K.out.mono (lY F) |>.trans c.below,fun i hi hl=>(c.block i hi aG).trans (K.out.block i hl)⟩;refine eB (v:= .agg #[.int .u64 A,.int .u64 B,.int .i64 C,.bool D]) (by(simp[results,results259,go_sem,y0,y1,y2,y3];done)) rfl ⟨by rw[PP.out],Z.own G F,W.below G F⟩

def Fl.six (h m l:Nat):List Nat:=[l % 4294967296,l / 4294967296,m % 4294967296,m / 4294967296,h % 4294967296,h / 4294967296]
def Fl.ywk {h m l:Nat} (a:h<18446744073709551616) (hm:m<18446744073709551616) (hl:l<18446744073709551616):Na.OK (Fl.six h m l):=fun x hx=>by simp only[Fl.six,sC,yF,yR] at hx;show x<4294967296;omega
def Fl.yga (h m l:Nat):Na.val (Fl.six h m l)=Fl.w3 h m l:=by simp only[Fl.six,Na.val,Na.B];unfold Fl.w3;omega
def Fl.ymG (h m l:Nat) (a:World):Blk (a.alloc (Obj.cells #[Value.int IntKind.u32 ((l:Int) % 4294967296),Value.int IntKind.u32 ((l:Int) / 4294967296),Value.int IntKind.u32 ((m:Int) % 4294967296),Value.int IntKind.u32 ((m:Int) / 4294967296),Value.int IntKind.u32 ((h:Int) % 4294967296),Value.int IntKind.u32 ((h:Int) / 4294967296)] 85)) a.heap.size (Fl.six h m l):=by show(a.heap.push _)[a.heap.size]? =_;simp[u32s,Fl.six]
def Fl.yci (h m l:Nat):(Fl.six h m l).length =6:=rfl
def Fl.yu4 {h m l R b:Nat} {e:Int} (g:h<18446744073709551616) (hm:m<18446744073709551616) (hl:l<18446744073709551616) (i: -10000<=e/\e<=1900) (d:R=Fl.rd (Fl.w3 h m l) e false) (a:World) (s:Sl a (some ⟨b,0,none⟩) 6 (Fl.six h m l)):
 Calls prog 265 #[.bool false,.slice (some ⟨b,0,none⟩) 6 6,.int .i64 e,.bool false] a (RetB (.int .u64 (R:Nat)) a):=by
 have f:=(Na.yC s.ok).1;rw[Na.rt,Na.cut,Fl.yga,Fl.yci] at f;have c:=yh2 false (some ⟨b,0,none⟩) 6 (Fl.six h m l) e false a s (by rw[Fl.yci];omega) aG (by rw[Fl.yga];omega);rw[Fl.yga,<-d,show Fl.sgn false=0 from rfl,iR,Fl.yci] at c;exact c
def ylU (h m l:Nat) (e:Int) (w:World) (c:h<18446744073709551616) (hm:m<18446744073709551616) (hl:l<18446744073709551616) (d: -10000<=e/\e<=1900):
 Calls prog 261 #[.agg #[.int .u64 h,.int .u64 m,.int .u64 l],.int .i64 e] w (RetB (.int .u64 ((Fl.rd (Fl.w3 h m l) e false:Nat):Int)) w):=by
 obtain⟨R,a⟩:=bx (Fl.rd (Fl.w3 h m l) e false);rw[<-a];have b:=Fl.yu4 c hm hl d a _ ((Fl.ymG h m l (w.alloc (Obj.cells #[Value.int IntKind.u64 h,Value.int IntKind.u64 m,Value.int IntKind.u64 l] 284))).sl (Fl.ywk c hm hl) (by rw[Fl.yci];exact WL 6));rw[i7] at b;have f:=aL b;clear b;obtain⟨i,g⟩:=d;clear a;go_enter func261,ntmps261
 go_wp2_with (first|(go_at_call 265;refine cp f.out ?_;refine wv ?_;intro w1 ab ao ay az af))
 go_ret
 exact qO

def Fl.E6 (m:Nat) (x:Int):Nat × Bool:=
 if Fl.pwA x=true then(Fl.rd (Fl.pwP x*m) (Fl.pwE x) false,true)
 else(Fl.rd (Fl.pwP x*m) (Fl.pwE x) false,decide (Fl.rd (Fl.pwP x*m+m) (Fl.pwE x) false=Fl.rd (Fl.pwP x*m) (Fl.pwE x) false))
def Fl.yoM {l:Dc.Bs} {x:Int} (hx: -100000<=x) (h:(Fl.E6 (Dc.nv l) x).2 =true):(Fl.E6 (Dc.nv l) x).1 =Fl.bits l x:=by
 unfold Fl.E6 at h ⊢;by_cases a:Fl.pwA x=true
 ·rw[bT a];exact Fl.yj9 hx rfl (Fl.pw x) (Or.inl a)
 ·rw[bv a] at h ⊢;exact Fl.yj9 hx rfl (Fl.pw x) (Or.inr (vx h))
def Fl.yng {p m l a:Nat} (hl:l<18446744073709551616) (b:a<18446744073709551616) (hm:m<18446744073709551616):
 Fl.w3 p m l+a=Fl.w3 (p+(if 18446744073709551616<=m+(l+a) / 18446744073709551616 then 1 else 0)) ((m+(l+a) / 18446744073709551616) % 18446744073709551616) ((l+a) % 18446744073709551616):=by
 unfold Fl.w3;split<;>omega
def ymN (b m:Nat) (x:Int) (w:World) (hx: -400<=x/\x<=400) (hm:m<18446744073709551616) (f:Rdr w b) (u:Fl.pwA x=true) (t: -10000<=Fl.pwE x/\Fl.pwE x<=1900):
 Calls prog 227 #[.pointer (some ⟨b,0,none⟩),.int .u64 m,.int .i64 x] w (RetR b (.tuple #[.int .u64 ((Fl.rd (Fl.pwP x*m) (Fl.pwE x) false:Nat):Int),.bool true]) w):=by
 have c:=fun w1 (h:Rdr w1 b)=>yk9 b x w1 hx h;have E:=(Fl.ybD x).2;simp only[Fl.pval] at c;rw[u] at c;obtain⟨A,n⟩:=bx (Fl.pwP x / 18446744073709551616);obtain⟨B,D⟩: ∃ A,A=Fl.pwP x % 18446744073709551616:=⟨_,rfl⟩;obtain⟨C,i⟩: ∃ A,A=Fl.pwE x:=⟨_,rfl⟩;rw[<-n,<-D,<-i] at c;have j:A*18446744073709551616+B=Fl.pwP x:=aG;have d:=fun w1=>yme A B m w1 aG aG hm;rw[j] at d;rw[<-i] at t ⊢;obtain⟨N,s⟩:=bx (Fl.pwP x*m);rw[<-s] at d ⊢;have y:=fun(p q l:Nat) w1 (g:p<18446744073709551616) (hq:q<18446744073709551616) (hl:l<18446744073709551616)=>ylU p q l C w1 g hq hl t;obtain⟨K,J,I⟩:=iJ c d y;have z:=f.lt;have H:=aL f;clear c d y j n D i s E f u;go_enter func227,ntmps227
 go_wp2_with (first|(go_at_call 259;refine cV (K.out _ H.out) ?_;rintro e w1 ⟨rfl,r,F⟩;have qN:=r.size)|(go_at_call 260;refine cV (J.out _) ?_;rintro e w2 ⟨p,q,l,rfl,g,hq,hl,G,hb2⟩;have a:=(CF.new w1 [.int .u64 A,.int .u64 B,.int .i64 C,.bool true] 97).on hb2;have y0:=a.1.get 0 rfl;have y1:=a.1.get 1 rfl;have y2:=a.1.get 2 rfl;have y3:=a.1.get 3 rfl;have yl:=a.1.1;have eK:=hb2.size)|(go_at_call 261;refine cp (I.out _ _ _ _ g hq hl) ?_;intro w3 aU;have o:=(a.alloc (.cells #[.int .u64 p,.int .u64 q,.int .u64 l] 284)).on aU;have z3:=o.1.get 3 rfl;have zl:=o.1.1))
 refine ykT ?_;intro cH bd aP;refine eB (v:= .tuple #[.int .u64 ((Fl.rd (Fl.w3 p q l) C false:Nat):Int),.bool true]) yeg rfl ⟨by rw[G],r.own aP z,F.below aP z⟩
def yt0 (q l m:Nat) (hq:q<18446744073709551616) (hl:l<18446744073709551616) (hm:m<18446744073709551616): ∃ (a b:Nat) (o:Bool),a<18446744073709551616/\b<18446744073709551616/\(∀ p,Fl.w3 p q l+m=Fl.w3 (p+o.toNat) a b)/\
 ∀ w,Calls prog 262 #[.agg #[.int .u64 q,.int .u64 l],.agg #[.int .u64 0,.int .u64 m]] w (RetB (.tuple #[.agg #[.int .u64 a,.int .u64 b],.bool o]) w):=by
 refine⟨(q+0+(l+m) / 18446744073709551616) % 18446744073709551616,(l+m) % 18446744073709551616,decide (18446744073709551616<=q+0+(l+m) / 18446744073709551616),kk _ bL,kk _ bL,fun p=>?_,fun w=>ymu q l 0 m w hq hl bL hm⟩;rw[Fl.yng hl hm hq,ms];by_cases c:18446744073709551616<=q+(l+m) / 18446744073709551616
 ·rw[bT c,fv c];rfl
 ·rw[bv c,eL c];rfl
def Fl.yqv {p q l N:Nat} (h:Fl.w3 p q l=N) (a:N<6277101735386680763835789423207666416102355444464034512896):p<18446744073709551616:=by unfold Fl.w3 at h;omega
def yr5 (b m:Nat) (x:Int) (w:World) (hx: -400<=x/\x<=400) (hm:m<18446744073709551616) (U:Rdr w b) (hA:Fl.pwA x=false) (hE: -10000<=Fl.pwE x/\Fl.pwE x<=1900):
 Calls prog 227 #[.pointer (some ⟨b,0,none⟩),.int .u64 m,.int .i64 x] w (RetR b (.tuple #[.int .u64 ((Fl.rd (Fl.pwP x*m) (Fl.pwE x) false:Nat):Int),.bool (decide (Fl.rd (Fl.pwP x*m+m) (Fl.pwE x) false=Fl.rd (Fl.pwP x*m) (Fl.pwE x) false))]) w):=by
 have z:=fun w1 (h:Rdr w1 b)=>yk9 b x w1 hx h;have hP:=(Fl.ybD x).2;simp only[Fl.pval] at z;rw[hA] at z;obtain⟨A,xR⟩:=bx (Fl.pwP x / 18446744073709551616);obtain⟨B,IV⟩: ∃ A,A=Fl.pwP x % 18446744073709551616:=⟨_,rfl⟩;obtain⟨C,V⟩: ∃ A,A=Fl.pwE x:=⟨_,rfl⟩;rw[<-xR,<-IV,<-V] at z;have xT:A*18446744073709551616+B=Fl.pwP x:=aG;have L:=fun w1=>yme A B m w1 aG aG hm;rw[xT] at L;rw[<-V] at hE ⊢
 have T:Fl.pwP x*m+m<6277101735386680763835789423207666416102355444464034512896:=by have h:=Xf (show Fl.pwP x+1<=340282366920938463463374607431768211456 by omega) (show m<=18446744073709551615 by omega);rw[iW,nW] at h;omega
 obtain⟨N,hN⟩:=bx (Fl.pwP x*m);rw[<-hN] at L T ⊢;have h3:=fun(p q l:Nat) w1 (K:p<18446744073709551616) (hq:q<18446744073709551616) (hl:l<18446744073709551616)=>ylU p q l C w1 K hq hl hE;have h4:=fun(q l:Nat) (hq:q<18446744073709551616) (hl:l<18446744073709551616)=>yt0 q l m hq hl hm;obtain⟨H1,H2,H,H4⟩:=jv z L h3 h4;have O:=U.lt;have HR:=aL U;have dR:True:=trivial;have Q:=aL T;clear z L h3 h4 xT xR IV V hN hP U hA T;go_enter func227,ntmps227
 go_upto_region 8 with (first|(go_at_call 259;refine cV (H1.out _ HR.out) ?_;rintro e w1 ⟨rfl,ho,gV⟩;have qN:=ho.size)|(go_at_call 260;refine cV (H2.out _) ?_;rintro e w2 ⟨p,q,l,rfl,K,hq,hl,M,hb2⟩;have r:=(CF.new w1 [.int .u64 A,.int .u64 B,.int .i64 C,.bool false] 97).on hb2;have y0:=r.1.get 0 rfl;have y1:=r.1.get 1 rfl;have y2:=r.1.get 2 rfl;have y3:=r.1.get 3 rfl;have yl:=r.1.1;have eK:=hb2.size;obtain⟨a,c,o,ha,jm,J',oN⟩:=H4.out q l hq hl;obtain⟨Y,Eb⟩:=dY J' oN;clear J' oN)|(go_at_call 261;refine cp (H.out _ _ _ _ K hq hl) ?_;intro w3 aU;have n:=(r.alloc (.cells #[.int .u64 p,.int .u64 q,.int .u64 l] 284)).on aU;have z0:=n.1.get 0 rfl;have z1:=n.1.get 1 rfl;have z2:=n.1.get 2 rfl;have z3:=n.1.get 3 rfl;have zl:=n.1.1;have t:=(CF.new w2 [.int .u64 p,.int .u64 q,.int .u64 l] 284).on aU;have x0:=t.1.get 0 rfl;have x1:=t.1.get 1 rfl;have x2:=t.1.get 2 rfl;have xl:=t.1.1;have fb:=aU.size)|(go_at_call 263;refine cp (ygW p q l _) ?_;intro w4 F;have Ik:=n.on F;have Sx:=t.on F)|(go_at_call 262;refine cp (Eb.out _) ?_;intro f E;have j:=Ik.on E;have G:=Sx.on E;have u0:=G.1.get 0 rfl;have u1:=G.1.get 1 rfl;have u2:=G.1.get 2 rfl;have ul:=G.1.1;have v0:=j.1.get 0 rfl;have v1:=j.1.get 1 rfl;have v2:=j.1.get 2 rfl;have v3:=j.1.get 3 rfl;have vl:=j.1.1))
 have uj:=F.size;have kA:=E.size;refine ykT ?_;intro ez bd W;have GN:w.heap.size<=w3.heap.size:=dE qN W.size;have S:Below w.heap.size w1 f:=(W.trans (F.mono GN)).trans (E.mono (dE GN uj));have MG:w.heap.size<=f.heap.size:=dE qN S.size
 have d:CF ((f.alloc (.cells #[.int .u64 a,.int .u64 c] 95)).alloc (.cells #[.int .u64 p,.int .u64 a,.int .u64 c] 284)) (f.heap.size+1) [.int .u64 p,.int .u64 a,.int .u64 c]:=by have h:=CF.new (f.alloc (.cells #[.int .u64 a,.int .u64 c] 95)) [.int .u64 p,.int .u64 a,.int .u64 c] 284;rw[i7] at h;exact h
 have iu:Below w.heap.size w1 ((f.alloc (.cells #[.int .u64 a,.int .u64 c] 95)).alloc (.cells #[.int .u64 p,.int .u64 a,.int .u64 c] 284)):=(S.alloc MG _).alloc pp _;have s:CF ((f.alloc (.cells #[.int .u64 a,.int .u64 c] 95)).alloc (.cells #[.int .u64 p,.int .u64 a,.int .u64 c] 284)) w1.heap.size [.int .u64 A,.int .u64 B,.int .i64 C,.bool false]:=(j.alloc _).alloc _;have aq:f.heap.size+1≠w1.heap.size:=aG;obtain⟨X,hX⟩:=bx (((f.alloc (.cells #[.int .u64 a,.int .u64 c] 95)).alloc (.cells #[.int .u64 p,.int .u64 a,.int .u64 c] 284)));rw[<-hX] at d iu s ⊢;clear hX u0 u1 u2 ul v0 v1 v2 v3 vl x0 x1 x2 xl z0 z1 z2 z3 zl y0 y1 y2 y3 yl hb2 aU F E r n Ik j t Sx G bd W S;obtain⟨g,hg⟩:=bx (f.heap.size+1);rw[<-hg] at d aq ⊢;have Ez:w.heap.size<=g:=aG;obtain⟨R1,P⟩: ∃ R,R=Fl.rd (Fl.w3 p q l) C false:=⟨_,rfl⟩;rw[<-P];have wG:=aL (show R1=Fl.rd N C false by rw[P,M]);obtain⟨HO,kf,u⟩:=iJ ho gV iu;have I:=Y.out p
 cases o with
 |false=>
  obtain⟨R2,i⟩: ∃ R,R=Fl.rd (Fl.w3 (p+false.toNat) a c) C false:=⟨_,rfl⟩
  have lQ:=aL (show R2=Fl.rd (N+m) C false by rw[i,M,I])
  have hj:=fun w1=>H.out p a c w1 K ha jm
  rw[show p=p+false.toNat from rfl,<-i] at hj
  have Z:=aL (fun w1=>(show Calls prog 261 #[.agg #[.int .u64 p,.int .u64 a,.int .u64 c],.int .i64 C] w1 (RetB (.int .u64 (R2:Nat)) w1) from hj w1))
  have t0:=d.1.get 0 rfl;have t1:=d.1.get 1 rfl;have t2:=d.1.get 2 rfl;have tl:=d.1.1
  have s2:=s.1.get 2 rfl;have sl:=s.1.1
  clear hj I Y Eb H1 H2 H H4 Q hg d s P i
  go_wp2_with (first|(go_at_call 261;refine cp (Z.out _) ?_;intro w6 D))
  refine eB (v:= .tuple #[.int .u64 (R1:Nat),.bool ((R2:Int)==(R1:Int))]) yeg rfl ⟨?_,HO.out.own (u.out.trans (D.mono (dE qN u.out.size))) O,kf.out.below (u.out.trans (D.mono (dE qN u.out.size))) O⟩
  exact ygD
 |true=>
  have ig:p+1<18446744073709551616:=Fl.yqv I.symm (by rw[<-M];exact Q.out)
  obtain⟨R2,i⟩: ∃ R,R=Fl.rd (Fl.w3 (p+true.toNat) a c) C false:=⟨_,rfl⟩
  have lQ:=aL (show R2=Fl.rd (N+m) C false by rw[i,M,I])
  obtain⟨y,A8⟩:=bx (p+1)
  have hj:=fun w1=>H.out y a c w1 aG ha jm
  rw[A8,show p+1=p+true.toNat from rfl,<-i] at hj
  have Z:=aL (fun w1=>(show Calls prog 261 #[.agg #[.int .u64 (y:Nat),.int .u64 a,.int .u64 c],.int .i64 C] w1 (RetB (.int .u64 (R2:Nat)) w1) from(by rw[A8];exact hj w1)))
  have Ep:(p:Int)+1=(y:Int):=aG
  have Ws:y<18446744073709551616:=aG
  have t0:=d.1.get 0 rfl;have t1:=d.1.get 1 rfl;have t2:=d.1.get 2 rfl;have tl:=d.1.1;have tf:=d.2 0
  have s2:=s.1.get 2 rfl;have sl:=s.1.1
  clear hj I Y Eb H1 H2 H H4 Q hg d s P i A8
  go_wp2_with (first|(go_at_call 261;refine cp (Z.out _) ?_;intro w6 D))
  have J:Below w.heap.size w1 (X.setCell ⟨g,0,none⟩ (.int .u64 (y:Nat))):=u.out.setCell Ez _
  refine eB (v:= .tuple #[.int .u64 (R1:Nat),.bool ((R2:Int)==(R1:Int))]) yeg rfl ⟨?_,HO.out.own (J.trans (D.mono (dE qN J.size))) O,kf.out.below (J.trans (D.mono (dE qN J.size))) O⟩
  exact ygD

def V4:List Value:=[.int .u32 0,.int .i32 0,.int .u32 0,.int .u64 0,.int .u64 0,.int .i64 0,.bool false]
def ycE:List Value:=(List.replicate 801 V4).flatten
def yuY:zeroCells102=ycE.toArray:=cI
def yoN: ∀ (m k j:Nat) (v:Value),k<m->V4[j]? =some v->((List.replicate m V4).flatten)[k*7+j]? =some v:=by
 intro m
 induction m with
 |zero=>intro k j v b;omega
 |succ m a=>
  intro k j v b hj
  have c:j<7:=(o6.1 hj).1
  rw[Wn,WQ]
  cases k with
  |zero=>rw[zf (by show _<7;omega)];simpa using hj
  |succ k=>
   rw[WC (by show 7<=_;omega),show(k+1)*7+j-V4.length=k*7+j by show _-7=_;omega]
   exact a k j v aG hj
def Rdr.new {w w':World} {Z:Array Value} {t:TypeId} (d:Z=ycE.toArray) (c:w'=w.alloc (.cells Z t)):Rdr w' w.heap.size:=by
 have a:CF w' w.heap.size ycE:=by rw[c,d];exact CF.new w ycE t
 refine⟨a.1.1,a.2,fun n f e=>Or.inl ?_⟩;obtain⟨k,b⟩: ∃ k:Nat,wY n=k*7/\k<801:=⟨(n+400).toNat,by unfold wY;omega,by omega⟩;have g:=fun(j:Nat) (v:Value) (hj:V4[j]? =some v)=>a.1.get (k*7+j) (yoN 801 k j v b.2 hj);rw[b.1];exact⟨g 0 _ rfl,g 1 _ rfl,g 3 _ rfl,g 4 _ rfl,g 5 _ rfl,g 6 _ rfl⟩
def yg5 (w:World):Calls prog 36 #[] w (fun e w'=>e= .returned (.pointer (some ⟨w.heap.size,0,none⟩))/\Rdr w' w.heap.size/\Below w.heap.size w w'):=by
 go_enter func36,ntmps36
 go_wp2_with fail
 go_ret
 exact⟨rfl,Rdr.new yuY rfl,ek⟩
end Go.Proofs.YtilbpmimoijfhaaGreatDoor
