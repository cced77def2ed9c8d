/- binary64 in the program: a number of two words, times a power of two, is rounded (2): Join. -/
import Derived.Test.YtilbpmimoijfhaaGreatDoorY13
namespace Go.Proofs.YtilbpmimoijfhaaGreatDoor
set_option linter.all false
set_option maxRecDepth 100000
set_option maxHeartbeats 16000000
open Go.RowKit Go.Proofs.Tryz
section
def ymw (a b:Int) (w:World):(Instr.field 95 (.agg #[.int .u64 a,.int .u64 b]) 0).run prog w= .ok (.int .u64 a) w:=cI
def yqp (a b:Int) (w:World):(Instr.field 95 (.agg #[.int .u64 a,.int .u64 b]) 1).run prog w= .ok (.int .u64 b) w:=cI
attribute [local go_sem] ymw yqp
def Fl.ykt (x:Nat) (hx:x<18446744073709551616):Go.bits BinOp.and IntKind.u64 (x:Int) 1=((x % 2:Nat):Int):=Fl.Rk x 1 1 hx bL bL
def yoq (b hi lo t:Nat) (n:Int) (w:World) (hn:n= -(t:Int)) (d:t<64) (c0:w.cell? ⟨b,0,none⟩=some (.int .u64 hi)) (c1:w.cell? ⟨b,1,none⟩=some (.int .u64 lo)) (hb:b<w.heap.size) (f:hi<18446744073709551616) (hl:lo<18446744073709551616) (c:(hi*18446744073709551616+lo)*2^t<18446744073709551616):
 Calls prog 273 #[.int .i64 n,.pointer (some ⟨b,0,none⟩)] w (RetB (.tuple #[.int .u64 (((hi*18446744073709551616+lo)*2^t:Nat):Int),.bool false,.bool false]) w):=by
 have a:=fun w1=>ydB hi lo t w1 f hl d;rw[o0 c] at a;obtain⟨V,hV⟩:=bx ((hi*18446744073709551616+lo)*2^t);rw[<-hV] at a c ⊢;obtain⟨U,hU⟩:=bx (V / 18446744073709551616 % 18446744073709551616);rw[<-hU] at a;have g:=aL a;have i: -n=(t:Int):=aG;have s:n<=0:=aG;have e: -64<n:=aG;clear a hV hU hn;go_enter func273,ntmps273
 go_wp2_with (go_at_call 274;refine cp (g.out _) ?_;refine wv ?_;intro w1 ab ao ay az af;obtain⟨q,l,m,o,r,j⟩:=own6 ab (b))
 (refine eB (v:= .tuple #[.int .u64 ((V:Nat):Int),.bool false,.bool false]) (by(simp[results,results273,go_sem];done)) rfl (RetB.of rfl dt))
def yrd (b hi lo k:Nat) (w:World) (ij:0<k) (hk:k<=100000) (c0:w.cell? ⟨b,0,none⟩=some (.int .u64 hi)) (c1:w.cell? ⟨b,1,none⟩=some (.int .u64 lo)) (hb:b<w.heap.size) (L:hi<18446744073709551616) (hl:lo<18446744073709551616) (n:(hi*18446744073709551616+lo) / 2^k<18446744073709551616):
 Calls prog 273 #[.int .i64 k,.pointer (some ⟨b,0,none⟩)] w (RetB (.tuple #[.int .u64 (((hi*18446744073709551616+lo) / 2^k:Nat):Int),.bool (decide ((hi*18446744073709551616+lo) / 2^(k-1) % 2=1)),.bool (decide ((hi*18446744073709551616+lo) % 2^(k-1)≠0))]) w):=by
 obtain⟨j,rfl⟩: ∃ j,k=j+1:=⟨k-1,by omega⟩;rw[va];have a:=fun w1=>ytB hi lo j w1 L hl aG;obtain⟨N,s⟩:=bx (hi*18446744073709551616+lo);have mO:N<340282366920938463463374607431768211456:=aG;rw[<-s] at a n ⊢;have W:N / 2^j<=N:=N4 _ _;have f:N / 2^(j+1)=N / 2^j / 2:=by rw[jM,ycj]
 obtain⟨q,hq⟩:=bx (N / 2^j);rw[<-hq] at a W f ⊢;rw[f] at n ⊢;obtain⟨z,hz⟩:=bx (decide (N % 2^j≠0));rw[<-hz] at a ⊢;obtain⟨A,y⟩:=bx (q / 18446744073709551616);obtain⟨B,x⟩: ∃ A,A=q % 18446744073709551616:=⟨_,rfl⟩;rw[<-y,<-x] at a;have Y:A<18446744073709551616:=aG;have F:B<18446744073709551616:=aG;have e:=fun w1=>(show Calls prog 274 #[.agg #[.int .u64 (A:Int),.int .u64 (B:Int)],.int .i64 63] w1 (RetB (.agg #[.int .u64 (((A*18446744073709551616+B)*2^63 / 18446744073709551616 % 18446744073709551616:Nat):Int),.int .u64 (((A*18446744073709551616+B)*2^63 % 18446744073709551616:Nat):Int)]) w1) from ydB A B 63 w1 Y F aG);rw[show A*18446744073709551616+B=q by omega,show q*2^63 / 18446744073709551616 % 18446744073709551616=q / 2 by omega] at e;obtain⟨H,m⟩:=bx (q / 2);obtain⟨C,u⟩: ∃ H,H=q*2^63 % 18446744073709551616:=⟨_,rfl⟩;rw[<-m,<-u] at e;rw[<-m];have D:=Fl.ykt B F;rw[show B % 2=q % 2 by omega] at D;obtain⟨r,o⟩:=bx (q % 2);rw[<-o] at D ⊢;have M:r=0∨r=1:=aG;obtain⟨Z,H2⟩:=dY a e;have V:((j+1:Nat):Int)-1=(j:Int):=aG;have U:decide (((j+1:Nat):Int)<=0)=false:=eL aG;obtain⟨K,t⟩:=bx (((j+1:Nat):Int):Int);rw[<-t] at V U ⊢;have T:0<K/\K<=100000:=aG;obtain⟨k1,k2⟩:=T;clear a e y x m u o hz hq f s t;go_enter func273,ntmps273
 go_wp2_with (first|(go_at_call 275;refine cp (Z.out _) ?_;refine wv ?_;intro w1 ab ao ay az af;obtain⟨ai,am,al,aj,R,P⟩:=own6 ab (b)))
 have i:Below w.heap.size w (w1.alloc (.cells #[.int .u64 A,.int .u64 B] 95)):=ao.alloc ao.size _;have c:=C2.new w1 A B;obtain⟨X,d⟩:=bx ((w1.alloc (.cells #[.int .u64 A,.int .u64 B] 95)));obtain⟨g,hg⟩:=bx (w1.heap.size);rw[<-d,<-hg] at c;rw[<-d] at i;rw[<-d,<-hg];have I:=c.1.get 0 rfl;have G:=c.1.get 1 rfl;have xl:=c.1.1;have bl:=i.size;have l:((r:Int)==1)=decide (r=1):=by rcases M with rfl|rfl<;>rfl
 clear d hg c R P ay az c0 c1;have Bf:=ycR X _ I;have M5:=ycR X _ G
 go_region_held3 (fun w'=>w'.cell? ⟨g,0,none⟩=some (.int .u64 A)/\w'.cell? ⟨g,1,none⟩=some (.int .u64 B)) (first|go_keep|(refine⟨?_,?_⟩<;>(first|(rw[O];assumption)))|(refine⟨?_,?_⟩<;>(first|(go_simp;done)|(simp[go_sem, *];done))))
  (first|(go_at_call 274;refine cp (H2.out _) ?_;intro J E;obtain⟨S,aO,aN,Q⟩:=g9 (X) E;(try simp only[fO,gz,fY,gt] at Q);obtain⟨aA,aF,aE,aD,O,aJ⟩:=own6 E (g)))
 all_goals(try go_wp2)
 all_goals(
  have KZ:Below w.heap.size w J:=i.trans (S.mono bl)
  (refine eB (v:= .tuple #[.int .u64 (H:Nat),.bool (decide (r=1)),.bool z]) (by(simp[results,results273,go_sem,l];done)) rfl (RetB.of rfl dt)))
def ymx (neg:Bool) (b hi lo:Nat) (e:Int) (more:Bool) (w:World) (c0:w.cell? ⟨b,0,none⟩=some (.int .u64 hi)) (c1:w.cell? ⟨b,1,none⟩=some (.int .u64 lo)) (hb:b<w.heap.size) (R:hi<18446744073709551616) (hl:lo<18446744073709551616) (he: -10000<=e/\e<=2000):
 Calls prog 271 #[.bool neg,.int .i64 (Na.bitLen (hi*18446744073709551616+lo):Nat),.int .i64 e,.bool more,.func (.func 273) #[] #[.pointer (some ⟨b,0,none⟩)]] w (RetB (.int .u64 ((Fl.sgn neg+Fl.rd (hi*18446744073709551616+lo) e more:Nat):Int)) w):=by
 obtain⟨e1,e2⟩:=he;have v:=fun(t:Nat) (n:Int) (hn:n= -(t:Int)) (m:t<64) G w1 (I:w1.cell? ⟨b,0,none⟩=some (.int .u64 hi)) (a:w1.cell? ⟨b,1,none⟩=some (.int .u64 lo)) (H:b<w1.heap.size)=>yoq b hi lo t n w1 hn m I a H R hl G;have s:=fun(k:Nat) (g:0<k) (y:k<=100000) G w1 (I:w1.cell? ⟨b,0,none⟩=some (.int .u64 hi)) (a:w1.cell? ⟨b,1,none⟩=some (.int .u64 lo)) (H:b<w1.heap.size)=>yrd b hi lo k w1 g y I a H R hl G;obtain⟨N,z⟩:=bx (hi*18446744073709551616+lo);have mO:N<2^128:=aG;rw[<-z] at v s ⊢;by_cases i:N=0
 ·subst i;have S:=fun w1=>yxc neg e w1 aG;have HF:=aL S;rw[Fl.rd,bT rfl,ms,show Na.bitLen 0=0 from rfl];clear S v s z;go_enter func271,ntmps271
  go_wp2_with (go_at_call 284;refine og ?_)
  go_ret
  exact qO
 ·obtain⟨U,V,YB⟩:=Fl.rh i;have XL:Na.bitLen N<=128:=Na.yeT mO;have l:Fl.ulp N e=max (e+(Na.bitLen N:Int)-53) (-1074):=rfl;have x:=fun k y g=>Fl.ylK (e:=e) i k y g;have B:=fun t m=>Fl.yl9 (e:=e) i t m;have f:=(Fl.yg0 (e:=e) i more).1;obtain⟨L,J⟩:=bx (Na.bitLen N);rw[<-J] at l XL YB ⊢;have HF:=aL (fun w1=>ytG neg L e w1 aG ⟨e1,e2⟩);have j:=fun w1=>yw6 L e w1 aG aG;rw[<-l] at j;obtain⟨u,C⟩:=bx (Fl.ulp N e);rw[<-C] at j l x B f;have A:=Fl.ymQ (more:=more) i C rfl;obtain⟨M,o⟩:=bx (Fl.rdm N (u-e) more);rw[<-o] at A f;have P: -1074<=u/\u<=100000:=aG;have HP:=aL (fun w1=>yjU neg M u w1 f P);have HU:=aL j;have O:Fl.rd N e more=Fl.pk M u:=by rw[A,Fl.pk]
  rw[O];obtain⟨D,K⟩:=bx (Fl.sgn neg+Fl.pk M u);rw[<-K] at HP ⊢;obtain⟨V6,VZ⟩:=P;by_cases y:u<=e
  ·obtain⟨t,m⟩:=bx ((e-u).toNat :Nat);obtain⟨a, -⟩:=B t aG
   have ME:t<64:=by
    rcases qt t 64 with h|h
    ·exact h
    ·have h1:2^64<=2^t:=hJ bL h;have h2:1*2^t<=N*2^t:=iS _ aG;omega
   have Y:M=N*2^t:=by rw[o,Fl.rdm,bT aG,show(-(u-e)).toNat =t by omega]
   have HJ:=aL (v t (u-e) aG ME aG);rw[<-Y] at HJ a;obtain⟨d,hd⟩:=bx (u-e);rw[<-hd] at HJ;have KD: -100000<=d/\d<=0:=aG;have Su:u-e=d:=hd.symm;clear hd j v s x B A o Y K J C U V l O z m;go_enter func271,ntmps271
   go_wp2_with (first|(go_at_call 284;refine og ?_)|(go_at_call 285;refine cY (HU.out _) ?_)|(go_at_call 273;(with_reducible refine(HJ.out _ lI lI aG).mono ?_);rintro e w1 ⟨rfl,ab⟩;obtain⟨ao,ay,az,af⟩:=g9 (w) ab;(try simp only[fO,gz,fY,gt] at af);obtain⟨ai,am,al,aj,ag,ap⟩:=own6 ab (b))|(go_at_call 286;refine cY (HP.out _) ?_))
   go_ret
   exact qO
  ·obtain⟨k,T⟩:=bx ((u-e).toNat :Nat);have Nj:u-e=(k:Int):=aG;have g:0<k:=aG;obtain⟨a, -⟩:=x k aG g;have HJ:=aL (s k g aG aG)
   have F:M=N / 2^k+(decide (N / 2^(k-1) % 2=1)&&(decide (N % 2^(k-1)≠0) || more || decide (N / 2^k % 2=1))).toNat :=by rw[o,Fl.rdm,bv aG,<-T,Fl.upw]
   obtain⟨q,hq⟩:=bx (N / 2^k);obtain⟨half,W⟩: ∃ b,b=decide (N / 2^(k-1) % 2=1):=⟨_,rfl⟩;obtain⟨rest,Z⟩: ∃ b,b=decide (N % 2^(k-1)≠0):=⟨_,rfl⟩;rw[<-hq,<-W,<-Z] at HJ F;rw[<-hq] at a;have X:=aL F;have fE:Go.bits BinOp.and IntKind.u64 (q:Int) 1=((q % 2:Nat):Int):=Fl.ykt q aG;have pG:q % 2=1∨q % 2=0:=aG;have dz:k<=100000:=aG;clear j v s x B A o F K J C U V l O z T hq W Z
   have LW: ∀ (r:Nat) (c:Bool),r=q % 2->c=(half&&(rest || more || decide (r=1)))->M=q+c.toNat->Calls prog 271 #[.bool neg,.int .i64 (L:Nat),.int .i64 e,.bool more,.func (.func 273) #[] #[.pointer (some ⟨b,0,none⟩)]] w (RetB (.int .u64 ((D:Nat):Int)) w):=by
    intro r c Q hc E;clear X;rw[<-Q] at fE pG;clear Q;cases c
    ·have e:M=q:=E;clear E;subst e;exact ygm
    ·have e:(q:Int)+1=(M:Int):=by have:M=q+1:=E;omega
     clear E;exact ygm
   exact LW _ _ rfl rfl X.out
end
end Go.Proofs.YtilbpmimoijfhaaGreatDoor
