/- The Reader in the program: the slow road, which is exact. -/
import Derived.Test.YtilbpmimoijfhaaGreatDoorY31
import Derived.Test.YtilbpmimoijfhaaGreatDoorY25
import Derived.Test.YtilbpmimoijfhaaGreatDoorY27
import Derived.Test.YtilbpmimoijfhaaGreatDoorY24
namespace Go.Proofs.YtilbpmimoijfhaaGreatDoor
set_option linter.all false
set_option maxRecDepth 100000
set_option maxHeartbeats 16000000
open Go.RowKit Go.Proofs.Tryz
def Fl.yw5:Na.isD=Dc.cu:=by funext c;show(decide (48<=c.toNat)&&decide (c.toNat<=57))=(decide (48<=(c.toNat:Int))&&decide ((c.toNat:Int)<=57));rw[show decide (48<=c.toNat)=decide (48<=(c.toNat:Int)) from sd.2 aG,show decide (c.toNat<=57)=decide ((c.toNat:Int)<=57) from sd.2 aG]
def Fl.ygG {l:Dc.Bs} (hd:Dc.dD l=true) (a:l≠[]) (h:Fl.Mid (Dc.nv l)):Na.parse l=(Na.cl (Dc.nv l),0):=by
 have e:Na.num l=Dc.nv l:=rfl;have b:l.all Na.isD=true:=by rw[Fl.yw5];exact hd
 rw[Na.parse,bv (by rw[b];rintro (h|h);exact a h;cases h),e,Na.fits,bv (by unfold Fl.Mid at h;omega)]
def yj8 (neg:Bool) (a:Option Addr) (c M:Nat) (e:Int) (more:Bool) (w:World) (h:Sl w a c (Na.cl M)) (d:Na.bitLen M<=8192) (i: -10000<=e/\e<=0) (hl:e+Na.bitLen M<=1900):
 Calls prog 265 #[.bool neg,.slice a (Na.cl M).length c,.int .i64 e,.bool more] w (RetB (.int .u64 ((Fl.sgn neg+Fl.rd M e more:Nat):Int)) w):=by
 have hm:=Fl.yaa d
 have f:(32:Int)*(Na.cl M).length <=(Na.bitLen M:Int)+31:=by
  by_cases b:M=0
  ·subst b;rw[Na.rY];simp;omega
  ·have g:=(Fl.rh b).2.1
   have j:=Na.F1 M ((Na.bitLen M+31) / 32) (by
    rw[show Na.B=2^32 from rfl,<-Nat.pow_mul]
    exact eR g (hJ bL aG))
   omega
 have:=yh2 neg a c (Na.cl M) e more w h (by unfold Fl.Mid at hm;omega) aG (by rw[Na.nK];omega);rw[Na.nK] at this;exact this
def yqQ (n:Bool) (s:ByteArray) (X:Nat) (w:World) (t:Dc.right s.data.toList X=true) (P:s.size≠0) (S:(s.size:Int)+X<=310):
 Calls prog 228 #[.agg #[.bool n,.string s,.int .i64 X]] w (RetB (.int .u64 ((Fl.bits s.data.toList X:Nat):Int)) w):=by
 obtain⟨L,hs,kn,jy⟩:=ON t;have eI:Below w.heap.size w (w.alloc (Obj.cells #[Value.bool n,Value.string s,Value.int IntKind.i64 X] 139)):=ek;have lM:=DecB.new w n s X;have u:=Dc.yu t;have D:s.data.toList≠[]:=fun e=>P SL;have f:=Dc.K6 u;rw[dN] at f;have b:Fl.Mid (Dc.nv s.data.toList):=Fl.yg3 (lY f) (Fl.Kw aG);have m:=fun w=>yhh s w aG;rw[Fl.ygG u D b] at m;have g:=Fl.ylx (l:=s.data.toList) (x:=(X:Int)) aG;rw[jJ] at g;obtain⟨N,z⟩:=bx (Dc.nv s.data.toList);rw[<-z] at m f g b;have o:=fun w=>L5 10 (X:Int) w aG aG;rw[Fl.ycO aG] at o;have i:=Fl.Kw (show X<=2000 by omega);have G:N*10^X<10^(s.size+X):=by rw[lR];exact jd f (fp bL)
 have F:Na.bitLen (N*10^X)<=1300:=by have O:N*10^X<2^(4*(s.size+X)):=eR G (Fl.yba _);exact dE (Fl.MT O) aG
 obtain⟨T,B⟩:=bx (10^X);rw[<-B] at o g i F;have j:=fun wr y c1 v c2 (r:Sl wr y c1 (Na.cl N)) (q:Sl wr v c2 (Na.cl T))=>ycx y c1 (Na.cl N) v c2 (Na.cl T) wr r q (by unfold Fl.Mid at b;omega) (by unfold Fl.Mid at i;omega);rw[Fl.yqb b i (Fl.yaa aG)] at j;have d:=fun wr a c (J:Sl wr a c (Na.cl (N*T)))=>yj8 false a c (N*T) 0 false wr J aG aG aG;rw[g,show Fl.sgn false=0 from rfl,iR] at d;obtain⟨M,H⟩:=bx (N*T);rw[<-H] at j d;obtain⟨Z,A⟩:=bx (Fl.bits s.data.toList X);rw[<-A] at d ⊢;obtain⟨W,U,Y,V⟩:=jv m o j d;clear m o j d t S L A H F G i B b z f g u D;go_enter func228,ntmps228
 go_wp2_with (first|(go_at_call 264;refine cV (W.out _) ?_;rintro e w1 ⟨y,c1,rfl,r, -,aw⟩;refine NR ?_;intro bd mA y0 y1 y2 yl)|(go_at_call 176;refine cV (U.out _) ?_;rintro e I ⟨v,c2,rfl,q, -,hb2⟩;have E:Below w.heap.size w I:=bd.trans (hb2.mono bd.size);have Ec:=r.on hb2)|(go_at_call 177;refine cV (Y.out _ _ _ _ _ Ec q) ?_;rintro e w3 ⟨a3,c3,rfl,K, -,R⟩;have C:Below w.heap.size w w3:=E.trans (R.mono E.size))|(go_at_call 265;refine cp (V.out _ _ _ K) ?_;intro w4 Q;have bM:Below w.heap.size w w4:=C.trans (Q.mono C.size)))
 go_ret
 exact qO
def yqe (n:Bool) (s:ByteArray) (x:Int) (X k:Nat) (w:World) (wZ: -x=(X:Int)) (z:Dc.right s.data.toList x=true) (h0:s.size≠0) (aR: -330<=(s.size:Int)+x/\(s.size:Int)+x<=310) (hX:0<X)
 (g:(k:Int)=max 0 ((Na.bitLen (10^X):Int)-Na.bitLen (Dc.nv s.data.toList)+66)):
 Calls prog 228 #[.agg #[.bool n,.string s,.int .i64 x]] w (RetB (.int .u64 ((Fl.bits s.data.toList x:Nat):Int)) w):=by
 obtain⟨hp,hs,kn,jy⟩:=ON z;refine G6 ?_;intro eI;have lM:=DecB.new w n s x;have A:=Dc.yu z;have D:s.data.toList≠[]:=fun e=>h0 SL;have I:=eR (fp bL) (Dc.ydr A D (Dc.yew z D));have j:=Dc.K6 A;rw[dN] at j;have o:Fl.Mid (Dc.nv s.data.toList):=Fl.yg3 (lY j) (Fl.Kw aG);have B:=fun w=>yhh s w aG;rw[Fl.ygG A D o] at B;have f:=fun hq=>Fl.yqi (l:=s.data.toList) (x:=x) (k:=k) aG aG I hq;rw[wZ,jJ] at f;obtain⟨N,S⟩:=bx (Dc.nv s.data.toList);rw[<-S] at B j f o g I
 have Y:Na.bitLen N<=4401:=by have G:N<2^(4*s.size):=eR j (Fl.yba _);exact dE (Fl.MT G) aG
 have C:=fun w=>L5 10 (X:Int) w aG aG;rw[Fl.ycO aG] at C;have q:=Fl.Kw (show X<=2000 by omega);have J:=Fl.OM X;have P:=Fl.ydL X;obtain⟨T,H⟩:=bx (10^X);rw[<-H] at C f q J P g;have f:=f aG;have m:=fun wr b c1 (d:Sl wr b c1 (Na.cl T))=>Ng b c1 (Na.cl T) wr d (by unfold Fl.Mid at q;omega);have E:=fun wr b c1 (d:Sl wr b c1 (Na.cl N))=>Ng b c1 (Na.cl N) wr d (by unfold Fl.Mid at o;omega);rw[Na.nK] at m E;obtain⟨LT,Ti⟩: ∃ L,L=Na.bitLen T:=⟨_,rfl⟩;obtain⟨LN,Tj⟩: ∃ L,L=Na.bitLen N:=⟨_,rfl⟩;rw[<-Ti] at m g J;rw[<-Tj] at E g Y;have fu:Na.bitLen N+k<=8192:=aG;have y:=fun wr b c1 (d:Sl wr b c1 (Na.cl N))=>ybC b c1 (Na.cl N) (k:Int) wr d (by unfold Fl.Mid at o;omega) aG;rw[Fl.yfI aG fu] at y;have W:Na.bitLen (N*2^k)<=Na.bitLen N+k:=Fl.MT (Fl.ywi aG);obtain⟨U,hU⟩:=bx (N*2^k);rw[<-hU] at y f W;have M:Fl.Mid U:=Fl.yaa aG;have v:=fun wr b c1 K c2 (d:Sl wr b c1 (Na.cl U)) (t:Sl wr K c2 (Na.cl T))=>yl0 b c1 (Na.cl U) K c2 (Na.cl T) wr d t (by unfold Fl.Mid at M;omega) (by unfold Fl.Mid at q;omega);rw[Fl.yku M q P] at v
 have tB:Na.bitLen (U / T)<=Na.bitLen U:=by
  by_cases SS:U=0
  ·rw[SS,Nat.zero_div];exact cm
  ·exact Fl.MT (wx (N4 _ _) (Fl.rh SS).2.1)
 have Ox: -(k:Int)+Na.bitLen (U / T)<=1900:=by
  have m:U / T<2^(4*Fl.n310+k):=by rw[hU,H];exact Fl.ypt j (by unfold Fl.n310;omega)
  have h2:=Fl.MT m;have h3:Fl.n310=310:=rfl;omega
 have i:=fun wr a c (sl:Sl wr a c (Na.cl (U / T)))=>yj8 false a c (U / T) (-(k:Int)) (decide (U % T≠0)) wr sl aG aG aG;rw[f,show Fl.sgn false=0 from rfl,iR] at i
 have O:decide ((0:Int)<((Na.cl (U % T)).length :Int))=decide (U % T≠0):=by
  apply sd.2;by_cases h:U % T=0
  ·rw[h,Na.rY];simp
  ·have G:Na.cl (U % T)≠[]:=fun e=>h (Na.Ie.1 e);have h2:=ti.2 G;omega
 obtain⟨Q,F⟩:=bx (U / T);obtain⟨R,u⟩: ∃ Q,Q=U % T:=⟨_,rfl⟩;rw[<-F,<-u] at v;rw[<-F,<-u] at i;rw[<-u] at O;obtain⟨rn,V⟩: ∃ r,r=decide (R≠0):=⟨_,rfl⟩;rw[<-V] at i O;obtain⟨Z,hZ⟩:=bx (Fl.bits s.data.toList x);rw[<-hZ] at i ⊢;obtain⟨HP,HT,HR,Qh,E0,fQ,Qx⟩:=zo B C i m E y v;have WF:decide (0<(Na.cl R).length)=rn:=by rw[<-O];apply sd.2;omega
 have jc:x<0:=aG;have Ew:max (0:Int) ((LT:Int)-(LN:Int)+66)=(k:Int):=g.symm;have XN:LT<=8192:=aG;have XO:LN<=8192:=aG;clear B C i m E y v z aR hp hZ tB Ox F u V M W hU fu Ti Tj H P J q o S j I Y f A D g;go_enter func228,ntmps228
 go_wp2_with (first|(go_at_call 264;refine cV (HP.out _) ?_;rintro e w1 ⟨b,c1,rfl,d, -,aw⟩;refine NR ?_;intro bd mA y0 y1 y2 yl)|(go_at_call 176;refine cV (HT.out _) ?_;rintro e w2 ⟨K,c2,rfl,t, -,hb2⟩;have aP:Below w.heap.size w w2:=bd.trans (hb2.mono bd.size);have Ec:=d.on hb2)|(go_at_call 218;refine cY (Qh.out _ _ _ t) ?_)|(go_at_call 218;refine cY (E0.out _ _ _ Ec) ?_)|(go_at_call 174;refine cV (fQ.out _ _ _ Ec) ?_;rintro e w3 ⟨a3,c3,rfl,s3, -,aU⟩;have cL:Below w.heap.size w w3:=aP.trans (aU.mono aP.size);have Vr:=t.on aU)|(go_at_call 266;refine cV (Qx.out _ _ _ _ _ s3 Vr) ?_;rintro e w4 ⟨a4,c4,a5,c5,rfl,s4, -, -, -,cD⟩;have bM:Below w.heap.size w w4:=cL.trans (cD.mono cL.size))|(go_at_call 265;refine cp (HR.out _ _ _ s4) ?_;intro w5 dr;have jp:Below w.heap.size w w5:=bM.trans (dr.mono bM.size)))
 go_ret
 exact qO

def Fl.ylr: ∀ (l:Dc.Bs) (b:Nat),Dc.dD l=true->(b+1)*10^l.length<=10000000000000000000->Lib.parseUintM (2^64-1) b l= .ok (l.foldl (fun a c=>10*a+(c.toNat-48)) b)
 | [],b,_,_=>rfl
 |c::r,b,hd,h=>by
  have d:Dc.cu c=true/\Dc.dD r=true:=by simpa[Dc.dD] using hd
  obtain⟨d,f⟩:=d;have i:48<=c.toNat/\c.toNat<=57:=by unfold Dc.cu at d;simp at d;omega
  have g:0<10^r.length:=fp bL;rw[gE,jM] at h
  have e:(b*10+(c.toNat-48)+1)*10^r.length<=10000000000000000000:=by refine dE ?_ h;rw[fM (10^r.length) 10,<-Nat.mul_assoc];exact iS _ aG
  have j:b*10+(c.toNat-48)+1<=10000000000000000000:=dE (ybX _ g) e;rw[Lib.parseUintM,bT i,bv aG,bv aG,uU,fM 10 b];exact Fl.ylr r _ f e
def Fl.ywA {l:Dc.Bs} (hd:Dc.dD l=true) (a:l≠[]) (hl:l.length<=19):Lib.parseUintB 64 l= .ok (Dc.nv l):=by rw[Lib.parseUintB,bv a];refine Fl.ylr l 0 hd ?_;rw[iR,nW];exact dE (hJ bL hl) bL
def yiW (s:ByteArray) (w:World) (hd:Dc.dD s.data.toList=true) (a:s.data.toList≠[]) (hl:s.size<=19):
 Calls prog 224 #[.string s,.int .i64 10,.int .i64 64] w (RetB (.tuple #[.int .u64 (Dc.nv s.data.toList:Nat),.nilIface]) w):=by
 refine(strconv_ParseUint_10_at64_ok s aG (Dc.nv s.data.toList) (Fl.ywA hd a (by rw[dN];exact hl)) w).mono ?_;rintro e w' ⟨rfl,h⟩;refine⟨rfl,?_⟩;rcases h with rfl|rfl
 ·exact eN
 ·exact Td _ _ _
def yjt (n:Bool) (s:ByteArray) (x:Int) (w:World) (a:Dc.right s.data.toList x=true) (b:s.size≠0) (c: -330<=(s.size:Int)+x/\(s.size:Int)+x<=310):
 Calls prog 228 #[.agg #[.bool n,.string s,.int .i64 x]] w (RetB (.int .u64 ((Fl.bits s.data.toList x:Nat):Int)) w):=by
 by_cases h:0<=x
 ·obtain⟨X,rfl⟩: ∃ X:Nat,x=X:=⟨x.toNat,by omega⟩;exact yqQ n s X w a b c.2
 ·exact yqe n s x (-x).toNat (max 0 ((Na.bitLen (10^(-x).toNat):Int)-Na.bitLen (Dc.nv s.data.toList)+66)).toNat w aG a b c aG aG
def Fl.yhe {x:Int} (hx: -400<=x/\x<=400): -10000<=Fl.pwE x/\Fl.pwE x<=1900:=by
 unfold Fl.pwE;split
 ·have:=Fl.OM (-x).toNat;omega
 ·have:=Fl.OM x.toNat;omega
def yp9 (b m:Nat) (x:Int) (w:World) (hx: -400<=x/\x<=400) (hm:m<18446744073709551616) (c:Rdr w b):
 Calls prog 227 #[.pointer (some ⟨b,0,none⟩),.int .u64 m,.int .i64 x] w (RetR b (.tuple #[.int .u64 ((Fl.E6 m x).1 :Nat),.bool (Fl.E6 m x).2]) w):=by
 unfold Fl.E6;by_cases a:Fl.pwA x=true
 ·rw[bT a];exact ymN b m x w hx hm c a (Fl.yhe hx)
 ·rw[bv a];exact yr5 b m x w hx hm c (Ny.2 a) (Fl.yhe hx)

def DecB.onl {W e:World} {b c:Nat} {n:Bool} {s:ByteArray} {x:Int} (h:DecB W b n s x) (a:Onl c W e) (d:b≠c):DecB e b n s x:=
 ⟨(a.cell d h.2.2.2).trans h.1,(a.cell d h.2.2.2).trans h.2.1,(a.cell d h.2.2.2).trans h.2.2.1,eR h.2.2.2 a.size⟩
def ywP (b:Nat) (n:Bool) (s:ByteArray) (x:Int) (w:World) (a:Dc.right s.data.toList x=true) (hR:Rdr w b) (j:s.size=0∨(s.size:Int)+x < -330∨310<(s.size:Int)+x):
 Calls prog 183 #[.pointer (some ⟨b,0,none⟩),.agg #[.bool n,.string s,.int .i64 x]] w (RetR b (.int .u64 ((Fl.bits s.data.toList x:Nat):Int)) w):=by
 obtain⟨g,t,q,r⟩:=ON a;have d:=fun w=>W3 n s x w aG;rw[g] at d;refine G6 ?_;intro eI;have lM:=DecB.new w n s x;obtain⟨Z,c⟩:=bx (Fl.bits s.data.toList x);rw[<-c];have HP:=aL d;refine ycs ?_;intro hF;have HF:=aL hF;clear hF hR;by_cases f:s.size=0
 ·have hl:s.data.toList=[]:=yM (by rw[dN];exact f);have m:x=0:=by rw[hl] at a;simpa[Dc.right] using a
  have hb:Fl.bits s.data.toList x=0:=by rw[hl,m];exact Fl.yv8
  rw[hb] at c;subst c;have hz:=pB f;clear hl m hb a j d g;exact ydv
 ·have hz:=oj (s:=s) aG;have i:s.data.toList≠[]:=fun e=>f SL;obtain⟨P,l⟩:=bx ((s.size:Int)+x);rw[<-l] at HP j;by_cases hm:P < -330
  ·have hb:Fl.bits s.data.toList x=0:=Fl.ysq a i (by rw[dN];omega);rw[hb] at c;subst c;clear i hb a j d g l f;exact ydv
  ·have o:310<P:=aG;have hb:Fl.bits s.data.toList x=9218868437227405312:=Fl.ywr a i (by rw[dN];omega);rw[hb] at c;subst c;clear i hb a j d g l f;exact ydv
def yvO (b:Nat) (n:Bool) (s:ByteArray) (x:Int) (w:World) (c:Dc.right s.data.toList x=true) (hR:Rdr w b) (e: -330<=(s.size:Int)+x/\(s.size:Int)+x<=310) (hl:19<s.size):
 Calls prog 183 #[.pointer (some ⟨b,0,none⟩),.agg #[.bool n,.string s,.int .i64 x]] w (RetR b (.int .u64 ((Fl.bits s.data.toList x:Nat):Int)) w):=by
 obtain⟨g,u,r,t⟩:=ON c;have a:=fun w=>W3 n s x w aG;rw[g] at a;have d:=fun w=>yjt n s x w c aG e;refine G6 ?_;intro eI;have lM:=DecB.new w n s x;obtain⟨Z,i⟩:=bx (Fl.bits s.data.toList x);rw[<-i] at d ⊢;refine ycs ?_;intro hF;have hz:=oj (s:=s) aG;obtain⟨P,f⟩:=bx ((s.size:Int)+x);rw[<-f] at a e;obtain⟨o,m,q⟩:=iJ a d hF;obtain⟨y,v⟩:=e;clear hF hR a d c g f i;go_enter func183,ntmps183
 go_wp2_with (first|(go_at_call 113;refine cp (o.out _) ?_;intro w1 aw;refine NR ?_;intro bd mA y0 y1 y2 yl)|(go_at_call 228;refine cp (m.out _) ?_;intro j hb2;have l:Below w.heap.size w j:=bd.trans (hb2.mono bd.size)))
 go_ret
 exact⟨rfl,q.out _ l⟩
def yur (b:Nat) (n:Bool) (s:ByteArray) (x:Int) (w:World) (y:Dc.right s.data.toList x=true) (z:Rdr w b) (G: -330<=(s.size:Int)+x/\(s.size:Int)+x<=310) (U:s.size≠0) (hl:s.size<=19) (d:15<s.size∨s.size<=15/\x<0∨s.size<=15/\22<x):
 Calls prog 183 #[.pointer (some ⟨b,0,none⟩),.agg #[.bool n,.string s,.int .i64 x]] w (RetR b (.int .u64 ((Fl.bits s.data.toList x:Nat):Int)) w):=by
 obtain⟨N,hs,kn,jy⟩:=ON y;have F:=Dc.yu y;have W:s.data.toList≠[]:=fun e=>U SL;have A:=fun w=>W3 n s x w aG;rw[N] at A;have D:=fun w=>yjt n s x w y U G;have hU:=fun w=>yiW s w F W hl;have E:=Dc.K6 F;rw[dN] at E;have K:Dc.nv s.data.toList<18446744073709551616:=eR E (dE (hJ bL hl) bL);have g:=fun a (h:Rdr a b)=>yp9 b (Dc.nv s.data.toList) x a aG K h;have j:=Fl.yoM (l:=s.data.toList) (x:=x) aG;refine G6 ?_;intro V;have L:=DecB.new w n s x;obtain⟨Z,O⟩:=bx (Fl.bits s.data.toList x);rw[<-O] at D j ⊢;obtain⟨m,Y⟩:=bx (Dc.nv s.data.toList);rw[<-Y] at hU g j;obtain⟨J,M⟩: ∃ q,q=(Fl.E6 m x).1 :=⟨_,rfl⟩;obtain⟨f,X⟩: ∃ q,q=(Fl.E6 m x).2 :=⟨_,rfl⟩;rw[<-M,<-X] at g j;have bQ:=z.lt;have Q: ∀ a c w',Below w.heap.size w a->Onl b a c->Rdr c b->Below c.heap.size c w'->Onl b w w'/\Rdr w' b:=fun a c w' T S h3 R=>⟨((z.onl T).trans S).own (R.mono (dE T.size S.size)) bQ,h3.on R⟩;have hz:=oj (s:=s) aG;obtain⟨P,I⟩:=bx ((s.size:Int)+x);rw[<-I] at A G;obtain⟨HP,HS,HF,HU,v,HR⟩:=ts A D Q hU g z;obtain⟨e1,e2⟩:=G;clear Q z A D hU g y N I O M X Y E K F W
 have GI: ∀ f:Bool,(f=true->J=Z)->(∀ a (h:Rdr a b),Calls prog 227 #[.pointer (some ⟨b,0,none⟩),.int .u64 m,.int .i64 x] a (RetR b (.tuple #[.int .u64 (J:Nat),.bool f]) a))->Calls prog 183 #[.pointer (some ⟨b,0,none⟩),.agg #[.bool n,.string s,.int .i64 x]] w (RetR b (.int .u64 ((Z:Nat):Int)) w):=by
  clear v j f;intro f bP g;have v:=aL g;clear g
  cases f with
  |true=>
   obtain rfl:=bP rfl
   rcases d with d|⟨d,hd⟩|⟨d,hd⟩
   all_goals(
    go_enter func183,ntmps183
    go_wp2_with (first|(go_at_call 113;refine cp (HP.out _) ?_;intro a aw;have t:Below w.heap.size w a:=V.trans (aw.mono cn);have o:=L.on aw;obtain⟨y0,y1,y2,yl⟩:=id o)|(go_at_call 224;refine cp (HU.out _) ?_;intro c hb2;have u:Below w.heap.size w c:=t.trans (hb2.mono t.size);have i:=o.on hb2;obtain⟨v0,v1,v2,vl⟩:=id i;have C:=HR.out.on u)|(go_at_call 227;refine cV (v.out _ C) ?_;rintro e w3 ⟨rfl,r,B⟩;have H:=i.onl r aG;obtain⟨u0,u1,u2,ul⟩:=id H))
    go_ret
    exact⟨rfl,HF.out _ _ _ u r B eN⟩)|false=>
   rcases d with d|⟨d,hd⟩|⟨d,hd⟩
   all_goals(
    go_enter func183,ntmps183
    go_wp2_with (first|(go_at_call 113;refine cp (HP.out _) ?_;intro a aw;have t:Below w.heap.size w a:=V.trans (aw.mono cn);have o:=L.on aw;obtain⟨y0,y1,y2,yl⟩:=id o)|(go_at_call 224;refine cp (HU.out _) ?_;intro c hb2;have u:Below w.heap.size w c:=t.trans (hb2.mono t.size);have i:=o.on hb2;obtain⟨v0,v1,v2,vl⟩:=id i;have C:=HR.out.on u)|(go_at_call 227;refine cV (v.out _ C) ?_;rintro e w3 ⟨rfl,r,B⟩;have H:=i.onl r aG;obtain⟨u0,u1,u2,ul⟩:=id H)|(go_at_call 228;refine cp (HS.out _) ?_;intro w4 cD))
    go_ret
    exact⟨rfl,HF.out _ _ _ u r B cD⟩)
 exact GI f j v.out

def ypd (X:Nat) (w:World) (a b:Value) (wr:World):Prop:= ∃ i t:Nat,i<=X/\b= .int .i64 i/\a= .int .u64 t/\Hid (t=Fl.rd (10^i) 0 false)/\Hid (Below w.heap.size w wr)
def yst (b:Nat) (n:Bool) (s:ByteArray) (X:Nat) (w:World) (f:Dc.right s.data.toList X=true) (hR:Rdr w b) (W:s.size≠0) (hl:s.size<=15) (F:X<=22):
 Calls prog 183 #[.pointer (some ⟨b,0,none⟩),.agg #[.bool n,.string s,.int .i64 X]] w (RetR b (.int .u64 ((Fl.bits s.data.toList X:Nat):Int)) w):=by
 obtain⟨U,hs,kn,jy⟩:=ON f;have j:=Dc.yu f;have q:s.data.toList≠[]:=fun e=>W SL;have g:=fun w=>W3 n s X w aG;rw[U] at g;have hU:=fun w=>yiW s w j q aG;have G:=Dc.K6 j;rw[dN] at G;have Y:=eR (fp bL) (Dc.ydr j q (Dc.yew f q));have c:Dc.nv s.data.toList<9007199254740992:=eR G (dE (hJ bL hl) bL);have d:=Fl.ywW (l:=s.data.toList) (x:=X) c F;have O:=Fl.ymA Y c;have Q:=(Fl.yaW c).2;have eI:Below w.heap.size w (w.alloc (Obj.cells #[Value.bool n,Value.string s,Value.int IntKind.i64 X] 139)):=ek;have lM:=DecB.new w n s X;obtain⟨Z,V⟩:=bx (Fl.bits s.data.toList X);rw[<-V] at d ⊢;obtain⟨m,Hm⟩:=bx (Dc.nv s.data.toList);rw[<-Hm] at hU d c O Q;have H:=fun w1=>yfV 1 w1 aG;have I:=fun w1=>yfV 10 w1 aG;have E:=fun w1=>yfV m w1 aG;have S:=fun(i:Nat) (hi:i<X) w1=>yiB (Fl.rd (10^i) 0 false) (Fl.rd 10 0 false) w1 (Fl.RH aG).2 (Fl.ydx aG) (Fl.RH (i:=1) aG).2 (Fl.ydx (i:=1) aG)
 have z: ∀ i,i<X-> ∀ w1,Calls prog 226 #[.int .u64 (Fl.rd (10^i) 0 false:Nat),.int .u64 (Fl.rd 10 0 false:Nat)] w1 (RetB (.int .u64 (Fl.rd (10^(i+1)) 0 false:Nat)) w1):=fun i hi w1=>by have h:=S i hi w1;rw[Fl.ynS aG] at h;exact h
 have o:=fun w1=>yiB (Fl.rd m 0 false) (Fl.rd (10^X) 0 false) w1 Q O (Fl.RH F).2 (Fl.ydx F);rw[d] at o;refine ycs ?_;intro hF;have hz:=oj (s:=s) aG;obtain⟨t0,B⟩: ∃ t,t=Fl.rd 1 0 false:=⟨_,rfl⟩;obtain⟨t10,GM⟩: ∃ t,t=Fl.rd 10 0 false:=⟨_,rfl⟩;obtain⟨tm,T⟩: ∃ t,t=Fl.rd m 0 false:=⟨_,rfl⟩;rw[<-B] at H;rw[<-GM] at I z;rw[<-T] at E o;obtain⟨P,R⟩:=bx ((s.size:Int)+X);have xN: -330<=P/\P<=310:=aG;rw[<-R] at g;obtain⟨p1,p2⟩:=xN;obtain⟨HP,HF,HU,Qe,JL⟩:=qF g hF hU z o;have H1:=aL (fun w1=>(show Calls prog 225 #[.int .i64 1] w1 (RetB (.int .u64 (t0:Nat)) w1) from H w1));have N:=aL (fun w1=>(show Calls prog 225 #[.int .i64 10] w1 (RetB (.int .u64 (t10:Nat)) w1) from I w1));obtain⟨LB,wD⟩:=dY E B;have wZ:(0:Int)<=(X:Int):=aG;have EJ:(X:Int)<=22:=aG;clear g hF hU S z o H I E B GM T R Hm V d O Q G Y f hR U j q kn jy W;go_enter func183,ntmps183
 go_wp2_with (first|(go_at_call 113;refine cp (HP.out _) ?_;intro w1 aw;refine NR ?_;intro bd mA y0 y1 y2 yl)|(go_at_call 224;refine cp (HU.out _) ?_;intro w2 hb2;have M:Below w.heap.size w w2:=bd.trans (hb2.mono bd.size);have v:=mA.on hb2;obtain⟨v0,v1,v2,vl⟩:=id v)|(go_at_call 225;refine Ls ?_;intro w3 L;have cL:Below w.heap.size w w3:=M.trans (L.mono M.size);have ET:=v.on L;obtain⟨u0,u1,u2,ul⟩:=id ET))
 go_loopw [8,51] (ypd X w) (fun _ iv _=>X-(intOf iv).toNat)
 case atStart=>exact⟨0,t0,iH _,rfl,rfl,wD,aL cL⟩
 case round=>
  clear bd M cL aw hb2 L mA v ET lM eI y0 y1 y2 yl v0 v1 v2 vl u0 u1 u2 ul;obtain⟨i,t,hi,rfl,rfl,HT,r⟩:=hrel;by_cases aW:i<X
  ·have hc:decide ((i:Int)<(X:Int))=true:=fv aG;have u:=Qe.out i aW;rw[<-HT.out] at u;obtain⟨t',C⟩: ∃ t,t=Fl.rd (10^(i+1)) 0 false:=⟨_,rfl⟩;rw[<-C] at u;obtain⟨ZQ,Zo⟩:=dY u C;clear u C;go_wp2_with (first|(go_at_call 225;refine cp (N.out _) ?_;intro w4 K;have a:Below w.heap.size w w4:=r.out.trans (K.mono r.out.size))|(go_at_call 226;refine cp (ZQ.out _) ?_;intro y J;have D:Below w.heap.size w y:=a.trans (J.mono a.size)))
   go_roundw
   case rel=>exact⟨i+1,t',by omega,by go_num,rfl,Zo,aL D⟩
   case measure=>simp[intOf];omega
  ·obtain rfl:i=X:=aG;have A:=JL.out;rw[<-HT.out] at A;have Qi:=aL A;clear A;go_wp2_with (first|(go_at_call 225;refine cp (LB.out _) ?_;intro w4 K;have a:Below w.heap.size w w4:=r.out.trans (K.mono r.out.size))|(go_at_call 226;refine cp (Qi.out _) ?_;intro y J;have D:Below w.heap.size w y:=a.trans (J.mono a.size)))
   go_ret
   exact⟨rfl,HF.out _ D⟩
def yrW (b:Nat) (n:Bool) (s:ByteArray) (x:Int) (w:World) (a:Dc.right s.data.toList x=true) (c:Rdr w b):
 Calls prog 183 #[.pointer (some ⟨b,0,none⟩),.agg #[.bool n,.string s,.int .i64 x]] w (RetR b (.int .u64 ((Fl.bits s.data.toList x:Nat):Int)) w):=by
 by_cases f:s.size=0∨(s.size:Int)+x < -330∨310<(s.size:Int)+x
 ·exact ywP b n s x w a c f
 ·by_cases e:19<s.size
  ·exact yvO b n s x w a c aG e
  ·by_cases d:s.size<=15/\0<=x/\x<=22
   ·obtain⟨X,rfl⟩: ∃ X:Nat,x=X:=⟨x.toNat,by omega⟩;exact yst b n s X w a c aG d.1 aG
   ·exact yur b n s x w a c aG aG aG aG

def yrI (b:Bool) (v:Nat) (w:World) (hv:v<9223372036854775808):Calls prog 182 #[.bool b,.int .u64 v] w (Ret0 (.int .u64 ((Fl.vC b+v:Nat):Int)) w):=by
 cases b with
 |false=>
  rw[show Fl.vC false=0 from rfl,iR]
  go_enter func182,ntmps182
  exact yj
 |true=>
  have a:=Fl.ylX v hv
  rw[show Fl.vC true=9223372036854775808 from rfl]
  go_enter func182,ntmps182
  exact yj
def ykP (b:Nat) (n:Bool) (s:ByteArray) (x:Int) (w:World) (u:s.size<=9223372036854775807) (hR:Rdr w b):
 Calls prog 142 #[.pointer (some ⟨b,0,none⟩),.agg #[.bool n,.string s,.int .i64 x]] w (RetR b (.tuple #[.int .u64 ((Fl.Gg n s.data.toList x).1 :Nat),.int .i64 (Fl.Gg n s.data.toList x).2]) w):=by
 refine G6 ?_;intro eI;have lM:=DecB.new w n s x;have c:=fun w=>EE n s x w u;by_cases a:Dc.right s.data.toList x=true
 ·have hv:Fl.Gg n s.data.toList x=(Fl.vC n+Fl.bits s.data.toList x,0):=by rw[Fl.Gg,bT a]
  rw[hv];have g:=fun w1 (h:Rdr w1 b)=>yrW b n s x w1 a h;have l:=Fl.yjp a;rw[a] at c;obtain⟨Z,m⟩:=bx (Fl.bits s.data.toList x);rw[<-m] at g l ⊢;have f:=fun w1=>yrI n Z w1 aG;obtain⟨Y,q⟩:=bx (Fl.vC n+Z);rw[<-q] at f ⊢;have F:=hR.lt;have hF: ∀ w1 d,Below w.heap.size w w1->Onl b w1 d->Onl b w d:=fun w1 d z y=>(hR.onl z).trans y;obtain⟨j,i,D,C,E⟩:=qF hF c g f hR;clear hF c g f hR a hv l m q;go_enter func142,ntmps142
  go_upto_region 3 with (first|(go_at_call 112;refine cp (i.out _) ?_;intro w1 aw;refine NR ?_;intro bd mA y0 y1 y2 yl))
  go_region_held3 (fun w'=>w'.cell? ⟨w.heap.size,0,none⟩=some (.bool n)/\w'.cell? ⟨w.heap.size,1,none⟩=some (.string s)/\w'.cell? ⟨w.heap.size,2,none⟩=some (.int .i64 x))
   (first|go_keep|(refine⟨?_,?_,?_⟩<;>(first|(rw[B];assumption)))|(refine⟨?_,?_,?_⟩<;>(first|(go_simp;done)|(simp[go_sem, *];done))))
   (first|(go_at_call 183;(with_reducible refine(D.out _ (E.out.on dt)).mono ?_);rintro e d ⟨rfl,r,t⟩;have A:=j.out _ _ dt r;have B:=fun o=>r.cell (k:=w.heap.size) (o:=o) aG qQ)|(go_at_call 182;refine cY (C.out _) ?_))
  all_goals(try go_wp2)
  refine eB (v:= .tuple #[.int .u64 (Y:Nat),.int .i64 0]) (by(simp[results,results142,go_sem];done)) rfl ⟨rfl,A,t⟩
 ·have hv:Fl.Gg n s.data.toList x=(0,1):=by rw[Fl.Gg,bv a]
  rw[hv];rw[Ny.2 a] at c;refine ycs ?_;intro hF;obtain⟨j,i⟩:=dY hF c;clear hF c a hv hR;go_enter func142,ntmps142
  go_wp2_with (first|(go_at_call 112;refine cp (i.out _) ?_;intro w1 aw;refine NR ?_;intro bd mA y0 y1 y2 yl))
  refine eB (v:= .tuple #[.int .u64 0,.int .i64 1]) (by(simp[results,results142,go_sem];done)) rfl ⟨rfl,j.out _ bd⟩

section
open Fx (Tr Rs Tk)
def Two.own {g h:Nat} {w b a:World} (x:Two g h w b) (hb:Below w.heap.size b a):Two g h w a:=
 ⟨dE x.size hb.size,hb.os.trans x.os,hb.tape.trans x.tape,hb.output.trans x.output,fun k e d c=>(hb.block k c).trans (x.block k e d c)⟩
def Two.onl {p b:Nat} {w w':World} (h:Onl p w w'):Two p b w w':=⟨h.size,h.below.os,h.below.tape,h.below.output,fun k c _ a=>h.block k c a⟩
def Two.onr {p b:Nat} {w w':World} (h:Onl b w w'):Two p b w w':=⟨h.size,h.below.os,h.below.tape,h.below.output,fun k _ c a=>h.block k c a⟩
mutual
def TreeS (w:World) (A:Nat->Prop):Tr->Value->Prop
 | .mk _ _ _ _ _ _ _ ks,v=> ∃ a c,v= .slice a ks.length c/\ks.length<=c/\ks.length<=9223372036854775807/\(0<ks.length-> ∃ b o,a=some ⟨b,o,none⟩/\A b/\RowS w A b ks o)
def RowS (w:World) (A:Nat->Prop) (b:Nat):List Tr->Nat->Prop
 | [],_=>True
 |k::ks,o=>(∃ v,TreeS w A k v/\NodeAt w b o k v)/\RowS w A b ks (o+14)
end
def TreeS.eq {w:World} {A:Nat->Prop} {t:Tr} {v:Value}:TreeS w A t v↔ ∃ a c,v= .slice a t.kids.length c/\t.kids.length<=c/\t.kids.length<=9223372036854775807/\(0<t.kids.length-> ∃ b o,a=some ⟨b,o,none⟩/\A b/\RowS w A b t.kids o):=by cases t;rw[TreeS];rfl
def RowS.get {w:World} {A:Nat->Prop} {b:Nat} {ks:List Tr} {o:Nat} (h:RowS w A b ks o) (k:Nat) (a:k<ks.length): ∃ v,TreeS w A ks[k] v/\NodeAt w b (o+k*14) ks[k] v:=by
 induction ks generalizing o k with
 |nil=>simp at a
 |cons t ks c=>
  rw[RowS] at h
  cases k with
  |zero=>simpa using h.1
  |succ k=>
   have:=c h.2 k (by simpa using a)
   rw[show o+14+k*14=o+(k+1)*14 by omega] at this
   simpa using this
def RowS.of {w:World} {A:Nat->Prop} {b:Nat} {ks:List Tr} {o:Nat} (h: ∀ k (a:k<ks.length),∃ v,TreeS w A ks[k] v/\NodeAt w b (o+k*14) ks[k] v):RowS w A b ks o:=by
 induction ks generalizing o with
 |nil=>rw[RowS];trivial
 |cons t ks c=>
  rw[RowS]
  refine⟨?_,c fun k a=>?_⟩
  ·have:=h 0 cn
   rw[qo,ms] at this
   exact this
  have:=h (k+1) (by simpa using a)
  rw[show o+(k+1)*14=o+14+k*14 by omega] at this
  simpa using this
def TreeS.form {w:World} {A:Nat->Prop} {t:Tr} {v:Value} (h:TreeS w A t v): ∃ a c,v= .slice a t.kids.length c:=by obtain⟨a,c,e,_⟩:=TreeS.eq.1 h;exact⟨a,c,e⟩
def TreeS.leaf {w:World} {A:Nat->Prop} {t:Tr} (h:t.kids=[]):TreeS w A t (.slice none 0 0):=by refine TreeS.eq.2 ⟨none,0,by rw[h];rfl,by rw[h];simp,by rw[h];simp,fun a=>?_⟩;rw[h] at a;simp at a
def TreeS.yoA {w w':World} {A g:Nat->Prop} (u: ∀ k,A k->g k) (r: ∀ k,A k->w'.heap[k]? =w.heap[k]?): ∀ (n:Nat) {t:Tr} {v:Value},Fx.num t<=n->TreeS w A t v->TreeS w' g t v:=by
 intro n
 induction n with
 |zero=>intro t v hn;have:=Tr.yo t;omega
 |succ n m=>
  intro t v hn h
  obtain⟨a,c,e,s,hm,q⟩:=TreeS.eq.1 h
  refine TreeS.eq.2 ⟨a,c,e,s,hm,fun y=>?_⟩
  obtain⟨b,o,z,d,x⟩:=q y
  refine⟨b,o,z,u b d,RowS.of fun k f=>?_⟩
  obtain⟨i,l,j⟩:=x.get k f
  rw[vd] at hn
  have:=yy f
  exact⟨i,m aG l,j.kept (r b d)⟩
def TreeS.kept {w w':World} {A a:Nat->Prop} {t:Tr} {v:Value} (h:TreeS w A t v) (c: ∀ k,A k->a k) (b: ∀ k,A k->w'.heap[k]? =w.heap[k]?):TreeS w' a t v:=TreeS.yoA c b _ cm h
def TreeS.at' {w:World} {A:Nat->Prop} {lo hi:Nat} (d: ∀ k,A k->lo<=k/\k<hi): ∀ (n:Nat) {t:Tr} {v:Value},Fx.num t<=n->TreeS w A t v->TreeAt w lo hi t v:=by
 intro n
 induction n with
 |zero=>intro t v hn;have:=Tr.yo t;omega
 |succ n m=>
  intro t v hn h
  obtain⟨a,c,e,r,hm,q⟩:=TreeS.eq.1 h
  refine TreeAt.eq.2 ⟨a,c,e,r,hm,fun u=>?_⟩
  obtain⟨b,o,x,f,s⟩:=q u
  refine⟨b,o,x,(d b f).1,(d b f).2,RowT.of fun k g=>?_⟩
  obtain⟨i,l,j⟩:=s.get k g
  rw[vd] at hn
  have:=yy g
  exact⟨i,m aG l,j⟩
def TreeX (w:World) (A:Nat->Prop) (X:Value) (t:Tr):Prop:= ∃ v,X=trv t v/\TreeS w A t v
def TreeX.isN {w:World} {A:Nat->Prop} {X:Value} {t:Tr} (h:TreeX w A X t): ∃ cs,IsN X cs:=by obtain⟨v,rfl,b⟩:=h;obtain⟨a,c,rfl⟩:=b.form;exact⟨_,IsN.of t a _ c⟩
def TreeX.kept {w w':World} {A a:Nat->Prop} {X:Value} {t:Tr} (h:TreeX w A X t) (d: ∀ k,A k->a k) (c: ∀ k,A k->w'.heap[k]? =w.heap[k]?):TreeX w' a X t:=by obtain⟨v,e,b⟩:=h;exact⟨v,e,b.kept d c⟩
def TreeV (w:World) (lo:Nat) (X:Value) (t:Tr):Prop:= ∃ A:Nat->Prop,TreeX w A X t/\ ∀ k,A k->lo<=k/\k<w.heap.size
def TreeV.isN {w:World} {lo:Nat} {X:Value} {t:Tr} (h:TreeV w lo X t): ∃ cs,IsN X cs:=by obtain⟨A,h,_⟩:=h;exact h.isN
def TreeV.leaf (w:World) (lo:Nat) {t:Tr} (h:t.kids=[]):TreeV w lo (trv t (.slice none 0 0)) t:=⟨fun _=>False,⟨_,rfl,TreeS.leaf h⟩,fun _ h=>h.elim⟩
def TreeV.kept {w w':World} {lo c:Nat} {X:Value} {t:Tr} (h:TreeV w lo X t) (hl:c<=lo) (d:w.heap.size<=w'.heap.size) (e: ∀ k,lo<=k->k<w.heap.size->w'.heap[k]? =w.heap[k]?):TreeV w' c X t:=by obtain⟨A,h,b⟩:=h;exact⟨A,h.kept (fun _ h=>h) (fun k a=>e k (b k a).1 (b k a).2),fun k a=>⟨dE hl (b k a).1,eR (b k a).2 d⟩⟩
def IsN.cells {t:Tr} {v:Value} {cs:List Value} (h:IsN (trv t v) cs):cs=trc t v:=by have a:=h.val;have c:trv t v= .agg (trc t v).toArray :=rfl;rw[c] at a;have b:=Yg a;exact(dZ Array.toList b).symm
def TreeX.one {w:World} {A:Nat->Prop} {X:Value} {t:Tr} {cs:List Value} (h:TreeX w A X t) (e:IsN X cs) (f: ∀ k,A k->k<w.heap.size) (K:Int) (T:ByteArray):
 TreeX (w.alloc (Obj.cells cs.toArray 27)) (fun k=>A k∨k=w.heap.size) (trv (Fx.nod K T.data.toList [t]) (.slice (some ⟨w.heap.size,0,none⟩) 1 1)) (Fx.nod K T.data.toList [t]):=by
 obtain⟨v,rfl,c⟩:=h;obtain rfl:=e.cells;refine⟨_,rfl,TreeS.eq.2 ⟨_,1,rfl,cm,by simp[Fx.nod,Fx.Tr.kids],fun _=>⟨_,0,rfl,Or.inr rfl,RowS.of fun k d=>?_⟩⟩⟩;have a:k=0:=by simp only[Fx.nod,Fx.Tr.kids,gE,rp] at d;omega
 subst a;refine⟨v,c.kept (fun k h=>Or.inl h) (fun k h=>(ek).block k (f k h)),fun j u b=>?_⟩;have:=(Mem.new w (trc t v) 27).get j b;simpa using this
def TreeX.two {w:World} {A:Nat->Prop} {X Y:Value} {t u:Tr} {cs ds:List Value} (h:TreeX w A X t) (l:TreeX w A Y u) (c:IsN X cs) (hd:IsN Y ds) (d: ∀ k,A k->k<w.heap.size) (K:Int) (T:ByteArray):
 TreeX (w.alloc (Obj.cells (cs++ds).toArray 27)) (fun k=>A k∨k=w.heap.size) (trv (Fx.nod K T.data.toList [t,u]) (.slice (some ⟨w.heap.size,0,none⟩) 2 2)) (Fx.nod K T.data.toList [t,u]):=by
 obtain⟨v,rfl,g⟩:=h;obtain⟨v2,rfl,f⟩:=l;obtain rfl:=c.cells;obtain rfl:=hd.cells;have hm:=Mem.new w (trc t v++trc u v2) 27;have m:(trc t v).length =14:=c.len;refine⟨_,rfl,TreeS.eq.2 ⟨_,2,rfl,cm,by simp[Fx.nod,Fx.Tr.kids],fun _=>⟨_,0,rfl,Or.inr rfl,RowS.of fun k i=>?_⟩⟩⟩;have e:k=0∨k=1:=by simp only[Fx.nod,Fx.Tr.kids,gE,rp] at i;omega
 rcases e with rfl|rfl
 ·refine⟨v,g.kept (fun k h=>Or.inl h) (fun k h=>(ek).block k (d k h)),fun j b a=>?_⟩;have hj:j<(trc t v).length :=(o6.1 a).1;have:=hm.get j (v:=b) (by rw[zf hj];exact a);simpa using this
 ·refine⟨v2,f.kept (fun k h=>Or.inl h) (fun k h=>(ek).block k (d k h)),fun j b a=>?_⟩;have:=hm.get (14+j) (v:=b) (by rw[WC aG,m,TV];exact a);simpa using this
structure FoR (w:World) (g b:Nat) (D L:UInt8):Prop where
 dec:w.cell? ⟨g,1,none⟩=some (.string ⟨#[D]⟩)
 lst:w.cell? ⟨g,3,none⟩=some (.string ⟨#[L]⟩)
 rdc:w.cell? ⟨g,10,none⟩=some (.pointer (some ⟨b,0,none⟩))
 rd:Rdr w b
 gl:g<w.heap.size
 ne:g≠b
 ev:EvR w
 evb:6≠b
def EvR.lt {w:World} (h:EvR w):6<w.heap.size:=by obtain⟨_,_,_,h⟩:=h;exact h
def EvR.of {w w':World} (h:EvR w) (b:w.heap.size<=w'.heap.size) (c:w'.heap[6]? =w.heap[6]?):EvR w':=by obtain⟨ev,f,e,d⟩:=h;exact⟨ev,(sf (a:=⟨6,0,none⟩) c).trans f,e,eR d b⟩
def FoR.below {w w':World} {g b:Nat} {D L:UInt8} {C:Nat} (h:FoR w g b D L) (hb:Below C w w') (a:g<C) (d:b<C) (c:6<C):FoR w' g b D L:=
 ⟨(hb.cell (p:=⟨g,1,none⟩) a).trans h.dec,(hb.cell (p:=⟨g,3,none⟩) a).trans h.lst,(hb.cell (p:=⟨g,10,none⟩) a).trans h.rdc,h.rd.below hb d,eR h.gl hb.size,h.ne,h.ev.of hb.size (hb.block _ c),h.evb⟩
def FoR.on {w w':World} {g b:Nat} {D L:UInt8} (h:FoR w g b D L) (hb:Below w.heap.size w w'):FoR w' g b D L:=h.below hb h.gl h.rd.lt h.ev.lt
def FoR.turn {w w':World} {g b:Nat} {D L:UInt8} (h:FoR w g b D L) (a:Onl b w w') (c:Rdr w' b):FoR w' g b D L:=
 ⟨(a.cell h.ne h.gl).trans h.dec,(a.cell h.ne h.gl).trans h.lst,(a.cell h.ne h.gl).trans h.rdc,c,eR h.gl a.size,h.ne,h.ev.of a.size (a.block _ h.evb h.ev.lt),h.evb⟩
structure Ps (w:World) (p g b:Nat) (D L:UInt8) (S:ByteArray) (l:List UInt8) (op:Nat):Prop where
 mem:Mem w p [.pointer (some ⟨g,0,none⟩),.string S,.int .i64 (S.size-l.length:Nat),.int .i64 op,.int .i64 0,.int .i64 0] 73
 fo:FoR w g b D L
 gp:g<p
 bp:b<p
 ep:6<p
 suf:l <:+S.data.toList
 hz:S.size<=1000
 opl:op<=100
def Ps.len {w:World} {p g b:Nat} {D L:UInt8} {S:ByteArray} {l:List UInt8} {op:Nat} (h:Ps w p g b D L S l op):l.length<=S.size:=by have:=h.suf.length_le;rwa[dN] at this
def Ps.below {w w':World} {p g b:Nat} {D L:UInt8} {S:ByteArray} {l:List UInt8} {op C:Nat} (h:Ps w p g b D L S l op) (hb:Below C w w') (a:p<C):Ps w' p g b D L S l op:=
 ⟨h.mem.below hb a,h.fo.below hb (xH h.gp a) (xH h.bp a) (xH h.ep a),h.gp,h.bp,h.ep,h.suf,h.hz,h.opl⟩
def Ps.on {w w':World} {p g b:Nat} {D L:UInt8} {S:ByteArray} {l:List UInt8} {op:Nat} (h:Ps w p g b D L S l op) (hb:Below w.heap.size w w'):Ps w' p g b D L S l op:=h.below hb h.mem.lt
structure Pe (w:World) (p g b:Nat) (D L:UInt8) (S:ByteArray) (x:Int) (q:List UInt8):Prop where
 mem: ∃ i o:Int,Mem w p [.pointer (some ⟨g,0,none⟩),.string S,.int .i64 i,.int .i64 o,.int .i64 x,.int .i64 (S.size-q.length:Nat)] 73
 fo:FoR w g b D L
 gp:g<p
 bp:b<p
 ep:6<p
def Pe.below {w w':World} {p g b:Nat} {D L:UInt8} {S:ByteArray} {x:Int} {q:List UInt8} {C:Nat} (h:Pe w p g b D L S x q) (hb:Below C w w') (a:p<C):Pe w' p g b D L S x q:=by obtain⟨⟨i,o,m⟩,f,e,d,c⟩:=h;exact⟨⟨i,o,m.below hb a⟩,f.below hb (xH e a) (xH d a) (xH c a),e,d,c⟩
def Pe.lt {w:World} {p g b:Nat} {D L:UInt8} {S:ByteArray} {x:Int} {q:List UInt8} (h:Pe w p g b D L S x q):p<w.heap.size:=by obtain⟨⟨_,_,m⟩,_⟩:=h;exact m.lt
def Pe.on {w w':World} {p g b:Nat} {D L:UInt8} {S:ByteArray} {x:Int} {q:List UInt8} (h:Pe w p g b D L S x q) (hb:Below w.heap.size w w'):Pe w' p g b D L S x q:=h.below hb h.lt
def Left (w:World) (p g b:Nat) (D L:UInt8) (S:ByteArray) (op:Nat) (r:Rs) (t:Tr):Prop:=match r with | .ok t' l=>t=t'/\Ps w p g b D L S l op | .er x q=>Pe w p g b D L S x q
def Fx.Rs.fine:Rs->Bool | .ok _ _=>true | .er _ _=>false
def RetP (p g b:Nat) (D L:UInt8) (S:ByteArray) (op:Nat) (r:Rs) (w:World) (e:Ending) (w':World):Prop:=
 ∃ (X:Value) (t:Tr),e= .returned (.tuple #[X,.bool r.fine])/\TreeV w' w.heap.size X t/\Two p b w w'/\Left w' p g b D L S op r t
def Lu {w:World} {p g b:Nat} {D L:UInt8} {S:ByteArray} {l:List UInt8} {op:Nat} (h:Ps w p g b D L S l op):
 Calls prog 41 #[.pointer (some ⟨p,0,none⟩)] w (RetB (tokV S (Fx.tok D L l)) w):=by
 have hl:=h.len
 have hd:S.data.toList.drop (S.size-l.length)=l:=by have:=Fx.yhM h.suf;rwa[dN] at this
 have a:Tp w p g D L S (S.size-l.length):=
  ⟨⟨h.mem.get 0 rfl,h.fo.dec,h.fo.lst,h.mem.lt,h.fo.gl⟩,h.fo.ev,h.mem.get 1 rfl,h.mem.get 2 rfl,Nat.sub_le _ _⟩
 have:=yq3 p g D L S (S.size-l.length) w a (by have:=h.hz;omega);rw[hd] at this;exact this
end

section
open Fx (Tr Rs Tk)
def ybq (p:Nat) (c0 c1 c2 c3 c4 c5:Value) (x a:Int) (w:World) (h:Mem w p [c0,c1,c2,c3,c4,c5] 73):
 Calls prog 67 #[.pointer (some ⟨p,0,none⟩),.int .i64 x,.int .i64 a] w (fun e w'=>e= .returned (.bool false)/\Onl p w w'/\Mem w' p [c0,c1,c2,c3,.int .i64 x,.int .i64 a] 73):=by
 have f:=h.get 4 rfl;have d:=h.get 5 rfl;have i:=h.frozen 4;have g:=h.frozen 5;have pl:=h.lt;have c:=aL (show Mem ((w.setCell ⟨p,4,none⟩ (.int .i64 x)).setCell ⟨p,5,none⟩ (.int .i64 a)) p [c0,c1,c2,c3,.int .i64 x,.int .i64 a] 73 from(h.set 4 _).set 5 _);have b:=aL (show Onl p w ((w.setCell ⟨p,4,none⟩ (.int .i64 x)).setCell ⟨p,5,none⟩ (.int .i64 a)) from((Onl.refl p w).setCell 4 _).setCell 5 _);clear h;go_enter func67,ntmps67
 go_wp2
 go_ret
 exact⟨rfl,b.out,c.out⟩
def yeV (a e d c b:Value) (w:World):(Instr.field 77 (.agg #[a,e,d,c,b]) 0).run prog w= .ok a w:=cI
def ydj (e a d c b:Value) (w:World):(Instr.field 77 (.agg #[e,a,d,c,b]) 1).run prog w= .ok a w:=cI
attribute [local go_sem] yeV ydj
def Pe.ybO {w w':World} {p g b:Nat} {D L:UInt8} {S:ByteArray} {i o x:Int} {q:List UInt8} (c:FoR w g b D L) (gp:g<p) (bp:b<p) (ep:6<p) (a:Onl p w w')
 (hm:Mem w' p [.pointer (some ⟨g,0,none⟩),.string S,.int .i64 i,.int .i64 o,.int .i64 x,.int .i64 (S.size-q.length:Nat)] 73):Pe w' p g b D L S x q:=
 ⟨⟨i,o,hm⟩,c.below a.below gp bp ep,gp,bp,ep⟩
def Yq {w:World} {p g b:Nat} {D L:UInt8} {S:ByteArray} {l:List UInt8} {op:Nat} (h:Ps w p g b D L S l op):
 Calls prog 42 #[.pointer (some ⟨p,0,none⟩)] w (fun e w'=>e= .returned (.bool false)/\Onl p w w'/\Pe w' p g b D L S 13 (Fx.tok D L l).at'):=by
 have d:=Lu h;unfold tokV tkv at d;refine ylo ?_;intro K hK A hA N hN T hT X hX;rw[<-hK,<-hA,<-hN,<-hT,<-hX] at d
 have o: ∀ a c:World,Below w.heap.size w a->Onl p a c->Mem c p [.pointer (some ⟨g,0,none⟩),.string S,.int .i64 (S.size-l.length:Nat),.int .i64 op,.int .i64 13,.int .i64 A] 73->Onl p w c/\Pe c p g b D L S 13 (Fx.tok D L l).at' :=fun a c m j i=>by rw[hA] at i;exact⟨(Onl.of h.mem.lt m).trans j,Pe.ybO (h.fo.on m) h.gp h.bp h.ep j i⟩
 have hm:=fun a (hb:Below w.heap.size w a)=>ybq p _ _ _ _ _ _ 13 A a (h.mem.on hb);obtain⟨r,t,s⟩:=iJ d o hm;clear d o hm hK hA hN hT hX h;go_enter func42,ntmps42
 go_wp2_with (first|(go_at_call 41;refine cp r.out ?_;intro a u)|(go_at_call 67;(with_reducible refine(s.out _ dt).mono ?_);rintro e c ⟨rfl,n,f⟩;have q:=aL (t.out _ _ dt n f);clear f n))
 go_ret
 exact⟨rfl,q.out⟩
def yeQ {w:World} {p g b:Nat} {D L:UInt8} {S:ByteArray} {l:List UInt8} (h:Ps w p g b D L S l 100) (K N X A:Int) (T:ByteArray) (q:List UInt8) (f:A=(S.size-q.length:Nat)):
 Calls prog 90 #[.pointer (some ⟨p,0,none⟩),.agg #[.int .i64 K,.int .i64 A,.int .i64 N,.string T,.int .i64 X]] w (fun e w'=>e= .returned (.bool false)/\Onl p w w'/\Pe w' p g b D L S 7 q):=by
 have o: ∀ c a:World,Below w.heap.size w c->Onl p c a->Mem a p [.pointer (some ⟨g,0,none⟩),.string S,.int .i64 (S.size-l.length:Nat),.int .i64 (100:Nat),.int .i64 7,.int .i64 A] 73->Onl p w a/\Pe a p g b D L S 7 q:=fun c a m j i=>by rw[f] at i;exact⟨(Onl.of h.mem.lt m).trans j,Pe.ybO (h.fo.on m) h.gp h.bp h.ep j i⟩
 have hm:=fun c (hb:Below w.heap.size w c)=>ybq p _ _ _ _ _ _ 7 A c (h.mem.on hb);have u:w.cell? ⟨p,3,none⟩=some (.int .i64 100):=h.mem.get 3 rfl;have pl:=h.mem.lt;refine Xh ?_;intro n1 n2;obtain⟨t,s⟩:=dY o hm;clear o hm h f;go_enter func90,ntmps90
 go_wp2_with (first|(go_at_call 67;(with_reducible refine(s.out _ dt).mono ?_);rintro e a ⟨rfl,n,d⟩;have r:=aL (t.out _ _ dt n d);clear d n))
 go_ret
 exact⟨rfl,r.out⟩
def ydG {w:World} {p g b:Nat} {D L:UInt8} {S:ByteArray} {l a:List UInt8} {op:Nat} (h:Ps w p g b D L S l op) (c:op<100) (K N X A:Int) (T:ByteArray) (j:a <:+S.data.toList) (f:N=(S.size-a.length:Nat)):
 Calls prog 90 #[.pointer (some ⟨p,0,none⟩),.agg #[.int .i64 K,.int .i64 A,.int .i64 N,.string T,.int .i64 X]] w (fun e w'=>e= .returned (.bool true)/\Onl p w w'/\Ps w' p g b D L S a (op+1)):=by
 have m: ∀ o:Obj,Onl p w (((w.setCell ⟨p,3,none⟩ (.int .i64 ((op:Int)+1))).setCell ⟨p,2,none⟩ (.int .i64 N)).alloc o)/\Ps (((w.setCell ⟨p,3,none⟩ (.int .i64 ((op:Int)+1))).setCell ⟨p,2,none⟩ (.int .i64 N)).alloc o) p g b D L S a (op+1):=fun o=>by
  have d:Onl p w ((w.setCell ⟨p,3,none⟩ (.int .i64 ((op:Int)+1))).setCell ⟨p,2,none⟩ (.int .i64 N)):=((Onl.refl p w).setCell 3 _).setCell 2 _;have i:Below ((w.setCell ⟨p,3,none⟩ (.int .i64 ((op:Int)+1))).setCell ⟨p,2,none⟩ (.int .i64 N)).heap.size ((w.setCell ⟨p,3,none⟩ (.int .i64 ((op:Int)+1))).setCell ⟨p,2,none⟩ (.int .i64 N)) (((w.setCell ⟨p,3,none⟩ (.int .i64 ((op:Int)+1))).setCell ⟨p,2,none⟩ (.int .i64 N)).alloc o):=eN.alloc cm o
  have n:Ps ((w.setCell ⟨p,3,none⟩ (.int .i64 ((op:Int)+1))).setCell ⟨p,2,none⟩ (.int .i64 N)) p g b D L S a (op+1):=by refine⟨?_,h.fo.below d.below h.gp h.bp h.ep,h.gp,h.bp,h.ep,j,h.hz,c⟩;have:=(h.mem.set 3 (.int .i64 ((op:Int)+1))).set 2 (.int .i64 N);rw[f] at this ⊢;exact this
  exact⟨d.own (i.mono cn) h.mem.lt,n.on i⟩
 have r:w.cell? ⟨p,3,none⟩=some (.int .i64 op):=h.mem.get 3 rfl;have s:=h.mem.get 2 rfl;have x:=h.mem.frozen 2;have v:=h.mem.frozen 3;have pl:=h.mem.lt;have u:((op:Int)==100)=false:=by rw[gN];omega
 have t:(op:Int)<100:=aG;refine Xh ?_;intro n1 n2;have q:=aL m;clear m h f j c;go_enter func90,ntmps90
 go_wp2_with fail
 go_ret
 exact⟨rfl,q.out _⟩
def ydq {w:World} {p g b:Nat} {D L:UInt8} {S:ByteArray} {l a:List UInt8} {op:Nat} (h:Ps w p g b D L S l op) (K N X A:Int) (T:ByteArray) (i:a <:+S.data.toList) (n:N=(S.size-a.length:Nat)):
 Calls prog 160 #[.pointer (some ⟨p,0,none⟩),.agg #[.int .i64 K,.int .i64 A,.int .i64 N,.string T,.int .i64 X]] w (RetB (.bool (Lib.hasPrefix a [40])) w):=by
 have q:a.length<=S.size:=by have:=i.length_le;rwa[dN] at this
 have hd:S.data.toList.drop (S.size-a.length)=a:=by have:=Fx.yhM i;rwa[dN] at this
 obtain⟨c,f⟩:=bx (S.extract (S.size-a.length) S.size:ByteArray);have o:c.data.toList=a:=by rw[f,vL,hd]
 have x: ∀ w:World,(Instr.slice 9 (.string S) (some (.int .i64 N)) none none).run prog w= .ok (.string c) w:=fun w=>by rw[n,zi w _ S .i64 _ underlying9,bT aG,f];congr 3
 have m:=fun w=>strings_HasPrefix c ⟨#[40]⟩ w;have d: ∀ w:World,Calls prog 66 #[.string c,.string ⟨#[40]⟩] w (Ret0 (.bool (Lib.hasPrefix a [40])) w):=fun w=>(m w).mono fun e w' ⟨t,s⟩=>⟨by rw[t,o],s.symm⟩;obtain⟨r,j⟩:=bx (Lib.hasPrefix a [40]);rw[<-j] at d ⊢;have v:=h.mem.get 1 rfl;have pl:=h.mem.lt;refine Xh ?_;intro n1 n2;have u:=aL d;clear d m j o f hd q h n i;go_enter func160,ntmps160
 go_wp2_with fail
 go_quiet ((go_at_call 66;exact yon (u.out _)))
 go_wp2
 go_ret
 exact qO
def ynx {f:Func} {n m:Nat} (i:f.results= #[ResultVar.cell n 77,ResultVar.tmp m]) {tmps:Array Value} {B:Nat} {X:World} {b:Value} (h:tmps.getD n undef= .pointer (some ⟨B,0,none⟩)) (hb:tmps.getD m undef=b) {c0 c1 c2 c3 c4:Value} (D:Cs X B [c0,c1,c2,c3,c4]):
 (results f tmps).run prog X= .ok (.tuple #[.agg #[c0,c1,c2,c3,c4],b]) X:=by
 have g:=D.get 0 rfl;have e:=D.get 1 rfl;have d:=D.get 2 rfl;have c:=D.get 3 rfl;have a:=D.get 4 rfl;refine ycM ?_;intro h' jm;simp[results,i,h',jm,go_sem,g,e,d,c,a]
def yk3 {f:Func} {n m:Nat} {Q:Ending->World->Prop} (i:f.results= #[ResultVar.cell n 77,ResultVar.tmp m]) {tmps:Array Value} {W:World} {B:Nat} {b c0 c1 c2 c3 c4 g e d c a:Value} (h:tmps.getD n undef= .pointer (some ⟨B,0,none⟩)) (hb:tmps.getD m undef=b) (D:Cs W B [g,e,d,c,a])
 (j:Q (.returned (.tuple #[.agg #[c0,c1,c2,c3,c4],b])) (((((W.setCell ⟨B,0,none⟩ c0).setCell ⟨B,1,none⟩ c1).setCell ⟨B,2,none⟩ c2).setCell ⟨B,3,none⟩ c3).setCell ⟨B,4,none⟩ c4)):
 bodyPost prog f Q Exit.ret {tmps:=tmps,defers:=[]} (((((W.setCell ⟨B,0,none⟩ c0).setCell ⟨B,1,none⟩ c1).setCell ⟨B,2,none⟩ c2).setCell ⟨B,3,none⟩ c3).setCell ⟨B,4,none⟩ c4):=
 eB (ynx i h hb (Cs.stored [c0,c1,c2,c3,c4] D rfl)) rfl j
def ymi {C B:Nat} {w W:World} (h:Below C w W) (a:C<=B) {c0 c1 c2 c3 c4:Value}:Below C w (((((W.setCell ⟨B,0,none⟩ c0).setCell ⟨B,1,none⟩ c1).setCell ⟨B,2,none⟩ c2).setCell ⟨B,3,none⟩ c3).setCell ⟨B,4,none⟩ c4):=
 ((((h.setCell (p:=⟨B,0,none⟩) a _).setCell (p:=⟨B,1,none⟩) a _).setCell (p:=⟨B,2,none⟩) a _).setCell (p:=⟨B,3,none⟩) a _).setCell (p:=⟨B,4,none⟩) a _
def Am (p g b:Nat) (D L:UInt8) (S:ByteArray) (l:List UInt8) (op:Nat) (is:Bool) (w:World) (e:Ending) (w':World):Prop:=
 e= .returned (.tuple #[tokV S (Fx.tok D L l),.bool is])/\Onl p w w'/\Ps w' p g b D L S (if is then(Fx.tok D L l).end' else l) op
def Hw (D L:UInt8) (l:List UInt8) (a:List ByteArray):Bool:=decide ((Fx.tok D L l).kind =5)&&Lib.containsS a ⟨(Fx.tok D L l).text.toArray⟩
def K4 {w:World} {p g b:Nat} {D L:UInt8} {S:ByteArray} {l:List UInt8} {op:Nat} (h:Ps w p g b D L S l op) (a:Nat) (i:List ByteArray) (n:Nat) (hn:n=i.length) (Ko:n<=1000) (Q: ∀ j,j<i.length->w.cell? ⟨a,j,none⟩=some (.string (i.getD j ByteArray.empty))) (Xq:a<w.heap.size):
 Calls prog 92 #[.pointer (some ⟨p,0,none⟩),.slice (some ⟨a,0,none⟩) n n] w (Am p g b D L S l op (Hw D L l i) w):=by
 have v:=fun w1 (hb:Below w.heap.size w w1)=>Lu (h.on hb);obtain⟨V,hV⟩:=bx (tokV S (Fx.tok D L l));have aX:=(@rfl _ (Fx.tok D L l));refine ylo ?_;intro K hK A hA N hN T hT X hX;have y:V= .agg #[.int .i64 K,.int .i64 A,.int .i64 N,.string T,.int .i64 X]:=by rw[hV,hK,hA,hN,hT,hX];rfl
 rw[<-hV,y] at v;have P:=fun w1 (hb:Below w.heap.size w w1)=>slices_Contains_string a 0 n n i T w1 aG aG (fun j hj=>by rw[iR];exact(hb.cell (p:=⟨a,j,none⟩) Xq).trans (Q j hj));have x: ∀ w1:World,Below w.heap.size w w1->Calls prog 122 #[.slice (some ⟨a,0,none⟩) n n,.string T] w1 (Ret0 (.bool (Lib.containsS i T)) w1):=fun w1 hb=>(P w1 hb).mono fun e w' ⟨e1,e2⟩=>⟨by rw[e1,hn,zD],e2.symm⟩;obtain⟨is,u⟩:=bx (Hw D L l i)
 have s:is=(decide (K=5)&&Lib.containsS i T):=by rw[u,Hw,<-hT,hK];congr 1;rw[sd];omega
 obtain⟨co,SA⟩:=bx (Lib.containsS i T);rw[<-SA] at x s;have cA:=Fx.SH D L l
 have R: ∀ w':World,Onl p w w'->Ps w' p g b D L S (if is then(Fx.tok D L l).end' else l) op->Am p g b D L S l op is w (.returned (.tuple #[.agg #[.int .i64 K,.int .i64 A,.int .i64 N,.string T,.int .i64 X],.bool is])) w':=fun w' h1 h2=>by refine⟨?_,h1,h2⟩;rw[<-hV,y]
 rw[<-u];have pl:=h.mem.lt
 have E: ∀ w',Below w.heap.size w w'->is=false->Onl p w w'/\Ps w' p g b D L S (if is then(Fx.tok D L l).end' else l) op:=fun w' hb e=>by rw[e];exact⟨Onl.of pl hb,h.on hb⟩
 have O: ∀ w1 w',Below w.heap.size w w1->Below w.heap.size (w1.setCell ⟨p,2,none⟩ (.int .i64 N)) w'->is=true->K=5->Onl p w w'/\Ps w' p g b D L S (if is then(Fx.tok D L l).end' else l) op:=fun w1 w' hb hb2 e e5=>by
  refine yhK ?_;intro uo hO ew;rw[e];refine⟨ew.own hb2 pl,?_⟩
  have hP:Ps (w1.setCell ⟨p,2,none⟩ (.int .i64 N)) p g b D L S (Fx.tok D L l).end' op:=by refine⟨?_,uo.fo.below hO.below h.gp h.bp h.ep,h.gp,h.bp,h.ep,cA.trans h.suf,h.hz,h.opl⟩;have:=uo.mem.set 2 (.int .i64 N);rw[hN,bv aG] at this ⊢;exact this
  exact hP.below hb2 pl
 have m2:=h.mem.get 2 rfl;have f2:=h.mem.frozen 2;obtain⟨z,HC,HF,HS,HG⟩:=qF v x R E O;clear v x P R hV y aX hA hT hX u SA Q E O hN hK cA h hn;have b0:Below w.heap.size w (w.alloc (Obj.cells #[.int .i64 0,.int .i64 0,.int .i64 0,.string ⟨#[]⟩,.int .i64 0] 77)):=ek;have c0:=CF.new w [.int .i64 0,.int .i64 0,.int .i64 0,.string ⟨#[]⟩,.int .i64 0] 77;refine Xh ?_;intro n1 n2;obtain⟨C,B⟩:=dY b0 c0;clear b0 c0;by_cases q:K=5
 ·have k1:(K != 5)=false:=by rw[q];rfl
  rw[fv q,gA] at s;subst s;have H5:=aL q;clear q
  cases is with
  |true=>
   go_enter func92,ntmps92
   go_upto_region 2 with (first|(go_at_call 41;(with_reducible refine(z.out _ dt).mono ?_);rintro e w1 ⟨rfl,d⟩;have o:Below w.heap.size w w1:=C.out.trans (d.mono cn);have f:=aL (B.out.on d);have t:=f.out.1.1;clear d))
   obtain⟨Z,hZ⟩:=bx (w1.alloc (Obj.cells #[.int .i64 K,.int .i64 A,.int .i64 N,.string T,.int .i64 X] 77))
   have c:Below w1.heap.size w1 Z:=ybW
   have cZ:CF Z w1.heap.size [.int .i64 K,.int .i64 A,.int .i64 N,.string T,.int .i64 X]:=ya5
   rw[<-hZ]
   have BZ:=aL (o.trans (c.mono aG))
   have CB:=aL (f.out.on c)
   have z0:=cZ.1.get 0 rfl;have z1:=cZ.1.get 1 rfl;have z2:=cZ.1.get 2 rfl;have z3:=cZ.1.get 3 rfl;have z4:=cZ.1.get 4 rfl
   have r:=cZ.1.1
   obtain⟨H,m⟩:=bx (w1.heap.size)
   rw[<-m] at z0 z1 z2 z3 z4 r t ⊢
   have M: ¬ H=p:=aG
   have J: ¬ p=H:=aG
   have I: ¬ H=w.heap.size:=aG
   have G: ¬ w.heap.size=H:=aG
   have p2:Z.cell? ⟨p,2,none⟩=_:=(BZ.out.cell (p:=⟨p,2,none⟩) pl).trans m2
   have pf:Z.frozen? ⟨p,2,none⟩=false:=(BZ.out.frozen (p:=⟨p,2,none⟩) pl).trans f2
   have pz:p<Z.heap.size:=aG
   have bz:w.heap.size<Z.heap.size:=aG
   have x0:=CB.out.1.get 0 rfl;have x1:=CB.out.1.get 1 rfl;have x2:=CB.out.1.get 2 rfl;have x3:=CB.out.1.get 3 rfl;have F:=CB.out.1.get 4 rfl
   have g0:=CB.out.2 0;have g1:=CB.out.2 1;have Y:=CB.out.2 2;have W:=CB.out.2 3;have U:=CB.out.2 4
   clear hZ m c cZ o f
   go_wp2_with (first|(go_at_call 122;refine cY (HC.out _ BZ.out) ?_))
   refine yk3 results92 es es (CB.out.1.off n2 2 _) ?_
   refine(fun hb=>HF.out _ (HG.out Z _ BZ.out hb (by first|rfl|trivial) H5.out).1 (HG.out Z _ BZ.out hb (by first|rfl|trivial) H5.out).2) ?_
   exact ymi eN cm
  |false=>
   go_enter func92,ntmps92
   go_upto_region 2 with (first|(go_at_call 41;(with_reducible refine(z.out _ dt).mono ?_);rintro e w1 ⟨rfl,d⟩;have o:Below w.heap.size w w1:=C.out.trans (d.mono cn);have f:=aL (B.out.on d);have t:=f.out.1.1;clear d))
   obtain⟨Z,hZ⟩:=bx (w1.alloc (Obj.cells #[.int .i64 K,.int .i64 A,.int .i64 N,.string T,.int .i64 X] 77))
   have c:Below w1.heap.size w1 Z:=ybW
   have cZ:CF Z w1.heap.size [.int .i64 K,.int .i64 A,.int .i64 N,.string T,.int .i64 X]:=ya5
   rw[<-hZ]
   have BZ:=aL (o.trans (c.mono aG))
   have CB:=aL (f.out.on c)
   have z0:=cZ.1.get 0 rfl;have z1:=cZ.1.get 1 rfl;have z2:=cZ.1.get 2 rfl;have z3:=cZ.1.get 3 rfl;have z4:=cZ.1.get 4 rfl
   have r:=cZ.1.1
   obtain⟨H,m⟩:=bx (w1.heap.size)
   rw[<-m] at z0 z1 z2 z3 z4 r t ⊢
   have M: ¬ H=p:=aG
   have J: ¬ p=H:=aG
   have I: ¬ H=w.heap.size:=aG
   have G: ¬ w.heap.size=H:=aG
   have p2:Z.cell? ⟨p,2,none⟩=_:=(BZ.out.cell (p:=⟨p,2,none⟩) pl).trans m2
   have pf:Z.frozen? ⟨p,2,none⟩=false:=(BZ.out.frozen (p:=⟨p,2,none⟩) pl).trans f2
   have pz:p<Z.heap.size:=aG
   have bz:w.heap.size<Z.heap.size:=aG
   have x0:=CB.out.1.get 0 rfl;have x1:=CB.out.1.get 1 rfl;have x2:=CB.out.1.get 2 rfl;have x3:=CB.out.1.get 3 rfl;have F:=CB.out.1.get 4 rfl
   have g0:=CB.out.2 0;have g1:=CB.out.2 1;have Y:=CB.out.2 2;have W:=CB.out.2 3;have U:=CB.out.2 4
   clear hZ m c cZ o f
   go_wp2_with (first|(go_at_call 122;refine cY (HC.out _ BZ.out) ?_))
   exact yln
 ·have k1:(K != 5)=true:=by rw[rZ];exact q
  rw[eL q,KH] at s;subst s;clear q;go_enter func92,ntmps92
  go_upto_region 2 with (first|(go_at_call 41;(with_reducible refine(z.out _ dt).mono ?_);rintro e w1 ⟨rfl,d⟩;have o:Below w.heap.size w w1:=C.out.trans (d.mono cn);have f:=aL (B.out.on d);have t:=f.out.1.1;clear d))
  obtain⟨Z,hZ⟩:=bx (w1.alloc (Obj.cells #[.int .i64 K,.int .i64 A,.int .i64 N,.string T,.int .i64 X] 77));have c:Below w1.heap.size w1 Z:=ybW;have cZ:CF Z w1.heap.size [.int .i64 K,.int .i64 A,.int .i64 N,.string T,.int .i64 X]:=ya5;rw[<-hZ];have BZ:=aL (o.trans (c.mono aG));have CB:=aL (f.out.on c);refine W9 ?_;intro z0 z1 z2 z3;have z4:=cZ.1.get 4 rfl;have r:=cZ.1.1;obtain⟨H,m⟩:=bx (w1.heap.size);rw[<-m] at z0 z1 z2 z3 z4 r t ⊢;have M: ¬ H=p:=aG;have J: ¬ p=H:=aG;have I: ¬ H=w.heap.size:=aG;have G: ¬ w.heap.size=H:=aG;refine ymg ?_;intro p2 pf pz;have bz:w.heap.size<Z.heap.size:=aG;have x0:=CB.out.1.get 0 rfl;have x1:=CB.out.1.get 1 rfl;have x2:=CB.out.1.get 2 rfl;have x3:=CB.out.1.get 3 rfl;have F:=CB.out.1.get 4 rfl;have g0:=CB.out.2 0;have g1:=CB.out.2 1;have Y:=CB.out.2 2;have W:=CB.out.2 3;have U:=CB.out.2 4;clear hZ m c cZ o f;go_wp2_with fail
  exact yln
end

structure ByB (w:World) (g:Nat) (l:List UInt8):Prop where
 lt:g<w.heap.size
 at': ∀ j (h:j<l.length),w.cell? ⟨g,j,none⟩=some (.int .u8 l[j].toNat)
 free: ∀ j,j<l.length->w.frozen? ⟨g,j,none⟩=false
def ByB.set {w:World} {g:Nat} {l:List UInt8} (h:ByB w g l) (k:Nat) (c:UInt8) (a:k<l.length):ByB (w.setCell ⟨g,k,none⟩ (.int .u8 c.toNat)) g (l.set k c):=
 ⟨by rw[rX];exact h.lt,fun j hj=>by
  rw[yx] at hj;by_cases e:k=j
  ·subst e;rw[yE _ _ _ (h.at' k a)];simp
  ·rw[tt _ _ _ _ (fun b=>e (dZ Addr.off b)),h.at' j hj,List.getElem_set_ne e],fun j hj=>by
  rw[yx] at hj
  rw[qj];exact h.free j hj⟩
def LO (l:List UInt8):(Ce.eY l).length =l.length:=by simp[Ce.eY]
def s7 (l:List UInt8) (k:Nat):List UInt8:=Ce.eY (l.take k)++l.drop k
def yiE (l:List UInt8) (k:Nat):(s7 l k).length =l.length:=by unfold s7;rw[j2,LO,<-List.length_append,ze]
def ykr (l:List UInt8) (k:Nat) (a:k<l.length):(s7 l k)[k]'(by rw[yiE];exact a)=l[k]:=by unfold s7;rw[yk1 (by rw[LO,nn];omega)];simp only[LO,nn,Nk];congr 1;omega
def yvp (l:List UInt8) (k:Nat) (a:k<l.length):s7 l (k+1)=(s7 l k).set k (capB l[k]):=by
 have d:l.take (k+1)=l.take k++[l[k]]:=yh a;have c:l.drop k=l[k]::l.drop (k+1):=xE a;have b:Ce.eY (l.take k++[l[k]])=Ce.eY (l.take k)++[capB l[k]]:=by unfold Ce.eY;rw[List.map_append];rfl
 unfold s7;rw[d,b,c,ykD _ _ (by rw[LO,nn];omega)];simp only[LO,nn];rw[show k-min k l.length=0 by omega,List.set_cons_zero,tr];rfl
def yef (s:ByteArray) (w:World) (O:s.size<=1000000):Calls prog 159 #[.string s] w (RetB (.string ⟨(Ce.eY s.data.toList).toArray⟩) w):=by
 obtain⟨R,r⟩:=bx (⟨(Ce.eY s.data.toList).toArray⟩:ByteArray);rw[<-r];have v:=run_bytes_of_string (P:=prog) w _ 127 5 s underlying9 underlying127 underlying5;obtain⟨cap,y⟩:=bx (grownCap w s.size 0 5);rw[<-y] at v;obtain⟨W0,d⟩:=bx (w.drew.alloc (.cells (bytesRow s cap) 5 ((bytesRow s cap).size,(bytesRow s cap).size +1)));rw[<-d] at v;obtain⟨G,g⟩:=bx (w.heap.size);have F:Below w.heap.size w W0:=by rw[d];exact eN.drew.alloc cm _
 have L:s.size<=(bytesRow s cap).size :=by unfold bytesRow;rw[Array.size_append,Array.size_map];exact Nat.le_add_right _ _
 have C:ByB W0 G (s7 s.data.toList 0):=by
  have e:s7 s.data.toList 0=s.data.toList:=by simp[s7,Ce.eY]
  rw[e];refine⟨by rw[d,g];simp[yb7],fun j hj=>?_,fun j hj=>?_⟩
  ·rw[d,g];refine(World.cell?_alloc_mark w.drew _ _ _ j).trans ?_;rw[bytesRow_at s cap j (by simpa using hj)];simp
  ·rw[d,g];refine(World.frozen?_alloc_mark w.drew _ _ _ _ j).trans ?_;have:j<(bytesRow s cap).size :=by rw[dN] at hj;omega
   rw[eL aG];rfl
 rw[<-g] at v
 have A: ∀ wr,ByB wr G (Ce.eY s.data.toList)->(convert 127 9 (.slice (some ⟨G,0,none⟩) s.size cap)).run prog wr= .ok (.string R) wr:=fun wr h=>by have:=run_convert_bytes_back (P:=prog) wr 127 9 5 ⟨G,0,none⟩ cap (Ce.eY s.data.toList) underlying127 underlying5 underlying9 (fun j hj=>by rw[Addr.add_mid,iR];exact h.at' j hj);rw[LO,dN,<-r] at this;exact this
 have J:w.heap.size<=G:=aG;obtain⟨K,u⟩:=dY A C;clear r y d A C L g;go_enter func159,ntmps159
 go_wp2_with fail
 go_loopw [10] (fun q wr=> ∃ k:Nat,k<=s.size/\q= .int .i64 k/\Hid (ByB wr G (s7 s.data.toList k))/\Below w.heap.size w wr) (fun q _=>s.size-(intOf q).toNat)
 case atStart=>exact⟨0,iH _,rfl,u,F⟩
 case round=>
  obtain⟨k,Q,rfl,a,n⟩:=hrel;by_cases I:k<s.size
  ·have m:k<s.data.toList.length:=by rw[dN];exact I
   have t:k<(s7 s.data.toList k).length :=by rw[yiE];exact m
   have B:=a.out.at' k t;have V:=a.out.free k t;have U:=a.out.lt;rw[ykr _ _ m] at B;have i:=yvp s.data.toList k m;have b:=a.out.set k (capB s.data.toList[k]) t;rw[<-i] at b;obtain⟨c,f⟩:=bx (s.data.toList[k]);rw[<-f] at B b;have M:(k:Int)<(s.size:Int):=aG;have N:((c.toNat:Int))<256:=by have:=c.toNat_lt;omega
   by_cases l:97<=(c.toNat:Int)/\(c.toNat:Int)<=122
   ·obtain⟨E,D⟩:=l;have z:=ywE E D;rw[z] at b;have o:=aL b;clear b z i f;go_wp2_with fail
    exact⟨⟨k+1,by omega,by go_num,o,n.setCell (p:=⟨G,k,none⟩) J _⟩,by simp[intOf];omega⟩
   ·have x:ByB wr G (s7 s.data.toList (k+1)):=by
     rw[i,<-f,ytg l]
     have:(s7 s.data.toList k).set k c=s7 s.data.toList k:=by rw[f,<-ykr _ _ m];exact List.set_getElem_self _
     rw[this];exact a.out
    have o:=aL x;clear b i f x;by_cases T:97<=(c.toNat:Int)
    ·have S: ¬ (c.toNat:Int)<=122:=aG;clear l;go_wp2_with fail
     exact⟨⟨k+1,by omega,by go_num,o,n⟩,by simp[intOf];omega⟩
    ·clear l;go_wp2_with fail
     exact⟨⟨k+1,by omega,by go_num,o,n⟩,by simp[intOf];omega⟩
  ·have H:k=s.size:=aG;subst H
   have e:s7 s.data.toList s.size=Ce.eY s.data.toList:=by unfold s7;rw[<-dN,zD,yen,rm]
   have W:=K.out wr (by rw[<-e];exact a.out);clear e a;go_wp2_with fail
   go_ret
   exact RetB.of rfl n

section
open Fx (Tr Rs Tk)
def SZ (s:List UInt8) (x:Int):Value:=match Fx.numb s x with|some y=> .tuple #[.int .u64 (y:Nat),.bool true]|none=> .tuple #[.int .u64 (if(Dc.mk false s x).e ≠0 then 0 else(Fl.bits (Dc.mk false s x).l (Dc.mk false s x).x :Nat)),.bool false]
def Onl.own2 {b:Nat} {w c a:World} (hb:Below w.heap.size w c) (hl:b<w.heap.size) (d:Onl b c a):Onl b w a:=(Onl.of hl hb).trans d
def ysY {w:World} {g b:Nat} {D L:UInt8} (h:FoR w g b D L) (s:ByteArray) (x:Int) (hs:s.size<=1000000) (hx: -9223372036854775808<=x/\x<=9223372036854775807):
 Calls prog 120 #[.pointer (some ⟨g,0,none⟩),.string s,.int .i64 x] w (RetR b (SZ s.data.toList x) w):=by
 have bQ:=h.rd.lt;have hm:=fun a=>yaN false s x a aG hx;unfold SZ;obtain⟨r,i⟩:=bx (Dc.mk false s.data.toList x);rcases Dc.ysC false s.data.toList x with ⟨d,z⟩|⟨e,d,F⟩
 ·have hn:(Dc.mk false s.data.toList x).n =false:=by
   by_cases f:Dc.dD s.data.toList=true
   ·by_cases t:Dc.core s.data.toList=[]
    ·rw[Dc.EA f t]
    ·by_cases q:Dc.right (Dc.core s.data.toList) (x+Dc.tz s.data.toList)=true
     ·rw[Dc.Kd f t q]
     ·rw[Dc.R7 f t q]
   ·rw[Dc.yf5 (by simpa using f)]
  rw[<-i] at hm d z hn
  have c:Fx.numb s.data.toList x=if Fl.kind (Fl.bits r.l r.x)<3 then some (Fl.bits r.l r.x) else none:=by unfold Fx.numb;rw[<-i,bv (show ¬ r.e≠0 by rw[d];decide)]
  rw[c,<-i,bv (show ¬ r.e≠0 by rw[d];decide)];clear c;unfold Dc.Res.val at hm;rw[d,hn] at hm;obtain⟨T,G⟩:=bx (⟨r.l.toArray⟩:ByteArray);obtain⟨X,B⟩:=bx (r.x);have J:T.data.toList=r.l:=by rw[G]
  have aH:=Dc.xW z;have hb:=fun a (i:Rdr a b)=>ykP b false T X a (by rw[<-dN,J];omega) i;rw[J,B,Fl.Gg,bT z,show Fl.vC false=0 from rfl,iR] at hb;have Q:=Fx.yjw r.l r.x;obtain⟨Y,R⟩:=bx (Fl.bits r.l r.x);rw[<-R] at hb Q ⊢;rw[<-G,<-B] at hm;rw[<-B] at hb;have E:=fun a=>yam Y aG a;obtain⟨K,S⟩:=bx (Fl.kind Y);rw[<-S] at E ⊢
  have hv:(match (if K<3 then some Y else none) with|some y=>(.tuple #[.int .u64 ((y:Nat):Int),.bool true]:Value)|none=> .tuple #[.int .u64 ((Y:Nat):Int),.bool false])= .tuple #[.int .u64 ((Y:Nat):Int),.bool (decide ((K:Int)<3))]:=by
   by_cases q:K<3
   ·rw[bT q,fv aG]
   ·rw[bv q,eL aG]
  rw[hv];obtain⟨kb,C⟩:=bx (decide ((K:Int)<3));rw[<-C];have WM:=C.symm;have m: ∀ a v,Below w.heap.size w a->Onl b a v->Onl b w v:=fun a v f t=>Onl.own2 f bQ t;have hg:=fun a (hb:Below w.heap.size w a)=>(h.on hb).rdc;obtain⟨N,HB,HK,O,HG,M⟩:=ts hm hb E m hg h;clear hm hb E m hg hv C S R Q G B J aH z d hn i;have gl:=M.out.gl;go_enter func120,ntmps120
  go_upto_region 4 with (first|(go_at_call 158;refine cp (N.out _) ?_;intro a j;have W:=j.size))
  obtain⟨Z,A⟩:=bx (a.alloc (Obj.cells #[.bool false,.string T,.int .i64 X] 139));have u:Below w.heap.size w Z:=by rw[A];exact j.alloc W _
  have V:DecB Z a.heap.size false T X:=by rw[A];exact DecB.new a false T X
  rw[<-A];obtain⟨y0,y1,y2,yl⟩:=id V;have gZ:=HG.out Z u;have P:=M.out.rd.on u;have gzl:g<Z.heap.size:=eR gl u.size;obtain⟨H,U⟩:=bx (a.heap.size);rw[<-U] at y0 y1 y2 yl ⊢;obtain⟨RZ,BZ⟩:=dY P u;have Vw:g≠b:=M.out.ne;have Vv:H≠b:=by have:=j.size;omega
  clear A U V P u j
  go_region_held3 (fun w'=>w'.cell? ⟨g,10,none⟩=some (.pointer (some ⟨b,0,none⟩))/\w'.cell? ⟨H,0,none⟩=some (.bool false)/\w'.cell? ⟨H,1,none⟩=some (.string T)/\w'.cell? ⟨H,2,none⟩=some (.int .i64 X))
   (first|go_keep|(refine⟨?_,?_,?_,?_⟩<;>(first|(rw[AK];assumption)|(rw[gk];assumption)))|(refine⟨?_,?_,?_,?_⟩<;>(first|(go_simp;done)|(simp[go_sem, *];done))))
   (first|(go_at_call 142;(with_reducible refine(HB.out _ (RZ.out.on dt)).mono ?_);rintro e v ⟨rfl,I,km⟩;have ew:=O.out _ _ (by have bz:=BZ.out;(repeat(first|exact eN|assumption|refine vh ?_ mY _|refine vc ?_ mY _|refine vr ?_|refine oY ?_ _))) I;have AK:=fun o=>I.cell (k:=g) (o:=o) Vw qQ;have gk:=fun o=>I.cell (k:=H) (o:=o) Vv qQ))
  go_wp2_with (first|(go_at_call 106;refine cY (HK.out _) ?_))
  go_ret2
  exact⟨rfl,ew,km⟩
 ·have c:Fx.numb s.data.toList x=none:=by
   unfold Fx.numb;rw[F,bT (show({n:=false,l:=[],x:=0,e:=e}:Dc.Res).e ≠0 by rcases d with rfl|rfl<;>decide)]
  rw[c];rw[F] at hm ⊢;rw[bT (show({n:=false,l:=[],x:=0,e:=e}:Dc.Res).e ≠0 by rcases d with rfl|rfl<;>decide)];unfold Dc.Res.val at hm;have ux:(e != 0)=true:=by rcases d with rfl|rfl<;>decide
  have m: ∀ a,Below w.heap.size w a->Onl b w a/\Rdr a b:=fun a f=>⟨Onl.of bQ f,h.rd.on f⟩;obtain⟨N,O⟩:=dY hm m;clear hm m c F d i h;go_enter func120,ntmps120
  go_wp2_with (first|(go_at_call 158;refine cp (N.out _) ?_;intro a j;have W:=j.size))
  go_ret2
  exact⟨rfl,O.out _ dt⟩
end

section
open Fx (Tr Rs Tk)
def yrD {f:Func} {n m:Nat} (g:f.results= #[ResultVar.cell n 24,ResultVar.tmp m]) {tmps:Array Value} {B:Nat} {X:World} {b:Value} (h:tmps.getD n undef= .pointer (some ⟨B,0,none⟩)) (hb:tmps.getD m undef=b) {c0 c1 c2 c3:Value} (D:Cs X B [c0,c1,c2,c3]):
 (results f tmps).run prog X= .ok (.tuple #[.agg #[c0,c1,c2,c3],b]) X:=by
 have e:=D.get 0 rfl;have d:=D.get 1 rfl;have c:=D.get 2 rfl;have a:=D.get 3 rfl;refine ycM ?_;intro h' jm;simp[results,g,h',jm,go_sem,e,d,c,a]
def ygb {f:Func} {n m:Nat} {Q:Ending->World->Prop} (g:f.results= #[ResultVar.cell n 24,ResultVar.tmp m]) {tmps:Array Value} {W:World} {B:Nat} {b c0 c1 c2 c3 e d c a:Value} (h:tmps.getD n undef= .pointer (some ⟨B,0,none⟩)) (hb:tmps.getD m undef=b) (D:Cs W B [e,d,c,a])
 (i:Q (.returned (.tuple #[.agg #[c0,c1,c2,c3],b])) ((((W.setCell ⟨B,0,none⟩ c0).setCell ⟨B,1,none⟩ c1).setCell ⟨B,2,none⟩ c2).setCell ⟨B,3,none⟩ c3)):
 bodyPost prog f Q Exit.ret {tmps:=tmps,defers:=[]} ((((W.setCell ⟨B,0,none⟩ c0).setCell ⟨B,1,none⟩ c1).setCell ⟨B,2,none⟩ c2).setCell ⟨B,3,none⟩ c3):=
 eB (yrD g h hb (Cs.stored [c0,c1,c2,c3] D rfl)) rfl i
def Ib {C B:Nat} {w W:World} (h:Below C w W) (a:C<=B) {c0 c1 c2 c3:Value}:Below C w ((((W.setCell ⟨B,0,none⟩ c0).setCell ⟨B,1,none⟩ c1).setCell ⟨B,2,none⟩ c2).setCell ⟨B,3,none⟩ c3):=
 (((h.setCell (p:=⟨B,0,none⟩) a _).setCell (p:=⟨B,1,none⟩) a _).setCell (p:=⟨B,2,none⟩) a _).setCell (p:=⟨B,3,none⟩) a _
def MU (p g b:Nat) (D L:UInt8) (S:ByteArray) (op:Nat) (r:Ce.Rf × Int) (q a:List UInt8) (w:World) (e:Ending) (w':World):Prop:=
 e= .returned (.tuple #[rv r.1,.bool (decide (r.2=0))])/\Onl p w w'/\(if r.2=0 then Ps w' p g b D L S a op else Pe w' p g b D L S r.2 q)
def yha {w:World} {p g b:Nat} {D L:UInt8} {S:ByteArray} {l:List UInt8} {op:Nat} (h:Ps w p g b D L S l op) (K N X A:Int) (T:ByteArray) (t:Tk) (Q:T.data.toList=t.text) (gY:T.size<=1000000) (q u:List UInt8) (U:A=(S.size-q.length:Nat)) (R:N=(S.size-u.length:Nat)) (G:u <:+S.data.toList):
 Calls prog 162 #[.pointer (some ⟨p,0,none⟩),.agg #[.int .i64 K,.int .i64 A,.int .i64 N,.string T,.int .i64 X]] w (MU p g b D L S op (Fx.mf t) q u w):=by
 have m:=fun w1=>ynp T w1 aG;rw[Q] at m;unfold Fx.mf;obtain⟨r,E⟩:=bx (Ce.parse t.text);obtain⟨⟨c,nR,ac,ar⟩,e⟩:=r;rw[<-E] at m ⊢;unfold yeJ rv at m;simp only at m ⊢;have pl:=h.mem.lt;have m2:=h.mem.get 2 rfl;have f2:=h.mem.frozen 2;refine D2 ?_;intro n1 n2 n3 n4;have b0:Below w.heap.size w ((w.alloc (Obj.cells #[.int .i64 K,.int .i64 A,.int .i64 N,.string T,.int .i64 X] 77)).alloc (Obj.cells #[.int .i64 0,.int .i64 0,.bool false,.bool false] 24)):=(ek).alloc cn _;have c0:=(CF.new w [.int .i64 K,.int .i64 A,.int .i64 N,.string T,.int .i64 X] 77).alloc (Obj.cells #[.int .i64 0,.int .i64 0,.bool false,.bool false] 24);have c1:=CF.new (w.alloc (Obj.cells #[.int .i64 K,.int .i64 A,.int .i64 N,.string T,.int .i64 X] 77)) [.int .i64 0,.int .i64 0,.bool false,.bool false] 24;rw[i7] at c1
 have M: ∀ w1:World,Below w.heap.size w w1-> ∀ x:Int,Calls prog 67 #[.pointer (some ⟨p,0,none⟩),.int .i64 x,.int .i64 A] w1 (fun e w'=>e= .returned (.bool false)/\Onl p w1 w'/\Pe w' p g b D L S x q):=fun w1 hb x=>
  (ybq p _ _ _ _ _ _ x A w1 (h.mem.on hb)).mono fun e w' ⟨e1,Y,W⟩=>⟨e1,Y,Pe.ybO (h.fo.on hb) h.gp h.bp h.ep Y (by rw[U] at W;exact W)⟩
 have O: ∀ w1 w',Below w.heap.size w w1->Below w.heap.size (w1.setCell ⟨p,2,none⟩ (.int .i64 N)) w'->Onl p w w'/\Ps w' p g b D L S u op:=fun w1 w' hb hb2=>by
  refine yhK ?_;intro uo hO ew;refine⟨ew.own hb2 pl,?_⟩
  have hP:Ps (w1.setCell ⟨p,2,none⟩ (.int .i64 N)) p g b D L S u op:=by refine⟨?_,uo.fo.below hO.below h.gp h.bp h.ep,h.gp,h.bp,h.ep,G,h.hz,h.opl⟩;have:=uo.mem.set 2 (.int .i64 N);rw[R] at this ⊢;exact this
  exact hP.below hb2 pl
 have P: ∀ w1 d w' x,Below w.heap.size w w1->Onl p w1 d->Pe d p g b D L S x q->Below w.heap.size d w'->Onl p w w'/\Pe w' p g b D L S x q:=fun w1 d w' x h1 G v V=>
  ⟨((Onl.of pl h1).trans G).own V pl,v.below V pl⟩
 obtain⟨HP,p9,iP,et,HF,HG,C⟩:=zo m c0 c1 b0 M O P;clear m c0 c1 b0 M O P h Q E U R;by_cases y:e=0
 ·subst y;rw[bv bL];go_enter func162,ntmps162
  go_upto_region 2 with (first|(go_at_call 210;refine yge ?_;intro w1 aw bd C0 C1 cH))
  refine yfp ?_;intro Z hZ bZ cZ BZ;have C0:=C0.on bZ;have CB:=aL (C1.on bZ);refine W9 ?_;intro z0 z1 z2 z3;have n:=cZ.1.1;obtain⟨H,i⟩:=bx (w1.heap.size);rw[<-i] at z0 z1 z2 z3 n cH ⊢;refine yeC ?_;intro n5 n6 n7 n8 p2 pf pz y1 y2 yl x0 x1 x2 x3 xl g0 g1 g2 g3;clear hZ i bZ cZ bd C1 C0 aw;go_wp2_with fail
  refine ygb results162 es es (CB.out.1.off n4 2 _) ?_;refine(fun hb=>⟨rfl,(HG.out Z _ BZ.out hb).1,(HG.out Z _ BZ.out hb).2⟩) ?_;exact Ib eN (ls _)
 ·by_cases v:e=3
  ·subst v;rw[bT rfl];clear y;go_enter func162,ntmps162
   go_upto_region 2 with (first|(go_at_call 210;refine yge ?_;intro w1 aw bd C0 C1 cH))
   refine yfp ?_;intro Z hZ bZ cZ BZ;have C0:=C0.on bZ;have CB:=aL (C1.on bZ);refine W9 ?_;intro z0 z1 z2 z3;have n:=cZ.1.1;obtain⟨H,i⟩:=bx (w1.heap.size);rw[<-i] at z0 z1 z2 z3 n cH ⊢;refine yeC ?_;intro n5 n6 n7 n8 p2 pf pz y1 y2 yl x0 x1 x2 x3 xl g0 g1 g2 g3;clear hZ i bZ cZ bd C1 C0 aw;go_upto_region 8 with (fail)
   go_region_held3 (fun w'=>w'.cell? ⟨H,0,none⟩=some (.int .i64 c)/\w'.cell? ⟨H,1,none⟩=some (.int .i64 nR)/\w'.cell? ⟨H,2,none⟩=some (.bool ac)/\w'.cell? ⟨H,3,none⟩=some (.bool ar)/\w'.cell? ⟨w.heap.size,1,none⟩=some (.int .i64 A))
    (first|go_keep|(refine⟨?_,?_,?_,?_,?_⟩<;>(first|(rw[z];assumption)|(rw[F];assumption)|(rw[z];(simp[go_sem, *];done)))))
    (first|(go_at_call 67;(with_reducible refine(HF.out _ (by have f:=BZ.out;first|exact f|exact f.drew|exact Ib f (ls _)|exact Ib f.drew (ls _)) _).mono ?_);rintro e' d ⟨rfl,a,s⟩;obtain⟨B,ew⟩:=dY s a;have z:=fun o=>a.cell (k:=H) (o:=o) n5 qQ;have F:=fun o=>a.cell (k:=w.heap.size) (o:=o) n2 qQ;have AI:=fun o=>a.cell (k:=w.heap.size+1) (o:=o) n4 qQ;have BV:=fun o=>a.frozen (k:=w.heap.size+1) (o:=o) n4 qQ;have I:=a.size;(try simp only[fO,gz,fY,gt] at I);have J:w.heap.size+1<d.heap.size:=aG;clear s a))
   all_goals go_wp2_with fail
   refine ygb results162 es es (show Cs d (w.heap.size+1) [.int .i64 0,.int .i64 0,.bool false,.bool false] from⟨J,fun j hj=>(ew.out.cell n4 (by rw[yb7];exact xl)).trans (CB.out.1.2 j hj)⟩) ?_;refine(fun hb=>⟨rfl,(C.out Z.drew d _ _ BZ.out.drew ew.out B.out hb).1,by rw[bv (show ¬ (8:Int)=0 by decide)];exact(C.out Z.drew d _ _ BZ.out.drew ew.out B.out hb).2⟩) ?_;exact Ib eN (ls _)
  ·rw[bv v];have k0:(e==0)=false:=gN.2 y;have k3:(e==3)=false:=gN.2 v;have VJ:decide (e=0)=false:=eL y;go_enter func162,ntmps162
   go_upto_region 2 with (first|(go_at_call 210;refine yge ?_;intro w1 aw bd C0 C1 cH))
   refine yfp ?_;intro Z hZ bZ cZ BZ;have C0:=C0.on bZ;have CB:=aL (C1.on bZ);refine W9 ?_;intro z0 z1 z2 z3;have n:=cZ.1.1;obtain⟨H,i⟩:=bx (w1.heap.size);rw[<-i] at z0 z1 z2 z3 n cH ⊢;refine yeC ?_;intro n5 n6 n7 n8 p2 pf pz y1 y2 yl x0 x1 x2 x3 xl g0 g1 g2 g3;clear hZ i bZ cZ bd C1 C0 aw;go_upto_region 8 with (fail)
   go_region_held3 (fun w'=>w'.cell? ⟨H,0,none⟩=some (.int .i64 c)/\w'.cell? ⟨H,1,none⟩=some (.int .i64 nR)/\w'.cell? ⟨H,2,none⟩=some (.bool ac)/\w'.cell? ⟨H,3,none⟩=some (.bool ar)/\w'.cell? ⟨w.heap.size,1,none⟩=some (.int .i64 A))
    (first|go_keep|(refine⟨?_,?_,?_,?_,?_⟩<;>(first|(rw[z];assumption)|(rw[F];assumption)|(rw[z];(simp[go_sem, *];done)))))
    (first|(go_at_call 67;(with_reducible refine(HF.out _ (by have f:=BZ.out;first|exact f|exact f.drew|exact Ib f (ls _)|exact Ib f.drew (ls _)) _).mono ?_);rintro e' d ⟨rfl,a,s⟩;obtain⟨B,ew⟩:=dY s a;have z:=fun o=>a.cell (k:=H) (o:=o) n5 qQ;have F:=fun o=>a.cell (k:=w.heap.size) (o:=o) n2 qQ;have AI:=fun o=>a.cell (k:=w.heap.size+1) (o:=o) n4 qQ;have BV:=fun o=>a.frozen (k:=w.heap.size+1) (o:=o) n4 qQ;have I:=a.size;(try simp only[fO,gz,fY,gt] at I);have J:w.heap.size+1<d.heap.size:=aG;clear s a))
   all_goals go_wp2_with fail
   refine ygb results162 es es (show Cs d (w.heap.size+1) [.int .i64 0,.int .i64 0,.bool false,.bool false] from⟨J,fun j hj=>(ew.out.cell n4 (by rw[yb7];exact xl)).trans (CB.out.1.2 j hj)⟩) ?_;refine(fun hb=>⟨by rw[VJ];rfl,(C.out Z.drew d _ _ BZ.out.drew ew.out B.out hb).1,by rw[bv y];exact(C.out Z.drew d _ _ BZ.out.drew ew.out B.out hb).2⟩) ?_;exact Ib eN (ls _)
end

section
open Fx (Tr Rs Tk)
attribute [local go_sem ↓] qh qn xy xc
def zK (p g b:Nat) (D L:UInt8) (S:ByteArray) (n op:Nat) (l:List UInt8):Prop:= ∀ w,Ps w p g b D L S l op->Calls prog 40 #[.pointer (some ⟨p,0,none⟩),.int .i64 n] w (RetP p g b D L S op (Fx.jr D L n op l) w)
def L8 (p g b:Nat) (D L:UInt8) (S:ByteArray) (op:Nat) (l:List UInt8):Prop:= ∀ w,Ps w p g b D L S l op->Calls prog 57 #[.pointer (some ⟨p,0,none⟩)] w (RetP p g b D L S op (Fx.yA D L op l) w)
def A7 (p g b:Nat) (D L:UInt8) (S:ByteArray) (op:Nat) (l:List UInt8):Prop:= ∀ w,Ps w p g b D L S l op->Calls prog 91 #[.pointer (some ⟨p,0,none⟩)] w (RetP p g b D L S op (Fx.vz D L op l) w)
def ybt (p g b:Nat) (D L:UInt8) (S:ByteArray) (op:Nat) (l:List UInt8):Prop:= ∀ (a:ByteArray) w,Ps w p g b D L S l op->Calls prog 161 #[.pointer (some ⟨p,0,none⟩),.string a] w (RetP p g b D L S op (Fx.Hc D L op a.data.toList l) w)
def Left.below {w w':World} {p g b:Nat} {D L:UInt8} {S:ByteArray} {op C:Nat} {r:Rs} {t:Tr} (h:Left w p g b D L S op r t) (hb:Below C w w') (a:p<C):Left w' p g b D L S op r t:=by
 unfold Left at *
 cases r with
 |ok t' l=>exact⟨h.1,h.2.below hb a⟩
 |er x q=>exact Pe.below h hb a
def yH {w:World} {B C:Nat} (X:Value) (a:C<=B):Below C w (nput w B X):=zg a eN
def RetP.of {w W:World} {p g b B:Nat} {D L:UInt8} {S:ByteArray} {op:Nat} {r:Rs} {X ok:Value} {t:Tr} {A:Nat->Prop} (e:TreeX W A X t) (a: ∀ k,A k->w.heap.size<=k/\k<W.heap.size/\k≠B) (i:Two p b w W) (f:Left W p g b D L S op r t) (c:w.heap.size<=B) (d:p<w.heap.size) (j:ok= .bool r.fine):
 RetP p g b D L S op r w (.returned (.tuple #[X,ok])) (nput W B X):=
 ⟨X,t,by rw[j],⟨A,e.kept (fun _ h=>h) (fun k h=>uz (a k h).2.2 X),fun k h=>⟨(a k h).1,by rw[yI];exact(a k h).2.1⟩⟩,i.own (yH X c),f.below (yH X c) d⟩
def yve (p g b:Nat) (D L:UInt8) (S:ByteArray) (op:Nat) (l:List UInt8) (hU:L8 p g b D L S op l):zK p g b D L S 6 op l:=by
 intro w h;have d:=fun c (hb:Below w.heap.size w c)=>hU c (h.on hb);rw[Fx.OJ];obtain⟨r,j⟩:=bx (Fx.yA D L op l);rw[<-j] at d ⊢;refine yb6 ?_;intro pl bp b0 d0;obtain⟨z,o,B⟩:=iJ d b0 d0;clear d j h b0 d0;go_enter func40,ntmps40
 go_wp2_with (first|(go_at_call 57;refine cV (z.out _ o.out) ?_;rintro e c ⟨G,C,rfl,f,a,m⟩;have i:=B.out.two a aG aG;obtain⟨cs,n⟩:=f.isN;have E:=jP i n;obtain⟨t,u,v⟩:=iJ f m a;have q:=aL (i.put n);have F:=a.size;clear f m a i))
 refine lS results40 es es q.out ?_;obtain⟨A,x,y⟩:=t.out;refine RetP.of x (fun k s=>?_) ((Two.of o.out).trans v.out) u.out cm pl rfl;have:=y k s;rw[i7] at this;exact⟨by omega,by omega,by omega⟩
def yeG (p g b:Nat) (D L:UInt8) (S:ByteArray) (n op:Nat) (l:List UInt8) (w:World) (B6:Nat) (r:Rs) (ok:Value) (wr:World):Prop:=
 ∃ (a:Rs) (X:Value) (t:Tr) (A:Nat->Prop),ok= .bool a.fine/\a.bind (Fx.vF D L n op)=r/\Left wr p g b D L S op a t/\TreeX wr A X t/\(∀ k,A k->w.heap.size<k/\k<wr.heap.size/\k≠B6)/\
   Nd wr B6 X/\Nd wr w.heap.size znv/\Two p b w wr/\(∀ t' c,a= .ok t' c->c.length<=l.length)
def RetP.bad {w W:World} {p g b B:Nat} {D L:UInt8} {S:ByteArray} {op:Nat} {x:Int} {q:List UInt8} (e:Two p b w W) (c:Pe W p g b D L S x q) (d:w.heap.size<=B) (a:p<w.heap.size):
 RetP p g b D L S op (.er x q) w (.returned (.tuple #[znv,.bool false])) (nput W B znv):=
 RetP.of (r:= .er x q) (t:=zn) (A:=fun _=>False) ⟨_,rfl,TreeS.leaf rfl⟩ (fun k h=>h.elim) e c d a rfl
def Q3 (r:Rs):(∃ t l,r= .ok t l/\r.fine=true)∨(∃ x q,r= .er x q/\r.fine=false):=by
 cases r with
 |ok t l=>exact .inl ⟨t,l,rfl,rfl⟩
 |er x q=>exact .inr ⟨x,q,rfl,rfl⟩
def yr (S:ByteArray) (p:Nat) (ok:Value) (wr:World):Nat:=match ok,wr.cell? ⟨p,2,none⟩ with | .bool true,some (.int _ i)=>S.size-i.toNat+1 | _,_=>0
def ynU (S:ByteArray) (p:Nat) (w:World):yr S p (.bool false) w=0:=rfl
def Oq {w:World} {p g b:Nat} {D L:UInt8} {S:ByteArray} {l:List UInt8} {op:Nat} (h:Ps w p g b D L S l op):yr S p (.bool true) w=l.length+1:=by unfold yr;rw[h.mem.get 2 rfl];have:=h.len;simp only[jJ];omega
def Ps.past {w:World} {p g b:Nat} {D L:UInt8} {S:ByteArray} {l a:List UInt8} {op:Nat} {N:Int} (h:Ps w p g b D L S l op) (e:a <:+S.data.toList) (d:N=(S.size-a.length:Nat)):Ps (w.setCell ⟨p,2,none⟩ (.int .i64 N)) p g b D L S a op:=by have c:Onl p w (w.setCell ⟨p,2,none⟩ (.int .i64 N)):=(Onl.refl p w).setCell 2 _;refine⟨?_,h.fo.below c.below h.gp h.bp h.ep,h.gp,h.bp,h.ep,e,h.hz,h.opl⟩;have:=h.mem.set 2 (.int .i64 N);rw[d] at this ⊢;exact this
def ypu (p g b:Nat) (D L:UInt8) (S:ByteArray) (n op:Nat) (l:List UInt8) (s:1<=n) (h5:n<=5) (hE: ∀ j:List UInt8,j.length<=l.length->zK p g b D L S (n+1) op j):zK p g b D L S n op l:=by
 intro w h;rw[Fx.LD op l s h5];obtain⟨r,hr⟩:=bx ((Fx.jr D L (n+1) op l).bind (Fx.vF D L n op));obtain⟨r0,jf⟩:=bx (Fx.jr D L (n+1) op l);have Hq: ∀ t' j,r0= .ok t' j->j.length<=l.length:=fun t' j e=>by rw[jf] at e;exact lY (Fx.Iw e)
 have dT:=fun o (hb:Below w.heap.size w o)=>hE l cm o (h.on hb);rw[<-hr];rw[<-jf] at dT hr;rw[show(((n+1:Nat)):Int)=(n:Int)+1 by omega] at dT;refine yb6 ?_;intro pl bp b0 d0;have i0:((n:Int)==6)=false:=by rw[gN];omega
 have i1:(n:Int)<=5:=aG;have i2:(1:Int)<=(n:Int):=aG;obtain⟨pZ,B0,D0,HR,ZV,HE,HP⟩:=zo dT b0 d0 hr Hq hE h;clear dT hr jf Hq h b0 d0 hE;go_enter func40,ntmps40
 go_wp2_with (first|(go_at_call 40;refine cV (pZ.out _ B0.out) ?_;rintro e o ⟨X1,t1,rfl,fF,eJ,fq⟩;have D1:=D0.out.two eJ aG aG;obtain⟨cs,bN⟩:=fF.isN;have dg:=jP (Nd.zero o) bN;(unfold jg at dg);obtain⟨hT,hL,h2,wV,QA⟩:=qF fF fq eJ D1 bN;have cH:=eJ.size;clear fF fq eJ D1 bN))
 obtain⟨Z,hZ⟩:=bx (nput (o.alloc jg) o.heap.size X1);have bZ:Below o.heap.size o Z:=yb5;have ko:w.heap.size+1<=o.heap.size:=by rw[i7] at cH;exact cH
 have hrel:yeG p g b D L S n op l w o.heap.size r (.bool r0.fine) Z:=by obtain⟨A,gi,ff⟩:=hT.out;rw[i7] at ff;refine⟨r0,X1,t1,A,rfl,HR.out.symm,hL.out.below bZ aG,gi.kept (fun _ h=>h) (fun k d=>bZ.block k (ff k d).2),fun k d=>⟨by have:=ff k d;omega,by have:=ff k d;have:=bZ.size;omega,by have:=ff k d;omega⟩,by rw[hZ];exact(Nd.zero o).put QA.out,wV.out.below bZ aG,((Two.of B0.out).trans h2.out).own (bZ.mono aG),ZV.out⟩
 unfold jg at hZ;obtain⟨B6,Df⟩:=bx (o.heap.size);rw[<-hZ];rw[<-Df] at hrel ko ⊢;have tT:=aL hrel;have M6:w.heap.size≠B6:=aG;have vy:B6≠p:=aG;have gO:B6≠b:=aG;have eO:w.heap.size≠p:=aG;have cD:w.heap.size≠b:=aG;have Jl:=aL ko;clear hrel hZ Df bZ dg cH ko;go_loopw [7] (fun ok wr=>yeG p g b D L S n op l w B6 r ok wr) (fun ok wr=>yr S p ok wr)
 case atStart=>exact tT.out
 case round=>
  obtain⟨rr,X,t,A,rfl,nz,nD,uB,hA,we,ct,jZ,aH⟩:=hrel;obtain⟨cs,bN⟩:=uB.isN;obtain⟨U,pU,kh,ic,uJ,HC,HL,D8,ua⟩:=yav hA uB we ct jZ bN nD nz aH;have GG:=jZ.size;have ko:=Jl.out;clear hA uB we ct jZ bN nD nz aH
  cases rr with
  |er x q=>
   have lF:=fx kh.out
   have dg:=jP ic.out HC.out
   rw[show(Rs.er x q).fine =false from rfl]
   go_wp2_with fail
   refine lS results40 es es (ic.out.put HC.out) ?_
   have he:r= .er x q:=D8.out.symm
   rw[he]
   exact RetP.of pU.out (fun k d=>by have:=U.out k d;exact⟨by omega,by omega,by omega⟩) uJ.out HL.out cm pl rfl
  |ok t' j=>
   obtain⟨rfl,dC⟩:=(show t=t'/\Ps wr p g b D L S j op from HL.out)
   rw[show(Rs.ok t j).fine =true from rfl]
   have R6:=ua.out _ _ rfl
   have ht:=Lu dC
   obtain⟨i,aX⟩:=bx (Fx.tok D L j)
   rw[<-aX] at ht
   unfold tokV tkv at ht
   obtain⟨K,hK⟩:=bx (i.kind:Int)
   obtain⟨F,hF⟩:=bx ((S.size-i.at'.length:Nat):Int)
   obtain⟨N,hN⟩:=bx ((if i.kind=6 then(0:Int) else((S.size-i.end'.length:Nat):Int)):Int)
   obtain⟨T,ce⟩:=bx (⟨i.text.toArray⟩:ByteArray)
   obtain⟨E,dB⟩:=bx (i.exp:Int)
   rw[<-hK,<-hF,<-hN,<-ce,<-dB] at ht
   have bH:T.data.toList=i.text:=XE
   have kE:=fun W=>Es T W
   rw[bH] at kE
   obtain⟨lv,ji⟩:=bx (Fx.eT i.text)
   rw[<-ji] at kE
   obtain⟨HT,qH,tU,ib,Qk,nN,iF,Uu⟩:=W5 ht kE dC aX hK hN bH ji
   clear ht kE aX hK hF hN ce dB bH ji dC
   go_upto_region 6 with (first|(go_at_call 41;refine cp HT.out ?_;intro w2 hb2))
   obtain⟨m,da⟩:=bx (w2.alloc (Obj.cells #[.int .i64 K,.int .i64 F,.int .i64 N,.string T,.int .i64 E] 77))
   have I:Cs m w2.heap.size [.int .i64 K,.int .i64 F,.int .i64 N,.string T,.int .i64 E]:=yct
   have dL:Below wr.heap.size wr m:=by rw[da];exact hb2.alloc hb2.size _
   have u6:m.heap.size=w2.heap.size+1:=by rw[da];exact i7 _ _
   obtain⟨O,eZ⟩:=bx (w2.heap.size)
   rw[<-da]
   rw[<-eZ] at I u6 ⊢
   have XR:wr.heap.size<=O:=by have:=hb2.size;omega
   have z0:=I.get 0 rfl;have z1:=I.get 1 rfl;have z2:=I.get 2 rfl;have z3:=I.get 3 rfl;have z4:=I.get 4 rfl
   have se:=tU.out.on dL
   have p2:=se.mem.get 2 rfl
   have pf:=se.mem.frozen 2
   have pz:=se.mem.lt
   obtain⟨M,qK,dU,Ue⟩:=jv dL I se u6
   have Q4:=tU.out.mem.lt
   have b6r:=kh.out.lt
   have YC:=ic.out.lt
   clear da eZ dL I se hb2 u6
   by_cases mo:i.kind=5/\Fx.eT i.text=n
   ·obtain⟨y,kl⟩:=mo
    have q1:(K != 5)=false:=by rw[Qk.out,y];rfl
    have q2:((lv:Int) != (n:Int))=false:=by rw[Uu.out,kl];simp
    have aR:=Fx.oV (D:=D) (L:=L) (l:=j) (by rw[<-ib.out];exact y)
    have cA:=Fx.SH D L j
    rw[<-ib.out] at aR cA
    have pR:N=(S.size-i.end'.length:Nat):=by rw[nN.out,bv aG]
    have tD:=dU.out.past (cA.trans tU.out.suf) pR
    have Im:(Fx.jr D L (n+1) op i.end').bind (fun u v=>Fx.vF D L n op (Fx.nod 8 i.text [t,u]) v)=r:=by have:=D8.out;rw[show(Rs.ok t j).bind (Fx.vF D L n op)=Fx.vF D L n op t j from rfl,Fx.XV op t j s h5,<-ib.out,bT ⟨y,kl⟩] at this;exact this
    obtain⟨fR,QE,DW⟩:=iJ tD Im aR
    clear y kl cA pR tD Im aR
    go_upto_region 9 with (first|(go_at_call 50;refine cY (qH.out _) ?_))
    obtain⟨Z3,V⟩:=bx (m.setCell ⟨p,2,none⟩ (.int .i64 N))
    obtain⟨R,iT⟩:=bx (Z3.alloc jg)
    have fb:Z3.heap.size=m.heap.size:=by rw[V];exact rX _ _ _
    have uj:R.heap.size=m.heap.size+1:=by rw[iT,i7,fb]
    have vQ:Below Z3.heap.size Z3 R:=by rw[iT];exact ek
    have tC:Ps R p g b D L S i.end' op:=by have:=fR.out;rw[<-V] at this;exact this.on vQ
    have D9:Nd R m.heap.size znv:=by rw[iT,<-fb];exact Nd.zero Z3
    have GK: ∀ k,k≠p->k<m.heap.size->R.heap[k]? =m.heap[k]? :=fun k s h2=>(vQ.block k aG).trans (by rw[V];exact tF _ _ _ _ s)
    have pT:Two p b wr R:=by
     have s:Two p b m Z3:=by rw[V];exact(Two.refl p b m).setL 2 _
     exact((Two.of M.out).trans s).trans (Two.of vQ)
    have bi:=HE.out i.end' (by have:=DW.out;omega) R tC
    rw[show(((n+1:Nat)):Int)=(n:Int)+1 by omega] at bi
    obtain⟨P,go⟩:=bx (Fx.jr D L (n+1) op i.end')
    have jj: ∀ u v,P= .ok u v->v.length<i.end'.length:=fun u v e=>by rw[go] at e;exact Fx.Iw e
    rw[<-go] at bi
    have Ch:=QE.out
    rw[<-go] at Ch
    obtain⟨JV,JK,JT,Qz,wT,Py⟩:=ts Ch jj bi D9 pT GK
    rw[<-V]
    unfold jg at iT
    rw[<-iT]
    clear Ch jj bi D9 pT GK go tC vQ fR iT V
    go_upto_region 10 with (first|(go_at_call 40;refine cV JT.out ?_;rintro e w5 ⟨J,H,rfl,ir,K5,qr⟩;have QM:=Qz.out.two K5 aG aG;obtain⟨Yt,vM⟩:=ir.isN;have MH:=jP QM vM;obtain⟨Zn,UG,iG,Ag⟩:=jv ir K5 qr vM;have Qy:=aL (QM.put vM);have hw5:=K5.size;clear ir K5 qr vM QM))
    obtain⟨f,G⟩:=bx (nput w5 m.heap.size J)
    have vm:f.heap.size=w5.heap.size:=by rw[G];exact yI _ _ _
    have Q:Two p b wr f:=by rw[G];exact(wT.out.trans UG.out).own (yH J (by have:=M.out.size;omega))
    have fU: ∀ k,k≠p->k≠b->k<wr.heap.size->f.heap[k]? =wr.heap[k]? :=fun k s h2 h3=>Q.block k s h2 h3
    have Sa:f.heap[O]? =m.heap[O]? :=by have s:O<m.heap.size:=qK.out.1;rw[G,uz aG J,UG.out.block O aG aG aG];exact Py.out O aG s
    have y3:f.cell? ⟨O,3,none⟩=some (.string T):=(sf (a:=⟨O,3,none⟩) Sa).trans z3
    have qq:Nd f B6 X:=kh.out.two Q vy gO
    have WH:=fx qq
    have nt:(ox (.pointer (some ⟨m.heap.size,0,none⟩))).run prog f= .ok J f:=by rw[G];exact fx Qy.out
    have dS:=yaY HC.out Ag.out f
    obtain⟨B,iq⟩:=bx (f.alloc (Obj.cells (cs++Yt).toArray 27))
    rw[<-iq] at dS
    have ey:Below f.heap.size f B:=by rw[iq];exact ek
    have uk:B.heap.size=f.heap.size+1:=ycB
    have gF:=IsN.of (Fx.nod 8 T.data.toList [t,H]) (some ⟨f.heap.size,0,none⟩) 2 2
    have mz:Nd B B6 X:=qq.on ey
    have MJ:(ve (.pointer (some ⟨B6,0,none⟩)) (.agg #[.int .i64 8,.int .u64 0,.string T,.bool false,.int .i64 0,.int .i64 0,.int .i64 0,.bool false,.bool false,.int .i64 0,.int .i64 0,.bool false,.bool false,.slice (some ⟨f.heap.size,0,none⟩) 2 2])).run prog B= .ok () (nput B B6 (.agg #[.int .i64 8,.int .u64 0,.string T,.bool false,.int .i64 0,.int .i64 0,.int .i64 0,.bool false,.bool false,.int .i64 0,.int .i64 0,.bool false,.bool false,.slice (some ⟨f.heap.size,0,none⟩) 2 2])):=jP mz gF
    have IG:=mz.put gF
    have Cx: ∃ A',TreeX (nput B B6 (.agg #[.int .i64 8,.int .u64 0,.string T,.bool false,.int .i64 0,.int .i64 0,.int .i64 0,.bool false,.bool false,.int .i64 0,.int .i64 0,.bool false,.bool false,.slice (some ⟨f.heap.size,0,none⟩) 2 2])) A' (.agg #[.int .i64 8,.int .u64 0,.string T,.bool false,.int .i64 0,.int .i64 0,.int .i64 0,.bool false,.bool false,.int .i64 0,.int .i64 0,.bool false,.bool false,.slice (some ⟨f.heap.size,0,none⟩) 2 2]) (Fx.nod 8 i.text [t,H])/\ ∀ k,A' k->w.heap.size<k/\k<B.heap.size/\k≠B6:=by
     rw[<-iF.out];obtain⟨A2,t21,t22⟩:=Zn.out;have e1:TreeX f (fun k=>A k∨A2 k) X t:=pU.out.kept (fun k h=>Or.inl h) (fun k d=>by have:=U.out k d;exact fU k aG aG aG);have e2:TreeX f (fun k=>A k∨A2 k) J H:=t21.kept (fun k h=>Or.inr h) (fun k d=>by rw[G];exact uz (by have:=t22 k d;omega) J)
     have e3:=TreeX.two e1 e2 HC.out Ag.out (fun k d=>by
      rcases d with d|d
      ·have:=U.out k d;have:=Q.size;omega
      ·have:=t22 k d;omega) 8 T
     rw[<-iq] at e3;have Wj:=Q.size;have Cg:=M.out.size;refine⟨_,e3.kept (fun _ h=>h) (fun k d=>uz ?_ _),fun k d=>?_⟩
     ·rcases d with (d|d)|d
      ·exact(U.out k d).2.2
      ·have:=t22 k d;omega
      ·omega
     ·rcases d with (d|d)|d
      ·have:=U.out k d;omega
      ·have:=t22 k d;omega
      ·omega
    obtain⟨z,Y⟩:=bx (nput B B6 (.agg #[.int .i64 8,.int .u64 0,.string T,.bool false,.int .i64 0,.int .i64 0,.int .i64 0,.bool false,.bool false,.int .i64 0,.int .i64 0,.bool false,.bool false,.slice (some ⟨f.heap.size,0,none⟩) 2 2]))
    rw[<-Y] at MJ Cx
    have MB:z.heap.size=B.heap.size:=by rw[Y];exact yI _ _ _
    have nA:Below B6 B z:=by rw[Y];exact yH _ cm
    have jh:yeG p g b D L S n op l w B6 r (.bool P.fine) z:=by
     obtain⟨A',e1,e2⟩:=Cx;have e3:Nd z B6 (.agg #[.int .i64 8,.int .u64 0,.string T,.bool false,.int .i64 0,.int .i64 0,.int .i64 0,.bool false,.bool false,.int .i64 0,.int .i64 0,.bool false,.bool false,.slice (some ⟨f.heap.size,0,none⟩) 2 2]):=by rw[Y];exact IG
     have e4:Nd z w.heap.size znv:=((ic.out.two Q eO cD).on ey).of (by rw[Y];exact uz M6 _);have e5:Two p b w z:=((uJ.out.trans Q).trans (Two.of ey)).own (nA.mono aG)
     have e6:Left z p g b D L S op P H:=by
      have a1:=iG.out;have a2:Left f p g b D L S op P H:=by rw[G];exact a1.below (yH (C:=p+1) J aG) (VB p)
      exact(a2.below ey aG).below nA aG
     rcases Q3 P with ⟨u,v,er,ef⟩|⟨x,q,er,ef⟩
     ·rw[er] at e6;obtain⟨rfl,qe⟩:=(show H=u/\Ps z p g b D L S v op from e6);refine⟨.ok (Fx.nod 8 i.text [t,H]) v,_,_,A',by rw[er];try rfl,?_,⟨rfl,qe⟩,e1,fun k d=>by have:=e2 k d;omega,e3,e4,e5,?_⟩
      ·have:=JV.out;rw[er] at this;exact this
      ·intro a c e;injection e with _ e;have:=JK.out _ _ er;have:=DW.out;rw[<-e];omega
     ·rw[er] at e6;refine⟨.er x q,_,Fx.nod 8 i.text [t,H],A',by rw[er];try rfl,?_,e6,e1,fun k d=>by have:=e2 k d;omega,e3,e4,e5,fun a c e=>by cases e⟩;have:=JV.out;rw[er] at this;exact this
    have xq:yr S p (.bool P.fine) z<yr S p (.bool true) wr:=by
     rw[Oq tU.out];obtain⟨rr,X',t',A',e0,e1,e2, -⟩:=jh;rcases Q3 P with ⟨u,v,er,ef⟩|⟨x,q,er,ef⟩
     ·rw[ef];have e0':rr.fine=true:=by rw[ef] at e0;injection e0 with e0;exact e0.symm
      have a1:=iG.out;rw[er] at a1;have a2:Ps z p g b D L S v op:=((a1.2.below (show Below (p+1) w5 f by rw[G];exact yH J aG) (VB p)).below ey aG).below nA aG;rw[Oq a2];have:=JK.out _ _ er;have:=DW.out;omega
     ·rw[ef,ynU];omega
    obtain⟨tW,JG⟩:=dY jh xq
    rw[<-G]
    clear jh xq G iq Y Cx IG mz qq gF ey nA Q fU Sa vm uk MB MH
    go_wp2_with fail
    exact⟨tW.out,JG.out⟩
   ·have dJ:r= .ok t j:=by
     have:=D8.out;rw[show(Rs.ok t j).bind (Fx.vF D L n op)=Fx.vF D L n op t j from rfl,Fx.XV op t j s h5,<-ib.out,bv mo] at this;exact this.symm
    have IJ:=kh.out.on M.out
    have fZ:=ic.out.on M.out
    have lF:=fx IJ
    have dg:=jP fZ HC.out
    have gM:RetP p g b D L S op r w (.returned (.tuple #[X,.bool true])) (nput m w.heap.size X):=by rw[dJ];refine RetP.of (A:=A) (pU.out.kept (fun _ h=>h) (fun k d=>M.out.block k (U.out k d).2.1)) (fun k d=>?_) (uJ.out.trans (Two.of M.out)) ⟨rfl,dU.out⟩ cm pl rfl;have:=U.out k d;have:=M.out.size;exact⟨by omega,by omega,by omega⟩
    have HF:=aL gM;have dy:=aL (fZ.put HC.out)
    clear gM IJ fZ dJ
    by_cases y:i.kind=5
    ·have q1:(K != 5)=false:=by rw[Qk.out,y];rfl
     have q2:((lv:Int) != (n:Int))=true:=by rw[rZ,Uu.out];intro e;exact mo ⟨y,by omega⟩
     clear mo y
     go_wp2_with (first|(go_at_call 50;refine cY (qH.out _) ?_))
     exact lS results40 es es dy.out HF.out
    ·have q1:(K != 5)=true:=by rw[rZ,Qk.out];intro e;exact y aG
     clear mo y
     go_wp2_with fail
     exact lS results40 es es dy.out HF.out
end

section
open Fx (Tr Rs Tk)
attribute [local go_sem ↓] qh qn xy xc
def Pe.setOpen {w:World} {p g b:Nat} {D L:UInt8} {S:ByteArray} {x:Int} {q:List UInt8} (h:Pe w p g b D L S x q) (z:Int):Pe (w.setCell ⟨p,3,none⟩ (.int .i64 z)) p g b D L S x q:=by obtain⟨⟨i,o,m⟩,f,d,c,a⟩:=h;have e:Onl p w (w.setCell ⟨p,3,none⟩ (.int .i64 z)):=(Onl.refl p w).setCell 3 _;exact⟨⟨i,z,m.set 3 _⟩,f.below e.below d c a,d,c,a⟩
def Ps.setOpen {w:World} {p g b:Nat} {D L:UInt8} {S:ByteArray} {l:List UInt8} {op:Nat} (h:Ps w p g b D L S l (op+1)):Ps (w.setCell ⟨p,3,none⟩ (.int .i64 op)) p g b D L S l op:=by have a:Onl p w (w.setCell ⟨p,3,none⟩ (.int .i64 op)):=(Onl.refl p w).setCell 3 _;exact⟨h.mem.set 3 _,h.fo.below a.below h.gp h.bp h.ep,h.gp,h.bp,h.ep,h.suf,h.hz,by have:=h.opl;omega⟩
def Left.setOpen {w:World} {p g b:Nat} {D L:UInt8} {S:ByteArray} {op:Nat} {r:Rs} {t:Tr} (h:Left w p g b D L S (op+1) r t): ∃ o:Int,w.cell? ⟨p,3,none⟩=some (.int .i64 o)/\w.frozen? ⟨p,3,none⟩=false/\p<w.heap.size/\(r.fine=true->o=(op:Int)+1)/\
 ∀ z:Int,(r.fine=true->z=op)->Left (w.setCell ⟨p,3,none⟩ (.int .i64 z)) p g b D L S op r t:=by
 unfold Left at h
 cases r with
 |ok t' l=>
  refine⟨(op:Int)+1,h.2.mem.get 3 rfl,h.2.mem.frozen 3,h.2.mem.lt,fun _=>rfl,fun z hz=>?_⟩
  rw[hz rfl]
  exact⟨h.1,h.2.setOpen⟩
 |er x q=>
  obtain⟨i,o,m⟩:=(show Pe w p g b D L S x q from h).mem
  exact⟨o,m.get 3 rfl,m.frozen 3,m.lt,(fun h=>by cases h),fun z _=>Pe.setOpen h z⟩
def yhC:Fx.eT [43]=3:=bL
def ynT (p g b:Nat) (D L:UInt8) (S:ByteArray) (op:Nat) (l:List UInt8) (hk:(Fx.tok D L l).kind =5/\Fx.eT (Fx.tok D L l).text =3) (hU: ∀ uV l',l'.length<l.length->L8 p g b D L S uV l'):L8 p g b D L S op l:=by
 intro w h;rw[Fx.J5,bT hk];have y:=Fx.oV (D:=D) (L:=L) (l:=l) hk.1;have v:=Fx.SH D L l;refine Er ?_;intro ht tk aX;rw[<-aX] at ht;unfold tokV tkv at ht;refine Ah ?_;intro K hK F hF N hN T ce E dB;rw[<-hK,<-hF,<-hN,<-ce,<-dB] at ht;have x:T.data.toList=tk.text:=XE;have f:=fun W=>Es T W;rw[x] at f;have i:=fun W=>Es ⟨#[43]⟩ W;rw[show Fx.eT (⟨#[43]⟩:ByteArray).data.toList =3 from yhC] at i;obtain⟨lv,u⟩:=bx (Fx.eT tk.text);rw[<-u] at f;refine yb6 ?_;intro pl bp b0 d0;rw[<-aX] at y v hk ⊢;have H:N=(S.size-tk.end'.length:Nat):=by rw[hN,bv aG]
 have q1:(K==5)=true:=Sr;have q2:((lv:Int)==3)=true:=by rw[u,hk.2];rfl
 by_cases J:op=100
 ·subst J;rw[bT rfl];have j:=fun w1 (hb:Below w.heap.size w w1)=>yeQ (h.on hb) K N E F T tk.at' hF;obtain⟨HT,U,G,B0,D0,C,HP⟩:=zo ht f i b0 d0 j h;clear ht f i b0 d0 j h hK hF hN ce dB x u aX H y v hk hU;go_enter func57,ntmps57
  go_upto_region 2 with (first|(go_at_call 41;refine yU ?_;intro w2 hb2))
  refine zw ?_;intro aP bM Z2 da cZ bO cJ dL H2 eZ j';rw[<-eZ] at cZ ⊢;refine zd ?_;intro z0 z1 z2 z3 z4 zl HB dU gc qK;clear da eZ dL cZ hb2 aP bM cJ bO;go_upto_region 4 with (first|(go_at_call 50;refine cY (U.out _) ?_)|(go_at_call 50;refine cY (G.out _) ?_)|(go_at_call 90;refine cV (C.out _ HB.out) ?_;rintro e w3 ⟨rfl,dx,fy⟩;obtain⟨fg,fR⟩:=dY dx fy;clear dx fy))
  have ct:Nd w3 w.heap.size znv:=gc.out.of (fg.out.block _ aG aG);have dg:=xr ct;have fZ:=aL ct.putZero;go_wp2_with fail
  refine lS results57 es es fZ.out ?_;exact RetP.bad ((Two.of HB.out).trans (Two.onl fg.out)) fR.out cm pl
 ·rw[bv J];have cf:op<100:=by have:=h.opl;omega
  have j:=fun w1 (hb:Below w.heap.size w w1)=>ydG (h.on hb) cf K N E F T (v.trans h.suf) H;obtain⟨r1,dH⟩:=bx (Fx.yA D L (op+1) tk.end');have s:=hU (op+1) tk.end' y;unfold L8 at s;rw[<-dH] at s ⊢;have i1:(op:Int)<=99:=aG;obtain⟨HT,U,G,B0,D0,C,HP,Zj,iF⟩:=yav ht f i b0 d0 j h s x;clear ht f i b0 d0 j h hK hF hN ce dB x u aX H y v hk hU J s dH;go_enter func57,ntmps57
  go_upto_region 2 with (first|(go_at_call 41;refine yU ?_;intro w2 hb2))
  refine zw ?_;intro aP bM Z2 da cZ bO cJ dL H2 eZ j';rw[<-eZ] at cZ ⊢;refine zd ?_;intro z0 z1 z2 z3 z4 zl HB dU gc qK;clear da eZ dL cZ hb2 aP bM cJ bO;go_upto_region 6 with (first|(go_at_call 50;refine cY (U.out _) ?_)|(go_at_call 50;refine cY (G.out _) ?_)|(go_at_call 90;refine cV (C.out _ HB.out) ?_;refine vb ?_;intro w3 fg fR fb)|(go_at_call 57;refine cV (Zj.out _ fR.out) ?_;rintro e w5 ⟨X1,t1,rfl,M,O,fq⟩;obtain⟨cs,Q⟩:=M.isN;have nc:=jP (Nd.zero w5) Q;(unfold jg at nc);obtain⟨DI,X,pY,iP⟩:=jv M O fq Q;have kA:=O.size;clear M O fq Q))
  refine yhO ?_;intro Z5 fV rg kc B5 jp;rw[<-jp] at rg kc ⊢;have oC:p<B5:=DD;have Od:H2<B5:=DD;have V:=pY.out.below kc oC;obtain⟨o,o1,o2,o3,o4,Z⟩:=V.setOpen;have nF:Two p b w Z5:=(((Two.of HB.out).trans (Two.onl fg.out)).trans X.out).own (kc.mono aG)
  have fk: ∀ k,k≠p->k≠b->k<H2+1->Z5.heap[k]? =Z2.heap[k]? :=fun k h1 h2 h3=>by rw[kc.block k aG,X.out.block k h1 h2 aG,fg.out.block k h1 aG]
  have nB: ∃ A,TreeX Z5 A X1 t1/\ ∀ k,A k->w.heap.size<k/\k<B5:=by obtain⟨A,q,a2⟩:=DI.out;exact⟨A,q.kept (fun _ h=>h) (fun k hk=>kc.block k Ia),fun k hk=>by have:=a2 k hk;omega⟩
  obtain⟨nQ,E4,Y,mU,jw,nM⟩:=ts nF fk nB rg o4 Z;have Em:=mU.out.lt;clear fV jp kc V nF fk nB rg nc o4 Z;rcases Q3 r1 with ⟨u1,l1,er,m⟩|⟨x1,Aq,er,m⟩
  ·have he:=jw.out m;subst he;rw[m];go_upto_region 7 with (fail)
   obtain⟨W6,ej⟩:=bx (Z5.setCell ⟨p,3,none⟩ (.int .i64 (op:Int)));have lH:=nM.out (op:Int) (fun _=>rfl);rw[<-ej] at lH;refine ya8 ?_;intro fU vm kP;refine yiw ?_;intro y3 lF dS W7 iq;rw[<-iq] at dS;refine ymk ?_;intro ey uk gF ct dg fG oX nX
   obtain⟨A,d,c⟩: ∃ A,TreeX W7 A (.agg #[.int .i64 7,.int .u64 0,.string T,.bool false,.int .i64 0,.int .i64 0,.int .i64 0,.bool false,.bool false,.int .i64 0,.int .i64 0,.bool false,.bool false,.slice (some ⟨W6.heap.size,0,none⟩) 1 1]) (Fx.nod 7 tk.text [t1])/\ ∀ k,A k->w.heap.size<=k/\k<W7.heap.size/\k≠w.heap.size:=by
    rw[<-iF.out];obtain⟨A,q,a2⟩:=Y.out;have P:TreeX W6 A X1 t1:=q.kept (fun _ h=>h) (fun k hk=>fU k Ia);have n:=TreeX.one P iP.out (fun k hk=>by have:=a2 k hk;omega) 7 T;rw[<-iq] at n;refine⟨_,n,fun k hk=>?_⟩;rcases hk with hk|hk
    ·have:=a2 k hk;omega
    ·omega
   obtain⟨I,B,z,R⟩:=jv d c nX oX;rw[<-ej];clear ej lH fU kP iq gF ct ey oX nX d c vm uk;go_wp2_with fail
   refine lS results57 es es fG.out ?_;have d:=I.out;have c:=B.out;have nX:=z.out;have oX:=R.out;obtain⟨rfl,dC⟩:=(show t1=u1/\Ps W7 p g b D L S l1 op by first|exact oX|(rw[er] at oX;exact oX));(try rw[er]);exact RetP.of (r:= .ok (Fx.nod 7 tk.text [t1]) l1) (t:=Fx.nod 7 tk.text [t1]) d c nX ⟨rfl,dC⟩ cm pl rfl
  ·rw[m];go_upto_region 7 with (fail)
   obtain⟨W6,ej⟩:=bx (Z5.setCell ⟨p,3,none⟩ (.int .i64 (wrap64 (o-1))));have lH:=nM.out (wrap64 (o-1)) (fun h=>by rw[m] at h;cases h);rw[<-ej] at lH;refine ya8 ?_;intro fU vm kP;refine yiw ?_;intro y3 lF dS W7 iq;rw[<-iq] at dS;refine ymk ?_;intro ey uk gF ct dg fG oX nX
   obtain⟨A,d,c⟩: ∃ A,TreeX W7 A (.agg #[.int .i64 7,.int .u64 0,.string T,.bool false,.int .i64 0,.int .i64 0,.int .i64 0,.bool false,.bool false,.int .i64 0,.int .i64 0,.bool false,.bool false,.slice (some ⟨W6.heap.size,0,none⟩) 1 1]) (Fx.nod 7 tk.text [t1])/\ ∀ k,A k->w.heap.size<=k/\k<W7.heap.size/\k≠w.heap.size:=by
    rw[<-iF.out];obtain⟨A,q,a2⟩:=Y.out;have P:TreeX W6 A X1 t1:=q.kept (fun _ h=>h) (fun k hk=>fU k Ia);have n:=TreeX.one P iP.out (fun k hk=>by have:=a2 k hk;omega) 7 T;rw[<-iq] at n;refine⟨_,n,fun k hk=>?_⟩;rcases hk with hk|hk
    ·have:=a2 k hk;omega
    ·omega
   obtain⟨I,B,z,R⟩:=jv d c nX oX;rw[<-ej];clear ej lH fU kP iq gF ct ey oX nX d c vm uk;go_wp2_with fail
   refine lS results57 es es fG.out ?_;have d:=I.out;have c:=B.out;have nX:=z.out;have oX:=R.out;(try rw[er] at oX);(try rw[er]);exact RetP.of (r:= .er x1 Aq) (t:=Fx.nod 7 tk.text [t1]) d c nX oX cm pl rfl
end

section
open Fx (Tr Rs Tk)
attribute [local go_sem ↓] qh qn xy xc
def L2 (D L c:UInt8) (l:List UInt8):Hw D L l [⟨#[c]⟩]=decide ((Fx.tok D L l).kind =5/\(Fx.tok D L l).text =[c]):=by
 unfold Hw
 have:Lib.containsS [⟨#[c]⟩] ⟨(Fx.tok D L l).text.toArray⟩=decide ((Fx.tok D L l).text =[c]):=by
  rw[vs,Lib.containsS_iff,kF,SY];constructor
  ·intro e;have:=dZ (fun s:ByteArray=>s.data.toList) e;simpa using this
  ·intro e;rw[e]
 rw[this,Bool.decide_and]
def yf8 (p g b:Nat) (D L:UInt8) (S:ByteArray) (op:Nat) (w:World) (c:Nat) (r:Rs) (ok:Value) (wr:World):Prop:=
 ∃ (a:Rs) (X:Value) (t:Tr) (A:Nat->Prop),ok= .bool a.fine/\a.bind (Fx.vj D L)=r/\Left wr p g b D L S op a t/\TreeX wr A X t/\(∀ k,A k->w.heap.size<k/\k<wr.heap.size/\k≠c)/\
   Nd wr c X/\Nd wr w.heap.size znv/\Two p b w wr
def yr6 (p g b:Nat) (D L:UInt8) (S:ByteArray) (op:Nat) (l:List UInt8) (a: ¬ ((Fx.tok D L l).kind =5/\Fx.eT (Fx.tok D L l).text =3)) (hP:A7 p g b D L S op l):L8 p g b D L S op l:=by
 intro w h;rw[Fx.J5,bv a];refine Er ?_;intro ht tk aX;rw[<-aX] at ht;unfold tokV tkv at ht;refine Ah ?_;intro K hK F hF N hN T ce E dB;rw[<-hK,<-hF,<-hN,<-ce,<-dB] at ht;have bH:T.data.toList=tk.text:=XE;have G:=fun W=>Es T W;rw[bH] at G;have P:=fun W=>Es ⟨#[43]⟩ W;rw[show Fx.eT (⟨#[43]⟩:ByteArray).data.toList =3 from yhC] at P;obtain⟨lv,ji⟩:=bx (Fx.eT tk.text);rw[<-ji] at G;refine yb6 ?_;intro pl bp b0 d0;rw[<-aX] at a;obtain⟨m,jf⟩:=bx (Fx.vz D L op l);have mJ:=fun w1 (hb:Below w.heap.size w w1)=>hP w1 (h.on hb);rw[<-jf] at mJ ⊢;obtain⟨r,hr⟩:=bx (m.bind (Fx.vj D L));rw[<-hr]
 have jE:((K==5)=true/\((lv:Int)==3)=false)∨(K==5)=false:=by
  by_cases k5:tk.kind=5
  ·refine .inl ⟨by rw[hK,k5];rfl,?_⟩;rw[gN,ji];intro e;exact a ⟨k5,by omega⟩
  ·refine .inr ?_;rw[gN,hK];intro e;exact k5 aG
 obtain⟨HT,O,pi,B0,D0,HP,xY,HR⟩:=W5 ht G P b0 d0 h mJ hr;clear ht G P b0 d0 h hK hF hN ce dB bH ji aX a mJ hr jf;go_enter func57,ntmps57
 go_upto_region 2 with (first|(go_at_call 41;refine yU ?_;intro w2 hb2))
 refine zw ?_;intro aP bM Z2 da cZ bO cJ dL H2 eZ j';rw[<-eZ] at cZ ⊢;refine zd ?_;intro z0 z1 z2 z3 z4 zl HB dU gc qK;clear da eZ dL cZ hb2 aP bM cJ bO;rcases jE with ⟨q1,q2⟩|q1
 all_goals
  go_wp2_with (first|(go_at_call 50;refine cY (O.out _) ?_)|(go_at_call 50;refine cY (pi.out _) ?_)|(go_at_call 91;refine cV (xY.out _ HB.out) ?_;rintro e w1 ⟨X1,t1,rfl,fF,J,fq⟩;have D1:=gc.out.two J aG aG;obtain⟨cs,u⟩:=fF.isN;have M:=jP (Nd.zero w1) u;(unfold jg at M);obtain⟨hT,hL,h2,wV,QA⟩:=qF fF fq J D1 u;have cH:=J.size;clear fF fq J D1 u))
  obtain⟨Z,hZ⟩:=bx (nput (w1.alloc jg) w1.heap.size X1)
  have s:Below w1.heap.size w1 Z:=yb5
  have hrel:yf8 p g b D L S op w w1.heap.size r (.bool m.fine) Z:=by obtain⟨A,gi,I⟩:=hT.out;refine⟨m,X1,t1,A,rfl,HR.out.symm,hL.out.below s aG,gi.kept (fun _ h=>h) (fun k a=>s.block k (I k a).2),fun k a=>⟨by have:=I k a;omega,by have:=I k a;have:=s.size;omega,by have:=I k a;omega⟩,by rw[hZ];exact(Nd.zero w1).put QA.out,wV.out.below s aG,((Two.of HB.out).trans h2.out).own (s.mono aG)⟩
  unfold jg at hZ
  obtain⟨d,De⟩:=bx (w1.heap.size)
  rw[<-hZ]
  have Kg:w.heap.size<d:=aG
  rw[<-De] at hrel ⊢
  have tT:=aL hrel
  have M6:w.heap.size≠d:=aG
  have Kl:d≠p:=aG
  have nV:d≠b:=aG
  have eO:w.heap.size≠p:=aG
  have cD:w.heap.size≠b:=aG
  have mS:=aL Kg
  clear hrel hZ De s M cH Kg
  go_loopw [10] (fun _ wr=>yf8 p g b D L S op w d r (.bool m.fine) wr) (fun _ wr=>yr S p (.bool m.fine) wr)
  case atStart=>exact tT.out
  case round=>
   obtain⟨rr,X,t,A,f,nz,nD,U,hA,Tg,ct,jZ⟩:=hrel
   have f:=Value.bool.inj f
   obtain⟨cs,u⟩:=U.isN
   obtain⟨y,pU,nO,H,R,v,O,D8⟩:=W5 hA U Tg ct jZ u nD nz
   have GG:=jZ.size
   have Kg:=mS.out
   clear hA U Tg ct jZ u nD nz
   cases rr with
   |er x q=>
    have lF:=fx nO.out
    have M:=jP H.out v.out
    rw[show m.fine=false from f]
    clear f
    go_wp2_with fail
    refine lS results57 es es (H.out.put v.out) ?_
    have he:r= .er x q:=D8.out.symm
    rw[he]
    exact RetP.of pU.out (fun k a=>by have:=y.out k a;exact⟨by omega,by omega,by omega⟩) R.out O.out cm pl rfl
   |ok t' c=>
    obtain⟨rfl,dC⟩:=(show t=t'/\Ps wr p g b D L S c op from O.out)
    have f:m.fine=true:=f
    rw[f]
    have HFE:=aL f;clear f
    have im:Below wr.heap.size wr (wr.alloc (Obj.cells #[.string ⟨#[37]⟩] 9)):=ek
    have aX:=K4 (dC.on im) wr.heap.size [⟨#[37]⟩] 1 rfl bL (fun j hj=>by
     have mj:j=0:=Jb;subst mj
     exact(Cs.new wr [.string ⟨#[37]⟩] 9).2 0 cn) cn
    rw[L2] at aX
    obtain⟨is,Y⟩:=bx (decide ((Fx.tok D L c).kind =5/\(Fx.tok D L c).text =[37]))
    rw[<-Y] at aX
    unfold Am tokV tkv at aX
    obtain⟨K2,iD⟩:=bx ((Fx.tok D L c).kind :Int)
    obtain⟨F2,kN⟩:=bx ((S.size-(Fx.tok D L c).at'.length :Nat):Int)
    obtain⟨N2,iU⟩:=bx ((if(Fx.tok D L c).kind =6 then(0:Int) else((S.size-(Fx.tok D L c).end'.length :Nat):Int)):Int)
    obtain⟨T2,ir⟩:=bx (⟨(Fx.tok D L c).text.toArray⟩:ByteArray)
    obtain⟨E2,jo⟩:=bx ((Fx.tok D L c).exp :Int)
    rw[<-iD,<-kN,<-iU,<-ir,<-jo] at aX
    obtain⟨ke,tU,Ad,ui⟩:=jv aX dC Y im
    clear aX dC Y im iD kN iU ir jo
    go_upto_region 11 with (first|(go_at_call 92;refine cV ke.out ?_;rintro e w3 ⟨rfl,dx,B⟩;obtain⟨fg,fR⟩:=dY dx B;have fb:=dx.size;clear dx B))
    obtain⟨Z3,Q⟩:=bx (w3.alloc (Obj.cells #[.int .i64 K2,.int .i64 F2,.int .i64 N2,.string T2,.int .i64 E2] 77))
    have aU:Below w3.heap.size w3 Z3:=by rw[Q];exact ek
    have nh:wr.heap.size<w3.heap.size:=by rw[i7] at fb;omega
    have o:Two p b wr Z3:=((Two.of ui.out).trans (Two.onl fg.out)).trans (Two.of aU)
    have B:=fR.out.on aU
    have Q4:=tU.out.mem.lt
    have b7r:=nO.out.lt
    have YC:=H.out.lt
    have IE:Nd Z3 d X:=nO.out.two o Kl nV
    have gQ:Nd Z3 w.heap.size znv:=H.out.two o eO cD
    have Wi:=o.size
    have Iu:TreeX Z3 A X t:=pU.out.kept (fun _ h=>h) (fun k a=>by have:=y.out k a;exact o.block k aG aG this.2.1)
    rw[<-Q]
    obtain⟨kY,Ju,DS,V,Jc⟩:=qF o B IE gQ Iu
    clear Q aU o B IE gQ Iu fb
    cases is with
    |false=>
     have dJ:r= .ok t c:=by have:=D8.out;rw[show(Rs.ok t c).bind (Fx.vj D L)=Fx.vj D L t c from rfl,Fx.XF,bv (by simpa using Ad.out)] at this;exact this.symm
     have lF:=fx DS.out
     have M:=jP V.out v.out
     have Jr:=aL dJ
     clear dJ
     go_wp2_with fail
     refine lS results57 es es (V.out.put v.out) ?_
     rw[Jr.out]
     exact RetP.of Jc.out (fun k a=>by have:=y.out k a;exact⟨by omega,by omega,by omega⟩) (R.out.trans kY.out) ⟨rfl,Ju.out⟩ cm pl rfl
    |true=>
     have fk:(Fx.tok D L c).kind =5/\(Fx.tok D L c).text =[37]:=by simpa using Ad.out.symm
     have aR:=Fx.oV fk.1
     have Im:(Rs.ok (Fx.nod 9 [37] [t]) (Fx.tok D L c).end').bind (Fx.vj D L)=r:=by have:=D8.out;rw[show(Rs.ok t c).bind (Fx.vj D L)=Fx.vj D L t c from rfl,Fx.XF,bT fk] at this;exact this
     have lF:=fx DS.out
     have dS:=W4 v.out Z3
     obtain⟨i,iq⟩:=bx (Z3.alloc (Obj.cells cs.toArray 27))
     rw[<-iq] at dS
     have z:Below Z3.heap.size Z3 i:=by rw[iq];exact ek
     have uk:i.heap.size=Z3.heap.size+1:=ycB
     have gF:=IsN.of (Fx.nod 9 [37] [t]) (some ⟨Z3.heap.size,0,none⟩) 1 1
     have CO:Nd i d X:=DS.out.on z
     have MI:(ve (.pointer (some ⟨d,0,none⟩)) (.agg #[.int .i64 9,.int .u64 0,.string ⟨#[37]⟩,.bool false,.int .i64 0,.int .i64 0,.int .i64 0,.bool false,.bool false,.int .i64 0,.int .i64 0,.bool false,.bool false,.slice (some ⟨Z3.heap.size,0,none⟩) 1 1])).run prog i= .ok () (nput i d (.agg #[.int .i64 9,.int .u64 0,.string ⟨#[37]⟩,.bool false,.int .i64 0,.int .i64 0,.int .i64 0,.bool false,.bool false,.int .i64 0,.int .i64 0,.bool false,.bool false,.slice (some ⟨Z3.heap.size,0,none⟩) 1 1])):=jP CO gF
     have CN:Nd (nput i d (.agg #[.int .i64 9,.int .u64 0,.string ⟨#[37]⟩,.bool false,.int .i64 0,.int .i64 0,.int .i64 0,.bool false,.bool false,.int .i64 0,.int .i64 0,.bool false,.bool false,.slice (some ⟨Z3.heap.size,0,none⟩) 1 1])) d (.agg #[.int .i64 9,.int .u64 0,.string ⟨#[37]⟩,.bool false,.int .i64 0,.int .i64 0,.int .i64 0,.bool false,.bool false,.int .i64 0,.int .i64 0,.bool false,.bool false,.slice (some ⟨Z3.heap.size,0,none⟩) 1 1]):=CO.put gF
     obtain⟨C,n⟩:=bx (nput i d (.agg #[.int .i64 9,.int .u64 0,.string ⟨#[37]⟩,.bool false,.int .i64 0,.int .i64 0,.int .i64 0,.bool false,.bool false,.int .i64 0,.int .i64 0,.bool false,.bool false,.slice (some ⟨Z3.heap.size,0,none⟩) 1 1]))
     rw[<-n] at MI CN
     have MB:C.heap.size=i.heap.size:=by rw[n];exact yI _ _ _
     have nA:Below d i C:=by rw[n];exact yH _ cm
     have OD:Ps C p g b D L S (Fx.tok D L c).end' op:=(Ju.out.below z aG).below nA aG
     have jh:yf8 p g b D L S op w d r (.bool true) C:=by
      have e3:=TreeX.one Jc.out v.out (fun k a=>by have:=y.out k a;omega) 9 ⟨#[37]⟩;rw[<-iq] at e3;refine⟨.ok (Fx.nod 9 [37] [t]) (Fx.tok D L c).end',_,_,_,rfl,Im,⟨rfl,OD⟩,e3.kept (fun _ h=>h) (fun k a=>?_),fun k a=>?_,CN,(V.out.on z).of (by rw[n];exact uz M6 _),((R.out.trans kY.out).trans (Two.of z)).own (nA.mono aG)⟩
      ·rw[n];refine uz ?_ _;rcases a with a|a
       ·exact(y.out k a).2.2
       ·omega
      ·rcases a with a|a
       ·have:=y.out k a;omega
       ·omega
     have xq:yr S p (.bool true) C<yr S p (.bool true) wr:=by rw[Oq tU.out,Oq OD];omega
     obtain⟨tW,JG⟩:=dY jh xq
     clear fk aR Im iq z uk gF CO CN n MB nA OD jh xq
     go_wp2_with fail
     exact⟨tW.out,JG.out⟩
end

section
open Fx (Tr Rs Tk)
attribute [local go_sem ↓] qh qn xy xc
def Fx.yZ (D L:UInt8) (op:Nat) (l:List UInt8):Rs:=
 if Lib.hasPrefix (Fx.tok D L l).end' [40]=true then(if Fx.oF (Ce.eY (Fx.tok D L l).text)=true then Fx.Hc D L op (Ce.eY (Fx.tok D L l).text) (Fx.tok D L l).end' else .er 8 (Fx.tok D L l).at') else Fx.word D L (Fx.tok D L l)
def Ba (p g b:Nat) (D L:UInt8) (S:ByteArray) (op:Nat) (l:List UInt8):Prop:= ∀ w,Ps w p g b D L S l op->Calls prog 121 #[.pointer (some ⟨p,0,none⟩),tokV S (Fx.tok D L l)] w (RetP p g b D L S op (Fx.yZ D L op l) w)
def Ps.turn {w w':World} {p g b:Nat} {D L:UInt8} {S:ByteArray} {l:List UInt8} {op:Nat} (h:Ps w p g b D L S l op) (a:Onl b w w') (c:Rdr w' b):Ps w' p g b D L S l op:=
 ⟨(a.block p (by have:=h.bp;omega) h.mem.lt).trans h.mem,h.fo.turn a c,h.gp,h.bp,h.ep,h.suf,h.hz,h.opl⟩
def yb1 {w:World} {p g b:Nat} {D L:UInt8} {S:ByteArray} {l:List UInt8} {op:Nat} (h:Ps w p g b D L S l op) (x A:Int) (q:List UInt8) (d:A=(S.size-q.length:Nat)):
 Calls prog 67 #[.pointer (some ⟨p,0,none⟩),.int .i64 x,.int .i64 A] w (fun e w'=>e= .returned (.bool false)/\Onl p w w'/\Pe w' p g b D L S x q):=
 (ybq p _ _ _ _ _ _ x A w h.mem).mono fun e w' ⟨f,c,a⟩=>⟨f,c,Pe.ybO h.fo h.gp h.bp h.ep c (by rw[d] at a;exact a)⟩
def TreeX.leaf (w:World) {t:Tr} (h:t.kids=[]):TreeX w (fun _=>False) (trv t (.slice none 0 0)) t:=⟨_,rfl,TreeS.leaf h⟩
def RetP.leaf {w W:World} {p g b B:Nat} {D L:UInt8} {S:ByteArray} {op:Nat} {t:Tr} {l:List UInt8} (c:t.kids=[]) (f:Two p b w W) (d:Ps W p g b D L S l op) (e:w.heap.size<=B) (a:p<w.heap.size):
 RetP p g b D L S op (.ok t l) w (.returned (.tuple #[trv t (.slice none 0 0),.bool true])) (nput W B (trv t (.slice none 0 0))):=
 RetP.of (r:= .ok t l) (t:=t) (TreeX.leaf _ c) (fun k h=>h.elim) f ⟨rfl,d⟩ e a rfl
def ysF (p g b:Nat) (D L:UInt8) (S:ByteArray) (op:Nat) (l:List UInt8) (hk:(Fx.tok D L l).kind =4):A7 p g b D L S op l:=by
 intro w h;rw[Fx.sS,bv aG,bv aG,bT hk];refine Er ?_;intro ht tk aX;rw[<-aX] at ht;unfold tokV tkv at ht;refine Ah ?_;intro K hK F hF N hN T ce E dB;rw[<-hK,<-hF,<-hN,<-ce,<-dB] at ht;refine M3 ?_;intro bH pl bp b0 d0 aR bP;rw[<-aX] at hk ⊢;have n6: ¬ tk.kind=6:=aG;have n:(K==1)=false:=zp;have m:(K==2)=false:=zp;have j:(K==4)=true:=zp;have c:(Rs.ok (.mk 4 0 [] false tk.exp Ce.zero Ce.zero []) tk.end')=Rs.ok (.mk 4 0 [] false E Ce.zero Ce.zero []) tk.end':=by rw[dB]
 rw[c];obtain⟨HT,B0,D0,HP,q,o,s,HN,lP⟩:=yav ht b0 d0 h bH aX hF hN bP;clear ht b0 d0 h bH aX hK hF hN ce dB aR bP c hk;go_enter func91,ntmps91
 go_upto_region 2 with (first|(go_at_call 41;refine yU ?_;intro w2 hb2))
 refine zw ?_;intro aP bM Z2 da cZ bO cJ dL H2 eZ j';rw[<-eZ] at cZ ⊢;refine zd ?_;intro z0 z1 z2 z3 z4 zl HB dU gc qK;clear da eZ dL cZ hb2 aP bM cJ bO;refine yhW ?_;intro p2 pf pz tD ct;have r:(ve (.pointer (some ⟨w.heap.size,0,none⟩)) (.agg #[.int .i64 4,.int .u64 0,.string ⟨#[]⟩,.bool false,.int .i64 E,.int .i64 0,.int .i64 0,.bool false,.bool false,.int .i64 0,.int .i64 0,.bool false,.bool false,.slice none 0 0])).run prog (Z2.setCell ⟨p,2,none⟩ (.int .i64 N))= .ok () (nput (Z2.setCell ⟨p,2,none⟩ (.int .i64 N)) w.heap.size (.agg #[.int .i64 4,.int .u64 0,.string ⟨#[]⟩,.bool false,.int .i64 E,.int .i64 0,.int .i64 0,.bool false,.bool false,.int .i64 0,.int .i64 0,.bool false,.bool false,.slice none 0 0])):=jP ct (IsN.of (.mk 4 0 [] false E Ce.zero Ce.zero []) none 0 0);have d:Nd (nput (Z2.setCell ⟨p,2,none⟩ (.int .i64 N)) w.heap.size (.agg #[.int .i64 4,.int .u64 0,.string ⟨#[]⟩,.bool false,.int .i64 E,.int .i64 0,.int .i64 0,.bool false,.bool false,.int .i64 0,.int .i64 0,.bool false,.bool false,.slice none 0 0])) w.heap.size (.agg #[.int .i64 4,.int .u64 0,.string ⟨#[]⟩,.bool false,.int .i64 E,.int .i64 0,.int .i64 0,.bool false,.bool false,.int .i64 0,.int .i64 0,.bool false,.bool false,.slice none 0 0]):=ct.put (IsN.of (.mk 4 0 [] false E Ce.zero Ce.zero []) none 0 0);have a:Two p b w (Z2.setCell ⟨p,2,none⟩ (.int .i64 N)):=Two.setL (Two.of HB.out) 2 _;obtain⟨f,i,e⟩:=iJ tD d a;clear tD ct d a;go_wp2_with fail
 refine lS results91 es es i.out ?_;exact RetP.leaf (t:= .mk 4 0 [] false E Ce.zero Ce.zero []) rfl e.out f.out cm pl
def yuQ (p g b:Nat) (D L:UInt8) (S:ByteArray) (op:Nat) (l:List UInt8) (hk:(Fx.tok D L l).kind =2):A7 p g b D L S op l:=by
 intro w h;rw[Fx.sS,bv aG,bT hk];refine Er ?_;intro ht tk aX;rw[<-aX] at ht;unfold tokV tkv at ht;refine Ah ?_;intro K hK F hF N hN T ce E dB;rw[<-hK,<-hF,<-hN,<-ce,<-dB] at ht;refine M3 ?_;intro bH pl bp b0 d0 aR bP;rw[<-aX] at hk ⊢;have n6: ¬ tk.kind=6:=aG;have z:(K==1)=false:=zp;have y:(K==2)=true:=zp;have f:T.size=tk.text.length:=yb4;by_cases a:1000<tk.text.length
 ·rw[bT a];have u:(1000:Int)<(T.size:Int):=aG;obtain⟨HT,B0,D0,HP,s,r,n,HN,lP⟩:=yav ht b0 d0 h bH aX hF hN bP;clear ht b0 d0 h bH aX hK hF hN ce dB aR bP hk f a;go_enter func91,ntmps91
  go_upto_region 2 with (first|(go_at_call 41;refine yU ?_;intro w2 hb2))
  refine zw ?_;intro aP bM Z2 da cZ bO cJ dL H2 eZ j';rw[<-eZ] at cZ ⊢;refine zd ?_;intro z0 z1 z2 z3 z4 zl HB dU gc qK;clear da eZ dL cZ hb2 aP bM cJ bO;have o:=aL (yb1 dU.out 4 F tk.at' n.out);go_wp2_with (first|(go_at_call 67;refine cV o.out ?_;rintro e w4 ⟨rfl,c,m⟩;have ct:=gc.out.of (c.block w.heap.size aG aG);have x:=xr ct;have dy:=aL ct.putZero;obtain⟨jw,o7⟩:=dY c m;clear c m ct))
  exact ykd
 ·rw[bv a];have u: ¬ (1000:Int)<(T.size:Int):=aG;have i:(Rs.ok (Fx.nod 2 tk.text []) tk.end')=Rs.ok (Fx.nod 2 T.data.toList []) tk.end':=by rw[bH]
  rw[i];obtain⟨HT,B0,D0,HP,s,r,n,HN,lP⟩:=yav ht b0 d0 h bH aX hF hN bP;clear ht b0 d0 h bH aX hK hF hN ce dB aR bP hk f a i;go_enter func91,ntmps91
  go_upto_region 2 with (first|(go_at_call 41;refine yU ?_;intro w2 hb2))
  refine zw ?_;intro aP bM Z2 da cZ bO cJ dL H2 eZ j';rw[<-eZ] at cZ ⊢;refine zd ?_;intro z0 z1 z2 z3 z4 zl HB dU gc qK;clear da eZ dL cZ hb2 aP bM cJ bO;refine yhW ?_;intro p2 pf pz tD ct;have x:(ve (.pointer (some ⟨w.heap.size,0,none⟩)) (.agg #[.int .i64 2,.int .u64 0,.string T,.bool false,.int .i64 0,.int .i64 0,.int .i64 0,.bool false,.bool false,.int .i64 0,.int .i64 0,.bool false,.bool false,.slice none 0 0])).run prog (Z2.setCell ⟨p,2,none⟩ (.int .i64 N))= .ok () (nput (Z2.setCell ⟨p,2,none⟩ (.int .i64 N)) w.heap.size (.agg #[.int .i64 2,.int .u64 0,.string T,.bool false,.int .i64 0,.int .i64 0,.int .i64 0,.bool false,.bool false,.int .i64 0,.int .i64 0,.bool false,.bool false,.slice none 0 0])):=jP ct (IsN.of (Fx.nod 2 T.data.toList []) none 0 0);have j:Nd (nput (Z2.setCell ⟨p,2,none⟩ (.int .i64 N)) w.heap.size (.agg #[.int .i64 2,.int .u64 0,.string T,.bool false,.int .i64 0,.int .i64 0,.int .i64 0,.bool false,.bool false,.int .i64 0,.int .i64 0,.bool false,.bool false,.slice none 0 0])) w.heap.size (.agg #[.int .i64 2,.int .u64 0,.string T,.bool false,.int .i64 0,.int .i64 0,.int .i64 0,.bool false,.bool false,.int .i64 0,.int .i64 0,.bool false,.bool false,.slice none 0 0]):=ct.put (IsN.of (Fx.nod 2 T.data.toList []) none 0 0);have d:Two p b w (Z2.setCell ⟨p,2,none⟩ (.int .i64 N)):=Two.setL (Two.of HB.out) 2 _;obtain⟨v,dy,q⟩:=iJ tD j d;clear tD ct j d;go_wp2_with fail
  refine lS results91 es es dy.out ?_;exact RetP.leaf (t:=Fx.nod 2 T.data.toList []) rfl q.out v.out cm pl
def yoW (p g b:Nat) (D L:UInt8) (S:ByteArray) (op:Nat) (l:List UInt8) (hk:(Fx.tok D L l).kind =3) (j:Ba p g b D L S op l):A7 p g b D L S op l:=by
 intro w h
 have i:Fx.vz D L op l=Fx.yZ D L op l:=by rw[Fx.sS,bv aG,bv aG,bv aG,bT hk];rfl
 rw[i];have a:=fun w1 (hb:Below w.heap.size w w1)=>j w1 (h.on hb);obtain⟨r,n⟩:=bx (Fx.yZ D L op l);unfold tokV tkv at a;rw[<-n] at a ⊢;refine Er ?_;intro ht tk aX;rw[<-aX] at ht;unfold tokV tkv at ht;refine Ah ?_;intro K hK F hF N hN T ce E dB;rw[<-hK,<-hF,<-hN,<-ce,<-dB] at ht;refine M3 ?_;intro bH pl bp b0 d0 aR bP;rw[<-aX] at hk a;rw[<-hK,<-hF,<-hN,<-ce,<-dB] at a;have H:(K==1)=false:=zp;have G:(K==2)=false:=zp;have B:(K==4)=false:=zp;have C:(K==3)=true:=zp;obtain⟨y,HT,B0,D0,HP,M,J,U,R,I⟩:=EG a ht b0 d0 h bH aX hF hN bP;clear ht b0 d0 h bH aX hK hF hN ce dB aR bP i hk a n j;go_enter func91,ntmps91
 go_upto_region 2 with (first|(go_at_call 41;refine yU ?_;intro w2 hb2))
 refine zw ?_;intro aP bM Z2 da cZ bO cJ dL H2 eZ j';rw[<-eZ] at cZ ⊢;refine zd ?_;intro z0 z1 z2 z3 z4 zl HB dU gc qK;clear da eZ dL cZ hb2 aP bM cJ bO;go_wp2_with (first|(go_at_call 121;refine cV (y.out _ HB.out) ?_;rintro e w4 ⟨Q,z,rfl,d,c,m⟩;have f:=gc.out.two c aG aG;obtain⟨cs,o⟩:=d.isN;have O:=jP f o;obtain⟨s,t,u⟩:=iJ d m c;have q:=aL (f.put o);have P:=c.size;clear d m c f))
 refine lS results91 es es q.out ?_;obtain⟨A,v,x⟩:=s.out;refine RetP.of v (fun k hk=>?_) ((Two.of HB.out).trans u.out) t.out cm pl rfl;have:=x k hk;exact⟨by omega,by omega,by omega⟩
def ynO (p g b:Nat) (D L:UInt8) (S:ByteArray) (op:Nat) (l:List UInt8) (i:(Fx.tok D L l).kind ≠1) (f:(Fx.tok D L l).kind ≠2) (d:(Fx.tok D L l).kind ≠3) (c:(Fx.tok D L l).kind ≠4) (a: ¬ ((Fx.tok D L l).kind =5/\(Fx.tok D L l).text =[40])):A7 p g b D L S op l:=by
 intro w h;rw[Fx.sS,bv i,bv f,bv c,bv d,bv a];unfold Fx.no;have j:=fun w1 (hb:Below w.heap.size w w1)=>Yq (h.on hb);refine Er ?_;intro ht tk aX;rw[<-aX] at ht;unfold tokV tkv at ht;refine Ah ?_;intro K hK F hF N hN T ce E dB;rw[<-hK,<-hF,<-hN,<-ce,<-dB] at ht;refine M3 ?_;intro bH pl bp b0 d0 aR bP;rw[<-aX] at i f d c a j ⊢;have B:(K==1)=false:=ybn;have A:(K==2)=false:=ybn;have z:(K==3)=false:=ybn;have y:(K==4)=false:=ybn
 have u:(K != 5)=true∨((K != 5)=false/\(!(T.toList==[40]))=true):=by
  by_cases o:tk.kind=5
  ·refine .inr ⟨by rw[hK,o];rfl,?_⟩;rw[sT,bH];simpa using fun e=>a ⟨o,e⟩
  ·exact .inl (by rw[rZ,hK];omega)
 obtain⟨t,HT,B0,D0,HP,H,G,M,J,C⟩:=EG j ht b0 d0 h bH aX hF hN bP;clear ht b0 d0 h bH aX hK hF hN ce dB aR bP i f d c a j;go_enter func91,ntmps91
 go_upto_region 2 with (first|(go_at_call 41;refine yU ?_;intro w2 hb2))
 refine zw ?_;intro aP bM Z2 da cZ bO cJ dL H2 eZ j';rw[<-eZ] at cZ ⊢;refine zd ?_;intro z0 z1 z2 z3 z4 zl HB dU gc qK;clear da eZ dL cZ hb2 aP bM cJ bO;have r:=t.out _ HB.out;have v:=aL r;clear r;rcases u with s|⟨s,x⟩
 all_goals
  go_wp2_with (first|(go_at_call 42;refine cV v.out ?_;rintro e w4 ⟨rfl,n,q⟩;have m:=gc.out.of (n.block w.heap.size aG aG);have I:=xr m;have dy:=aL m.putZero;obtain⟨jw,o7⟩:=dY n q;clear n q m))
  exact ykd
end

structure Wtr (w:World) (v b:Nat):Prop where
 cell:w.cell? ⟨v,0,none⟩=some (.pointer (some ⟨b,0,none⟩))
 lt:v<w.heap.size
 ne:v≠b
 rd:Rdr w b
def Wtr.on {w w':World} {v b:Nat} (h:Wtr w v b) (hb:Below w.heap.size w w'):Wtr w' v b:=
 ⟨(hb.cell (p:=⟨v,0,none⟩) h.lt).trans h.cell,eR h.lt hb.size,h.ne,h.rd.on hb⟩
def Wtr.onl {w w':World} {v b:Nat} (h:Wtr w v b) (a:Onl b w w') (c:Rdr w' b):Wtr w' v b:=
 ⟨(a.cell h.ne h.lt).trans h.cell,eR h.lt a.size,h.ne,c⟩
def NP (l:Dc.Bs):(⟨l.toArray⟩:ByteArray).data.toList =l:=rfl
def yrL (x:Nat) (w:World) (hx:x<18446744073709551616):Calls prog 79 #[.int .u64 x] w (Ret0 (.string ⟨(Fl.qk x).toArray⟩) w):=by
 have c:=fun w=>yam x hx w;obtain⟨K,a⟩:=bx (Fl.kind x);rw[<-a] at c;have HK:=aL c;by_cases b:K=4
 ·have hv:Fl.qk x=Fl.nanS:=by rw[Fl.qk,<-a,bT b]
  rw[hv];have f:((K:Int)==4)=true:=by rw[b];rfl
  clear c a b hv;exact yaI
 ·have f:((K:Int)==4)=false:=nY;by_cases hi:x=9218868437227405312
  ·have hv:Fl.qk x=Fl.infS:=by rw[Fl.qk,<-a,bv b,bT hi]
   rw[hv];have e:((x:Int)==9218868437227405312)=true:=by rw[hi];rfl
   clear c a b hv hi;exact yaI
  ·have e:((x:Int)==9218868437227405312)=false:=nY;by_cases hj:x=18442240474082181120
   ·have hv:Fl.qk x=Fl.T5:=by rw[Fl.qk,<-a,bv b,bv hi,bT hj]
    rw[hv];have d:((x:Int)==18442240474082181120)=true:=by rw[hj];rfl
    clear c a b hv hi hj;exact yaI
   ·have hv:Fl.qk x=[]:=by rw[Fl.qk,<-a,bv b,bv hi,bv hj]
    rw[hv];have d:((x:Int)==18442240474082181120)=false:=nY;clear c a b hv hi hj;exact yaI
def yqm (w:World):Calls prog 37 #[] w (fun e w'=> ∃ v b:Nat,e= .returned (.pointer (some ⟨v,0,none⟩))/\w.heap.size<=v/\w.heap.size<=b/\Wtr w' v b/\Below w.heap.size w w'):=by
 have f:=aL (fun a=>yg5 a);go_enter func37,ntmps37
 go_wp2_with (first|(go_at_call 36;refine cV (f.out _) ?_;rintro e a ⟨rfl,d,c⟩))
 go_ret
 refine⟨a.heap.size,w.heap.size,rfl,c.size,cm,⟨?_,by simp,L9 d.lt,d.on (ek)⟩,c.alloc c.size _⟩;simp[go_sem]
def yuF (v b x:Nat) (n:Bool) (s:ByteArray) (a:Int) (w:World) (c:Wtr w v b) (i:Dc.right s.data.toList a=true):
 Calls prog 111 #[.pointer (some ⟨v,0,none⟩),.agg #[.bool n,.string s,.int .i64 a],.int .u64 x] w (RetR b (.bool (decide (Fl.vC n+Fl.bits s.data.toList a=x))) w):=by
 have E:=Dc.xW i;rw[dN] at E;have d:=fun m (h:Rdr m b)=>ykP b n s a m aG h;rw[Fl.Gg,bT i] at d;obtain⟨Y,r⟩:=bx (Fl.vC n+Fl.bits s.data.toList a);rw[<-r] at d ⊢;have j:Below w.heap.size w (w.alloc (Obj.cells #[Value.bool n,Value.string s,Value.int IntKind.i64 a] 139)):=ek;have G:=DecB.new w n s a;have K:=c.on j;obtain⟨c0,L,P,C⟩:=K;have Q:=c.rd.lt;have O:=aL d;have F:=aL (fun f (h:Onl b (w.alloc (Obj.cells #[Value.bool n,Value.string s,Value.int IntKind.i64 a] 139)) f)=>(c.rd.onl j).trans h)
 have hd:((Y:Int)==(x:Int))=decide (Y=x):=by rw[vs];simp only[sb,kF];omega
 obtain⟨D,u⟩:=bx (decide (Y=x));rw[<-u] at hd ⊢;obtain⟨B,A,z,y⟩:=G;clear d r c E i u;go_enter func111,ntmps111
 go_upto_region 1 with (fail)
 obtain⟨X,t⟩:=bx ((w.alloc (Obj.cells #[Value.bool n,Value.string s,Value.int IntKind.i64 a] 139)));rw[<-t] at c0 L C B A z y F ⊢;obtain⟨g,hg⟩:=bx (w.heap.size);rw[<-hg] at B A z y ⊢;clear t j;have I:g≠b:=aG;clear hg;have q:=aL C
 go_region_held3 (fun w'=>w'.cell? ⟨v,0,none⟩=some (.pointer (some ⟨b,0,none⟩))/\w'.cell? ⟨g,0,none⟩=some (.bool n)/\w'.cell? ⟨g,1,none⟩=some (.string s)/\w'.cell? ⟨g,2,none⟩=some (.int .i64 a))
  (first|go_keep|(refine⟨?_,?_,?_,?_⟩<;>(first|(rw[M];assumption)|(rw[N];assumption)))|(refine⟨?_,?_,?_,?_⟩<;>(first|(go_simp;done)|(simp[go_sem, *];done))))
  (first|(go_at_call 142;(with_reducible refine(O.out _ (q.out.on dt)).mono ?_);rintro e f ⟨rfl,l,H⟩;have J:=F.out f (Onl.trans (Rdr.onl dt q.out) l);have M:=fun o=>l.cell (k:=v) (o:=o) aG qQ;have N:=fun o=>l.cell (k:=g) (o:=o) aG qQ))
 all_goals(try go_wp2)
 all_goals(go_ret;exact⟨rfl,J,H⟩)

section
attribute [local go_sem] yeR
def Cs.onl1 {w w':World} {b c:Nat} {a:List Value} (h:Cs w b a) (d:Onl c w w') (f:b≠c):Cs w' b a:=
 ⟨eR h.1 d.size,fun k e=>(d.cell f h.1).trans (h.2 k e)⟩
def CF.onl {w w':World} {b c:Nat} {a:List Value} (h:CF w b a) (d:Onl c w w') (e:b≠c):CF w' b a:=
 ⟨h.1.onl1 d e,fun o=>(d.frozen e h.1.1).trans (h.2 o)⟩
structure Caught (w:World) (gd gv gx v b x:Nat) (n:Bool) (s:ByteArray) (X:Int):Prop where
 cd:Cs w gd [.bool n,.string s,.int .i64 X]
 cv:Cs w gv [.pointer (some ⟨v,0,none⟩)]
 cx:Cs w gx [.int .u64 x]
 wt:Wtr w v b
 nd:gd≠b
 nv:gv≠b
 nx:gx≠b
def Caught.on {w w':World} {gd gv gx v b x:Nat} {n:Bool} {s:ByteArray} {X:Int} (h:Caught w gd gv gx v b x n s X) (hb:Below w.heap.size w w'):Caught w' gd gv gx v b x n s X:=
 ⟨h.cd.on hb,h.cv.on hb,h.cx.on hb,h.wt.on hb,h.nd,h.nv,h.nx⟩
def Caught.onl {w w':World} {gd gv gx v b x:Nat} {n:Bool} {s:ByteArray} {X:Int} (h:Caught w gd gv gx v b x n s X) (a:Onl b w w') (c:Rdr w' b):Caught w' gd gv gx v b x n s X:=
 ⟨h.cd.onl1 a h.nd,h.cv.onl1 a h.nv,h.cx.onl1 a h.nx,h.wt.onl a c,h.nd,h.nv,h.nx⟩
def Onl.more {b:Nat} {w a Y:World} (h:Onl b w a) (hl:b<w.heap.size) (hb:Below a.heap.size a Y):Onl b w Y:=⟨h.below.trans (hb.mono (dE (lY hl) h.below.size)),fun i hi hl=>(hb.block i (eR hl h.below.size)).trans (h.block i hi hl)⟩
def dag (n:Bool) (S:ByteArray) (X:Int):Value:= .agg #[.bool n,.string S,.int .i64 X]
def dcs (n:Bool) (S:ByteArray) (X:Int):List Value:=[.bool n,.string S,.int .i64 X]
def yqO (gd gv gx v b x:Nat) (n:Bool) (s g:ByteArray) (X f:Int) (d c e:Nat) (c2 c3:Bool) (W:World) (a:Value) (wr:World):Prop:=
 (a= .int .i64 0∨a= .int .i64 1/\c2=false∨a= .int .i64 2/\c2=false/\c3=false)/\Hid (Caught wr gd gv gx v b x n s X)/\Hid (Cs wr d (dcs n g f))/\Hid (Cs wr c [.int .i64 2,.int .i64 3])/\Hid (CF wr e (dcs false ⟨#[]⟩ 0))/\Hid (Onl b W wr)
def ywu (k:Int) (gd gv gx v b x:Nat) (n:Bool) (s w q o:ByteArray) (X u m l:Int) (A V U P O:Bool) (W:World) (hC:Caught W gd gv gx v b x n s X)
 (h0: ∀ i,Calls prog 110 #[dag n s X,.int .i64 k,.int .i64 0] i (RetB (.tuple #[dag n w u,.int .i64 0]) i))
 (h2: ∀ i,Calls prog 110 #[dag n s X,.int .i64 k,.int .i64 2] i (RetB (.tuple #[dag n q m,.int .i64 0]) i))
 (h3: ∀ i,Calls prog 110 #[dag n s X,.int .i64 k,.int .i64 3] i (RetB (.tuple #[dag n o l,.int .i64 0]) i))
 (y0: ∀ i,Wtr i v b->Calls prog 111 #[.pointer (some ⟨v,0,none⟩),dag n w u,.int .u64 x] i (RetR b (.bool A) i))
 (y2: ∀ i,Wtr i v b->Calls prog 111 #[.pointer (some ⟨v,0,none⟩),dag n q m,.int .u64 x] i (RetR b (.bool V) i))
 (y3: ∀ i,Wtr i v b->Calls prog 111 #[.pointer (some ⟨v,0,none⟩),dag n o l,.int .u64 x] i (RetR b (.bool U) i))
 (e2: ∀ i,(binOp .neq 139 (.agg #[.bool n,.string q,.int .i64 m]) (.agg #[.bool n,.string w,.int .i64 u])).run prog i= .ok (.bool (!P)) i)
 (e3: ∀ i,(binOp .neq 139 (.agg #[.bool n,.string o,.int .i64 l]) (.agg #[.bool n,.string w,.int .i64 u])).run prog i= .ok (.bool (!O)) i):
 Calls prog 109 #[.int .i64 k,.pointer (some ⟨gd,0,none⟩),.pointer (some ⟨gv,0,none⟩),.pointer (some ⟨gx,0,none⟩)] W
  (RetR b (if A=true then .tuple #[dag n w u,.bool true] else if(!P&&V)=true then .tuple #[dag n q m,.bool true] else if(!O&&U)=true then .tuple #[dag n o l,.bool true] else .tuple #[dag n w u,.bool false]) W):=by
 obtain⟨R,hR⟩:=bx ((if A=true then .tuple #[dag n w u,.bool true] else if(!P&&V)=true then .tuple #[dag n q m,.bool true] else if(!O&&U)=true then .tuple #[dag n o l,.bool true] else .tuple #[dag n w u,.bool false]:Value));rw[<-hR];have HR:=aL hR;clear hR;unfold dag at h0 h2 h3 y0 y2 y3;obtain⟨H0,H2,H3,Y0,Y2,Y3,F⟩:=zo h0 h2 h3 y0 y2 y3 hC;have r:=hC.wt.rd.lt;have eI:Below W.heap.size W (W.alloc (Obj.cells #[Value.bool false,Value.string ⟨#[]⟩,Value.int IntKind.i64 0] 139)):=ek;have wj:=hC.on eI;have f0:=CF.new W (dcs false ⟨#[]⟩ 0) 139;have d0:=wj.cd.get 0 rfl;have d1:=wj.cd.get 1 rfl;have d2:=wj.cd.get 2 rfl;have dl:=wj.cd.1;clear h0 h2 h3 y0 y2 y3;go_enter func109,ntmps109
 go_upto_if 22 with (first|(go_at_call 110;refine cp (H0.out _) ?_;intro i aw;have uG:=wj.on aw;have f1:=f0.on aw;have a1:=uG.on ((oA i.heap.size i).alloc cm (.cells #[.bool n,.string w,.int .i64 u] 139));have v0:=a1.cv.get 0 rfl;have T:=a1.cv.1;have S:=a1.cx.get 0 rfl;have Q:=a1.cx.1)|(go_at_call 111;refine cV (Y0.out _ a1.wt) ?_;rintro e B ⟨rfl,cf,km⟩;have xQ:=a1.onl cf km))
 have cH:=aw.size;have qN:W.heap.size+1<=i.heap.size:=by simpa using cH
 have z:CF B W.heap.size (dcs false ⟨#[]⟩ 0):=(f1.alloc (.cells #[.bool n,.string w,.int .i64 u] 139)).onl cf aG;have C:Cs B i.heap.size (dcs n w u):=(Cs.new i (dcs n w u) 139).onl1 cf aG;have o2:Onl b W B:=((Onl.of r (eI.trans (aw.mono cn))).more r (ek)).trans cf;have eK:=cf.size;obtain⟨t,B'⟩: ∃ g,g=W.heap.size:=⟨_,rfl⟩;have xx:W.heap.size<=t:=aG;obtain⟨gn,B1⟩: ∃ g,g=i.heap.size:=⟨_,rfl⟩;rw[<-B'] at z;rw[<-B1] at C;rw[<-B',<-B1];have KA:W.heap.size<=gn/\gn≠b/\gn≠t/\t≠b:=aG;obtain⟨WZ,vJ,WY,vI⟩:=KA;obtain⟨kg,rC,ku,Ag,kf⟩:=qF o2 z C xQ km;have m0:=C.get 0 rfl;have m1:=C.get 1 rfl;have Ra:=C.get 2 rfl;have ml:=C.1;have q0:=z.2 0;have q1:=z.2 1;have Vs:=z.2 2;have ql:=z.1.1;have r0:=z.1.get 0 rfl;have r1:=z.1.get 1 rfl;have r2:=z.1.get 2 rfl;clear B' B1 f1 f0 wj uG a1 v0 T S Q d0 d1 d2 dl eI aw cf cH qN o2 z C xQ km H0 Y0 hC
 cases A with
 |true=>
  go_wp2_with fail
  obtain⟨Y,hY⟩:=bx (B.setCells t 0 (dcs n w u))
  change bodyPost _ _ _ _ _ (B.setCells t 0 (dcs n w u))
  have D:Cs Y t (dcs n w u):=by rw[hY];exact Cs.stored _ rC.out.1 rfl
  have K:Below W.heap.size B Y:=ycV
  rw[<-hY]
  have u0:=D.get 0 rfl;have u1:=D.get 1 rfl;have u2:=D.get 2 rfl;have ul:=D.1
  refine eB (v:= .tuple #[.agg #[.bool n,.string w,.int .i64 u],.bool true]) ycN rfl ⟨by rw[HR.out];first|rfl|(simp[dag];done),kg.out.own K r,kf.out.below K r⟩
 |false=>
  have my:Cs (B.alloc (.cells #[.int .i64 2,.int .i64 3] 3)) B.heap.size [.int .i64 2,.int .i64 3]:=Cs.new B [.int .i64 2,.int .i64 3] 3
  have IW:Below B.heap.size B (B.alloc (.cells #[.int .i64 2,.int .i64 3] 3)):=ek
  have Tu:=Ag.out.on IW
  have qv:=rC.out.on IW
  have kr:=ku.out.on IW
  have kq:=kg.out.more r IW
  have H:B.heap.size≠b:=by have:=kf.out.lt;omega
  have MK:B.heap.size≠t:=aG
  go_wp2_with fail
  obtain⟨gs,H7⟩: ∃ g,g=B.heap.size:=⟨_,rfl⟩
  rw[<-H7] at my H MK ⊢
  obtain⟨qC,UB,LG,t8,fg⟩:=qF my Tu qv kr kq
  clear my Tu qv kr kq IW H7 m0 m1 Ra ml q0 q1 Vs ql eK r0 r1 r2
  go_loopw [26] (yqO gd gv gx v b x n s w X u gn gs t (!P&&V) (!O&&U) W) (fun iv _=>2-(intOf iv).toNat)
  case atStart=>exact⟨Or.inl rfl,UB,t8,qC,LG,fg⟩
  case round=>
   clear qC UB LG t8 fg Ag ku rC kg kf
   obtain⟨eV,F,HN,N,E,HO⟩:=hrel
   have cd0:=F.out.cd.get 0 rfl;have cd1:=F.out.cd.get 1 rfl;have cd2:=F.out.cd.get 2 rfl;have cdl:=F.out.cd.1
   have gs0:=N.out.get 0 rfl;have gs1:=N.out.get 1 rfl;have gsl:=N.out.1
   rcases eV with rfl|⟨rfl,eQ⟩|⟨rfl,eQ,Hb⟩
   ·skip
    have M7:P=true∨(P=false/\V=false)∨(P=false/\V=true):=by cases P<;>cases V<;>simp
    rcases M7 with rfl|⟨rfl,rfl⟩|⟨rfl,rfl⟩
    ·go_wp2_with (first|(go_at_call 110;refine cp (H2.out _) ?_;intro w3 a;have C3:=F.out.on a;have c:=C3.on ((oA w3.heap.size w3).alloc cm (.cells #[.bool n,.string q,.int .i64 m] 139));have d:=(HN.out.on a).alloc (.cells #[.bool n,.string q,.int .i64 m] 139);have I:=(N.out.on a).alloc (.cells #[.bool n,.string q,.int .i64 m] 139);have J:=(E.out.on a).alloc (.cells #[.bool n,.string q,.int .i64 m] 139);have G:=(HO.out.more r a).more r ((oA w3.heap.size w3).alloc cm (.cells #[.bool n,.string q,.int .i64 m] 139));have L:=Cs.new w3 (dcs n q m) 139;have t0:=d.get 0 rfl;have t1:=d.get 1 rfl;have t2:=d.get 2 rfl;have tl:=d.1;have v0:=c.cv.get 0 rfl;have T:=c.cv.1;have S:=c.cx.get 0 rfl;have Q:=c.cx.1;have sZ:=a.size))
     go_roundw
     case rel=>exact⟨Or.inr (Or.inl ⟨rfl,rfl⟩),aL c,aL d,aL I,aL J,aL G⟩
     case measure=>simp[intOf]
    ·go_wp2_with (first|(go_at_call 110;refine cp (H2.out _) ?_;intro w3 a;have C3:=F.out.on a;have c:=C3.on ((oA w3.heap.size w3).alloc cm (.cells #[.bool n,.string q,.int .i64 m] 139));have d:=(HN.out.on a).alloc (.cells #[.bool n,.string q,.int .i64 m] 139);have I:=(N.out.on a).alloc (.cells #[.bool n,.string q,.int .i64 m] 139);have J:=(E.out.on a).alloc (.cells #[.bool n,.string q,.int .i64 m] 139);have G:=(HO.out.more r a).more r ((oA w3.heap.size w3).alloc cm (.cells #[.bool n,.string q,.int .i64 m] 139));have L:=Cs.new w3 (dcs n q m) 139;have t0:=d.get 0 rfl;have t1:=d.get 1 rfl;have t2:=d.get 2 rfl;have tl:=d.1;have v0:=c.cv.get 0 rfl;have T:=c.cv.1;have S:=c.cx.get 0 rfl;have Q:=c.cx.1;have sZ:=a.size;have Z:w3.heap.size≠b:=yaM;have AA:w3.heap.size≠t:=(by have:=E.out.1.1;omega))|(go_at_call 111;refine cV (Y2.out _ c.wt) ?_;rintro e w4 ⟨rfl,j,M⟩;have C4:=c.onl j M;have n4:=d.onl1 j vJ;have g4:=I.onl1 j H;have f:=J.onl j vI;have o4:=G.trans j;have y:=L.onl1 j Z;have k0:=y.get 0 rfl;have k1:=y.get 1 rfl;have k2:=y.get 2 rfl;have kl:=y.1;have Dn:=f.2 0;have Dm:=f.2 1;have Dl:=f.2 2;have fl:=f.1.1;have Dq:=f.1.get 0 rfl;have Dp:=f.1.get 1 rfl;have Do:=f.1.get 2 rfl))
     go_roundw
     case rel=>exact⟨Or.inr (Or.inl ⟨rfl,rfl⟩),aL C4,aL n4,aL g4,aL f,aL o4⟩
     case measure=>simp[intOf]
    ·go_wp2_with (first|(go_at_call 110;refine cp (H2.out _) ?_;intro w3 a;have C3:=F.out.on a;have c:=C3.on ((oA w3.heap.size w3).alloc cm (.cells #[.bool n,.string q,.int .i64 m] 139));have d:=(HN.out.on a).alloc (.cells #[.bool n,.string q,.int .i64 m] 139);have I:=(N.out.on a).alloc (.cells #[.bool n,.string q,.int .i64 m] 139);have J:=(E.out.on a).alloc (.cells #[.bool n,.string q,.int .i64 m] 139);have G:=(HO.out.more r a).more r ((oA w3.heap.size w3).alloc cm (.cells #[.bool n,.string q,.int .i64 m] 139));have L:=Cs.new w3 (dcs n q m) 139;have t0:=d.get 0 rfl;have t1:=d.get 1 rfl;have t2:=d.get 2 rfl;have tl:=d.1;have v0:=c.cv.get 0 rfl;have T:=c.cv.1;have S:=c.cx.get 0 rfl;have Q:=c.cx.1;have sZ:=a.size;have Z:w3.heap.size≠b:=yaM;have AA:w3.heap.size≠t:=(by have:=E.out.1.1;omega))|(go_at_call 111;refine cV (Y2.out _ c.wt) ?_;rintro e w4 ⟨rfl,j,M⟩;have C4:=c.onl j M;have n4:=d.onl1 j vJ;have g4:=I.onl1 j H;have f:=J.onl j vI;have o4:=G.trans j;have y:=L.onl1 j Z;have k0:=y.get 0 rfl;have k1:=y.get 1 rfl;have k2:=y.get 2 rfl;have kl:=y.1;have Dn:=f.2 0;have Dm:=f.2 1;have Dl:=f.2 2;have fl:=f.1.1;have Dq:=f.1.get 0 rfl;have Dp:=f.1.get 1 rfl;have Do:=f.1.get 2 rfl))
     obtain⟨Y,hY⟩:=bx (w4.setCells t 0 (dcs n q m))
     change bodyPost _ _ _ _ _ (w4.setCells t 0 (dcs n q m))
     have D:Cs Y t (dcs n q m):=by rw[hY];exact Cs.stored _ f.1 rfl
     have K:Below W.heap.size w4 Y:=ycV
     rw[<-hY]
     have u0:=D.get 0 rfl;have u1:=D.get 1 rfl;have u2:=D.get 2 rfl;have ul:=D.1
     refine eB (v:= .tuple #[.agg #[.bool n,.string q,.int .i64 m],.bool true]) ycN rfl ⟨by rw[HR.out];first|rfl|(simp[dag];done),o4.own K r,M.below K r⟩
   ·have iX:=aL eQ
    clear eQ
    have M7:O=true∨(O=false/\U=false)∨(O=false/\U=true):=by cases O<;>cases U<;>simp
    rcases M7 with rfl|⟨rfl,rfl⟩|⟨rfl,rfl⟩
    ·go_wp2_with (first|(go_at_call 110;refine cp (H3.out _) ?_;intro w3 a;have C3:=F.out.on a;have c:=C3.on ((oA w3.heap.size w3).alloc cm (.cells #[.bool n,.string o,.int .i64 l] 139));have d:=(HN.out.on a).alloc (.cells #[.bool n,.string o,.int .i64 l] 139);have I:=(N.out.on a).alloc (.cells #[.bool n,.string o,.int .i64 l] 139);have J:=(E.out.on a).alloc (.cells #[.bool n,.string o,.int .i64 l] 139);have G:=(HO.out.more r a).more r ((oA w3.heap.size w3).alloc cm (.cells #[.bool n,.string o,.int .i64 l] 139));have L:=Cs.new w3 (dcs n o l) 139;have t0:=d.get 0 rfl;have t1:=d.get 1 rfl;have t2:=d.get 2 rfl;have tl:=d.1;have v0:=c.cv.get 0 rfl;have T:=c.cv.1;have S:=c.cx.get 0 rfl;have Q:=c.cx.1;have sZ:=a.size))
     go_roundw
     case rel=>exact⟨Or.inr (Or.inr ⟨rfl,iX.out,rfl⟩),aL c,aL d,aL I,aL J,aL G⟩
     case measure=>simp[intOf]
    ·go_wp2_with (first|(go_at_call 110;refine cp (H3.out _) ?_;intro w3 a;have C3:=F.out.on a;have c:=C3.on ((oA w3.heap.size w3).alloc cm (.cells #[.bool n,.string o,.int .i64 l] 139));have d:=(HN.out.on a).alloc (.cells #[.bool n,.string o,.int .i64 l] 139);have I:=(N.out.on a).alloc (.cells #[.bool n,.string o,.int .i64 l] 139);have J:=(E.out.on a).alloc (.cells #[.bool n,.string o,.int .i64 l] 139);have G:=(HO.out.more r a).more r ((oA w3.heap.size w3).alloc cm (.cells #[.bool n,.string o,.int .i64 l] 139));have L:=Cs.new w3 (dcs n o l) 139;have t0:=d.get 0 rfl;have t1:=d.get 1 rfl;have t2:=d.get 2 rfl;have tl:=d.1;have v0:=c.cv.get 0 rfl;have T:=c.cv.1;have S:=c.cx.get 0 rfl;have Q:=c.cx.1;have sZ:=a.size;have Z:w3.heap.size≠b:=yaM;have AA:w3.heap.size≠t:=(by have:=E.out.1.1;omega))|(go_at_call 111;refine cV (Y3.out _ c.wt) ?_;rintro e w4 ⟨rfl,j,M⟩;have C4:=c.onl j M;have n4:=d.onl1 j vJ;have g4:=I.onl1 j H;have f:=J.onl j vI;have o4:=G.trans j;have y:=L.onl1 j Z;have k0:=y.get 0 rfl;have k1:=y.get 1 rfl;have k2:=y.get 2 rfl;have kl:=y.1;have Dn:=f.2 0;have Dm:=f.2 1;have Dl:=f.2 2;have fl:=f.1.1;have Dq:=f.1.get 0 rfl;have Dp:=f.1.get 1 rfl;have Do:=f.1.get 2 rfl))
     go_roundw
     case rel=>exact⟨Or.inr (Or.inr ⟨rfl,iX.out,rfl⟩),aL C4,aL n4,aL g4,aL f,aL o4⟩
     case measure=>simp[intOf]
    ·go_wp2_with (first|(go_at_call 110;refine cp (H3.out _) ?_;intro w3 a;have C3:=F.out.on a;have c:=C3.on ((oA w3.heap.size w3).alloc cm (.cells #[.bool n,.string o,.int .i64 l] 139));have d:=(HN.out.on a).alloc (.cells #[.bool n,.string o,.int .i64 l] 139);have I:=(N.out.on a).alloc (.cells #[.bool n,.string o,.int .i64 l] 139);have J:=(E.out.on a).alloc (.cells #[.bool n,.string o,.int .i64 l] 139);have G:=(HO.out.more r a).more r ((oA w3.heap.size w3).alloc cm (.cells #[.bool n,.string o,.int .i64 l] 139));have L:=Cs.new w3 (dcs n o l) 139;have t0:=d.get 0 rfl;have t1:=d.get 1 rfl;have t2:=d.get 2 rfl;have tl:=d.1;have v0:=c.cv.get 0 rfl;have T:=c.cv.1;have S:=c.cx.get 0 rfl;have Q:=c.cx.1;have sZ:=a.size;have Z:w3.heap.size≠b:=yaM;have AA:w3.heap.size≠t:=(by have:=E.out.1.1;omega))|(go_at_call 111;refine cV (Y3.out _ c.wt) ?_;rintro e w4 ⟨rfl,j,M⟩;have C4:=c.onl j M;have n4:=d.onl1 j vJ;have g4:=I.onl1 j H;have f:=J.onl j vI;have o4:=G.trans j;have y:=L.onl1 j Z;have k0:=y.get 0 rfl;have k1:=y.get 1 rfl;have k2:=y.get 2 rfl;have kl:=y.1;have Dn:=f.2 0;have Dm:=f.2 1;have Dl:=f.2 2;have fl:=f.1.1;have Dq:=f.1.get 0 rfl;have Dp:=f.1.get 1 rfl;have Do:=f.1.get 2 rfl))
     obtain⟨Y,hY⟩:=bx (w4.setCells t 0 (dcs n o l))
     change bodyPost _ _ _ _ _ (w4.setCells t 0 (dcs n o l))
     have D:Cs Y t (dcs n o l):=by rw[hY];exact Cs.stored _ f.1 rfl
     have K:Below W.heap.size w4 Y:=ycV
     rw[<-hY]
     have u0:=D.get 0 rfl;have u1:=D.get 1 rfl;have u2:=D.get 2 rfl;have ul:=D.1
     refine eB (v:= .tuple #[.agg #[.bool n,.string o,.int .i64 l],.bool true]) ycN rfl ⟨by rw[HR.out,iX.out];first|rfl|(simp[dag];done),o4.own K r,M.below K r⟩
   ·have C:=HN.out;have z:=E.out
    have m0:=C.get 0 rfl;have m1:=C.get 1 rfl;have Ra:=C.get 2 rfl;have ml:=C.1
    have p0:=z.2 0;have p1:=z.2 1;have p2:=z.2 2;have pl:=z.1.1;have r0:=z.1.get 0 rfl;have r1:=z.1.get 1 rfl;have r2:=z.1.get 2 rfl
    obtain⟨iX,P6⟩:=dY eQ Hb
    clear eQ Hb C z
    go_wp2_with fail
    obtain⟨Y,hY⟩:=bx (wr.setCells t 0 (dcs n w u))
    change bodyPost _ _ _ _ _ (wr.setCells t 0 (dcs n w u))
    have D:Cs Y t (dcs n w u):=by rw[hY];exact Cs.stored _ E.out.1 rfl
    have K:Below W.heap.size wr Y:=ycV
    rw[<-hY]
    have u0:=D.get 0 rfl;have u1:=D.get 1 rfl;have u2:=D.get 2 rfl;have ul:=D.1
    refine eB (v:= .tuple #[.agg #[.bool n,.string w,.int .i64 u],.bool false]) ycN rfl ⟨by rw[HR.out,iX.out,P6.out];first|rfl|(simp[dag];done),HO.out.own K r,F.out.wt.rd.below K r⟩
end

section
attribute [local go_sem] yeR
def drv (r:Dc.Res):Value:=dag r.n ⟨r.l.toArray⟩ r.x
def Fl.tryV (n:Bool) (l:Dc.Bs) (X:Int) (a k:Nat):Value:=match Fl.tryN n l X a k with
 |some r=> .tuple #[drv r,.bool true]
 |none=> .tuple #[drv (Dc.sig n l X k 0),.bool false]
def Fl.ytR {x:Nat} {r:Dc.Res} (hx:x<18446744073709551616) (b:Dc.right r.l r.x=true):decide (Fl.vC (Fl.neg x)+Fl.bits r.l r.x=x)=Fl.says r (x % 9223372036854775808):=by
 unfold Fl.says;apply sd.2;have h:=Fl.ylt hx;have hb:=Fl.yjp b;constructor
 ·intro a;exact Nat.add_left_cancel (a.trans h.symm)
 ·intro a;rw[a,h]
def yqE (k:Nat) (gd gv gx v b x:Nat) (s:ByteArray) (X:Int) (W:World) (y:1<=k/\k<=17) (hx:x<18446744073709551616) (l:Dc.right s.data.toList X=true) (w:s.data.toList≠[]) (z: -2000<=X/\X<=2000) (m:Caught W gd gv gx v b x (Fl.neg x) s X):
 Calls prog 109 #[.int .i64 k,.pointer (some ⟨gd,0,none⟩),.pointer (some ⟨gv,0,none⟩),.pointer (some ⟨gx,0,none⟩)] W (RetR b (Fl.tryV (Fl.neg x) s.data.toList X (x % 9223372036854775808) k) W):=by
 have u:=Dc.xW l;rw[dN] at u;obtain⟨n,hn⟩:=bx (Fl.neg x);obtain⟨d,i⟩: ∃ n,n=x % 9223372036854775808:=⟨_,rfl⟩;have f:=fun(way:Int) (c:0<=way/\way<=5)=>Fl.yfH (s:=n) (k:=k) (way:=way) l w aG c aG
 have sig: ∀ (way:Int) (c:0<=way/\way<=5) (a:World),Calls prog 110 #[dag n s X,.int .i64 k,.int .i64 way] a (RetB (.tuple #[dag n ⟨(Dc.sig n s.data.toList X k way).l.toArray⟩ (Dc.sig n s.data.toList X k way).x,.int .i64 0]) a):=fun way c a=>by
  have h:=yv2 n s X k way a aG aG aG
  have e:(Dc.sig n s.data.toList X k way).val = .tuple #[dag n ⟨(Dc.sig n s.data.toList X k way).l.toArray⟩ (Dc.sig n s.data.toList X k way).x,.int .i64 0]:=by rw[Dc.Res.val,(f way c).n,(f way c).e];rfl
  rw[e] at h;exact h
 have g: ∀ (way:Int) (c:0<=way/\way<=5) (a:World),Wtr a v b->Calls prog 111 #[.pointer (some ⟨v,0,none⟩),dag n ⟨(Dc.sig n s.data.toList X k way).l.toArray⟩ (Dc.sig n s.data.toList X k way).x,.int .u64 x] a (RetR b (.bool (Fl.says (Dc.sig n s.data.toList X k way) d)) a):=fun way c a q=>by have h:=yuF v b x n ⟨(Dc.sig n s.data.toList X k way).l.toArray⟩ (Dc.sig n s.data.toList X k way).x a q (f way c).right;rw[NP,hn,Fl.ytR hx (by rw[<-hn];exact(f way c).right),<-i,<-hn] at h;exact h
 have o: ∀ (way:Int) (a:World),(binOp .neq 139 (.agg #[.bool n,.string ⟨(Dc.sig n s.data.toList X k way).l.toArray⟩,.int .i64 (Dc.sig n s.data.toList X k way).x]) (.agg #[.bool n,.string ⟨(Dc.sig n s.data.toList X k 0).l.toArray⟩,.int .i64 (Dc.sig n s.data.toList X k 0).x])).run prog a= .ok (.bool (!(Fl.same (Dc.sig n s.data.toList X k way) (Dc.sig n s.data.toList X k 0)))) a:=fun way a=>by rw[ymE];congr 3;unfold dcEq Fl.same;rw[sT,sT,NP,NP,vs];simp
 rw[<-hn,<-i];rw[<-hn] at m;have h:=ywu k gd gv gx v b x n s _ _ _ X _ _ _ _ _ _ _ _ W m (sig 0 bL) (sig 2 bL) (sig 3 bL) (g 0 bL) (g 2 bL) (g 3 bL) (o 2) (o 3)
 have e:Fl.tryV n s.data.toList X d k=(if Fl.says (Dc.sig n s.data.toList X k 0) d=true then .tuple #[dag n ⟨(Dc.sig n s.data.toList X k 0).l.toArray⟩ (Dc.sig n s.data.toList X k 0).x,.bool true]
  else if(!(Fl.same (Dc.sig n s.data.toList X k 2) (Dc.sig n s.data.toList X k 0))&&Fl.says (Dc.sig n s.data.toList X k 2) d)=true then .tuple #[dag n ⟨(Dc.sig n s.data.toList X k 2).l.toArray⟩ (Dc.sig n s.data.toList X k 2).x,.bool true]
  else if(!(Fl.same (Dc.sig n s.data.toList X k 3) (Dc.sig n s.data.toList X k 0))&&Fl.says (Dc.sig n s.data.toList X k 3) d)=true then .tuple #[dag n ⟨(Dc.sig n s.data.toList X k 3).l.toArray⟩ (Dc.sig n s.data.toList X k 3).x,.bool true]
  else .tuple #[dag n ⟨(Dc.sig n s.data.toList X k 0).l.toArray⟩ (Dc.sig n s.data.toList X k 0).x,.bool false]):=by
  have j:=(f 0 bL).n;have t:=(f 2 bL).n;have r:=(f 3 bL).n;unfold Fl.tryV Fl.tryN;simp only[fs,Bool.not_eq_true'];by_cases c0:Fl.says (Dc.sig n s.data.toList X k 0) d=true
  ·rw[bT c0,bT c0];simp only[drv,j]
  ·rw[bv c0,bv c0];by_cases c2:Fl.same (Dc.sig n s.data.toList X k 2) (Dc.sig n s.data.toList X k 0)=false/\Fl.says (Dc.sig n s.data.toList X k 2) d=true
   ·rw[bT c2,bT c2];simp only[drv,t]
   ·rw[bv c2,bv c2];by_cases c3:Fl.same (Dc.sig n s.data.toList X k 3) (Dc.sig n s.data.toList X k 0)=false/\Fl.says (Dc.sig n s.data.toList X k 3) d=true
    ·rw[bT c3,bT c3];simp only[drv,r]
    ·rw[bv c3,bv c3];simp only[drv,j]
 rw[e];exact h
end

def Fl.yqh {n:Bool} {l:Dc.Bs} {X:Int} {a k m:Nat} {r:Dc.Res} (h:Fl.tryN n l X a m=some r) (b:k=0->r=Dc.sig n l X m 0):Fl.vn n l X a k m=r:=by
 cases k with
 |zero=>rw[Fl.vn];exact(b rfl).symm
 |succ k=>rw[Fl.vn,h]
def Fl.yv6 {n:Bool} {l:Dc.Bs} {X:Int} {a k m:Nat} (h:Fl.tryN n l X a m=none):Fl.vn n l X a (k+1) m=Fl.vn n l X a k (m+1):=by rw[Fl.vn,h]
def Fl.ytU {n:Bool} {l:Dc.Bs} {X:Int} {a:Nat} (h:Fl.bits (Dc.sig n l X 17 0).l (Dc.sig n l X 17 0).x =a):Fl.tryN n l X a 17=some (Dc.sig n l X 17 0):=by unfold Fl.tryN;exact bT (fv h)
def yeK (b:Nat) (a:Addr): ∀ (us:List Value) (o:Nat) (w:World),(w.setCells b o us).frozen? a=w.frozen? a
 | [],_,_=>rfl
 |v::us,o,w=>by rw[World.setCells,yeK b a us];exact qj ..
def CF.other {w:World} {b d:Nat} {a:List Value} (us:List Value) (c:CF w b a) (e:b≠d):CF (w.setCells d 0 us) b a:=
 ⟨c.1.other us e,fun o=>(yeK ..).trans (c.2 o)⟩
def Rdr.setCells {w:World} {b a:Nat} (us:List Value) (h:Rdr w b) (g:b≠a):Rdr (w.setCells a 0 us) b:=by have c: ∀ o',(w.setCells a 0 us).cell? ⟨b,o',none⟩=w.cell? ⟨b,o',none⟩:=fun o'=>ydp _ _ _ _ _ (fun e=>absurd e g);exact⟨by rw[yJ];exact h.lt,fun o'=>(yeK ..).trans (h.free o'),fun n f d=>(h.slot n f d).imp (fun s=>s.same c) (fun s=>s.same c)⟩
def Wtr.setCells {w:World} {v b a:Nat} (us:List Value) (h:Wtr w v b) (hv:v≠a) (hb:b≠a):Wtr (w.setCells a 0 us) v b:=
 ⟨(ydp _ _ _ _ _ (fun e=>absurd e hv)).trans h.cell,by rw[yJ];exact h.lt,h.ne,h.rd.setCells us hb⟩
def Caught.setCells {w:World} {gd gv gx v b x a:Nat} {n:Bool} {s:ByteArray} {X:Int} (us:List Value) (h:Caught w gd gv gx v b x n s X) (g:gd≠a) (f:gv≠a) (e:gx≠a) (d:v≠a) (c:b≠a):Caught (w.setCells a 0 us) gd gv gx v b x n s X:=
 ⟨h.cd.other us g,h.cv.other us f,h.cx.other us e,h.wt.setCells us d c,h.nd,h.nv,h.nx⟩
def yrS (gd gv gx v b x:Nat) (n:Bool) (s:ByteArray) (X:Int) (a f e:Nat) (W:World) (d:Value) (wr:World):Prop:=
 ∃ m:Nat,1<=m/\m<=17/\d= .int .i64 m/\Hid (Fl.s8 n s.data.toList X a=Fl.vn n s.data.toList X a (17-m) m)/\Hid (Caught wr gd gv gx v b x n s X)/\Hid (CF wr f (dcs false ⟨#[]⟩ 0))/\Hid (∃ c h g,CF wr e (dcs c h g))/\Hid (Onl b W wr)
def yoK (gd gv gx v b x:Nat) (s:ByteArray) (X:Int) (W:World) (hx:x<18446744073709551616) (hr:Dc.right s.data.toList X=true) (aq:s.data.toList≠[]) (hX: -2000<=X/\X<=2000) (A:Caught W gd gv gx v b x (Fl.neg x) s X)
 (xU:Fl.bits (Dc.sig (Fl.neg x) s.data.toList X 17 0).l (Dc.sig (Fl.neg x) s.data.toList X 17 0).x =x % 9223372036854775808):
 Calls prog 108 #[.int .i64 1,.int .i64 17,.func (.func 109) #[] #[.pointer (some ⟨gd,0,none⟩),.pointer (some ⟨gv,0,none⟩),.pointer (some ⟨gx,0,none⟩)]] W (RetR b (drv (Fl.s8 (Fl.neg x) s.data.toList X (x % 9223372036854775808))) W):=by
 have AB:=fun(k:Nat) (hk:1<=k/\k<=17) w1 (h:Caught w1 gd gv gx v b x (Fl.neg x) s X)=>yqE k gd gv gx v b x s X w1 hk hx hr aq hX h;have cM:=Fl.ytU xU;obtain⟨n,hn⟩:=bx (Fl.neg x);obtain⟨K,Q⟩: ∃ n,n=x % 9223372036854775808:=⟨_,rfl⟩;rw[<-hn,<-Q] at AB cM;rw[<-hn] at A;rw[<-hn,<-Q];obtain⟨R,U⟩:=bx (Fl.s8 n s.data.toList X K);rw[<-U];have HR:=aL U;have C:=A.wt.rd.lt;have eI:Below W.heap.size W ((W.alloc (Obj.cells #[Value.bool false,Value.string ⟨#[]⟩,Value.int IntKind.i64 0] 139)).alloc (Obj.cells #[Value.bool false,Value.string ⟨#[]⟩,Value.int IntKind.i64 0] 139)):=(ek).alloc cn _;have wj:=A.on eI;have f6:=(CF.new W (dcs false ⟨#[]⟩ 0) 139).alloc (.cells #[.bool false,.string ⟨#[]⟩,.int .i64 0] 139)
 have B:CF ((W.alloc (Obj.cells #[Value.bool false,Value.string ⟨#[]⟩,Value.int IntKind.i64 0] 139)).alloc (Obj.cells #[Value.bool false,Value.string ⟨#[]⟩,Value.int IntKind.i64 0] 139)) (W.heap.size+1) (dcs false ⟨#[]⟩ 0):=by have h:=CF.new (W.alloc (Obj.cells #[Value.bool false,Value.string ⟨#[]⟩,Value.int IntKind.i64 0] 139)) (dcs false ⟨#[]⟩ 0) 139;rw[i7] at h;exact h
 have RS:=Onl.of C eI;obtain⟨HT,HL,p9,H⟩:=jv AB cM wj f6;have M:Hid (∃ n1 S1 X1,CF ((W.alloc (Obj.cells #[Value.bool false,Value.string ⟨#[]⟩,Value.int IntKind.i64 0] 139)).alloc (Obj.cells #[Value.bool false,Value.string ⟨#[]⟩,Value.int IntKind.i64 0] 139)) (W.heap.size+1) (dcs n1 S1 X1)):=aL ⟨_,_,_,B⟩;have mE:=aL RS
 have Hf:gd≠W.heap.size+1/\gv≠W.heap.size+1/\gx≠W.heap.size+1/\v≠W.heap.size+1/\b≠W.heap.size+1:=by have k1:=A.cd.1;have k2:=A.cv.1;have k3:=A.cx.1;have k4:=A.wt.lt;omega
 have Ab:=aL Hf;clear Hf AB cM wj f6 B RS eI A U hr aq xU hn Q;go_enter func108,ntmps108
 go_wp2_with fail
 obtain⟨z,P⟩: ∃ g,g=W.heap.size:=⟨_,rfl⟩;obtain⟨i,S⟩: ∃ g,g=W.heap.size+1:=⟨_,rfl⟩;have B2:W.heap.size<=z/\W.heap.size<=i/\z≠b/\i≠b/\z≠i:=aG;rw[<-S] at M Ab;rw[<-P] at H;rw[<-S,<-P];clear P S;obtain⟨Yk,TN,TM,TL,TK⟩:=B2;go_loopw [8] (yrS gd gv gx v b x n s X K z i W) (fun iv _=>18-(intOf iv).toNat)
 case atStart=>exact⟨1,by omega,by omega,rfl,aL rfl,p9,H,M,mE⟩
 case round=>
  clear p9 H M mE;obtain⟨m,jC,ns,rfl,HS,y,H,M,HO⟩:=hrel;have Xa:gd≠i/\gv≠i/\gx≠i/\v≠i/\b≠i:=Ab.out;have w:=HT.out m ⟨jC,ns⟩;obtain⟨n1,S1,X1,B⟩:=M.out
  cases hq:Fl.tryN n s.data.toList X K m with
  |some r=>
   have he:R=r:=by rw[HR.out,HS.out];refine Fl.yqh hq fun h0=>?_;have Bw:m=17:=aG;subst Bw;have N:=HL.out;rw[hq] at N;exact tJ N
   rw[Fl.tryV,hq] at w
   simp only at w
   have HE:=aL he
   clear he
   obtain⟨a,G⟩: ∃ q,q=r.n:=⟨_,rfl⟩
   obtain⟨d,E⟩: ∃ q:ByteArray,q=⟨r.l.toArray⟩:=⟨_,rfl⟩
   obtain⟨c,F⟩: ∃ q,q=r.x:=⟨_,rfl⟩
   unfold drv dag at w
   rw[<-G,<-E,<-F] at w
   have HV:=aL (show drv R= .agg #[.bool a,.string d,.int .i64 c] by rw[HE.out,drv,dag,G,E,F])
   clear G E F
   have PA:=aL w
   have NE:=y.out.cd.1;have NB:=y.out.cv.1;have Nz:=y.out.cx.1;have iy:=y.out.wt.lt
   clear w hq
   go_upto_region 7 with (first|(go_at_call 109;refine cV (PA.out _ y.out) ?_;rintro e j ⟨rfl,t,J⟩;have C2:=(y.out.onl t J).on ((oA j.heap.size j).alloc cm (.cells #[.bool a,.string d,.int .i64 c] 139));have f62:=(H.out.onl t TM).alloc (.cells #[.bool a,.string d,.int .i64 c] 139);have f72:=(B.onl t TL).alloc (.cells #[.bool a,.string d,.int .i64 c] 139);have I:=(HO.out.trans t).more C ((oA j.heap.size j).alloc cm (.cells #[.bool a,.string d,.int .i64 c] 139));have Dn:=f72.2 0;have Dm:=f72.2 1;have Dl:=f72.2 2;have V:=f72.1.1;have Dq:=f72.1.get 0 rfl;have Dp:=f72.1.get 1 rfl;have Do:=f72.1.get 2 rfl;have UV:=t.size))
   obtain⟨Y,o⟩:=bx ((j.alloc (.cells #[.bool a,.string d,.int .i64 c] 139)).setCells i 0 (dcs a d c))
   change Code.wp _ _ _ _ ((j.alloc (.cells #[.bool a,.string d,.int .i64 c] 139)).setCells i 0 (dcs a d c))
   rw[<-o]
   have u:CF Y i (dcs a d c):=by rw[o];exact f72.stored _ rfl
   have f:CF Y z (dcs false ⟨#[]⟩ 0):=by rw[o];exact f62.other _ TK
   have O:Caught Y gd gv gx v b x n s X:=by rw[o];exact C2.setCells _ aG aG aG aG aG
   have L:Onl b W Y:=by rw[o];exact I.own (mX TN _ _ eN) C
   have Ya:=u.1.get 0 rfl;have XZ:=u.1.get 1 rfl;have XY:=u.1.get 2 rfl;have XX:=u.1.1
   have Yf:=f.1.get 0 rfl;have Ye:=f.1.get 1 rfl;have Yd:=f.1.get 2 rfl;have Yb:=f.1.1;have OT:=f.2 0;have OS:=f.2 1;have OR:=f.2 2
   obtain⟨LH,E7,JR,P4⟩:=jv u f O L
   clear o u f O L Dn Dm Dl V Dq Dp Do f72 f62 I C2 t J B
   go_wp2_with fail
   obtain⟨Z,T⟩:=bx (Y.setCells z 0 (dcs a d c))
   change bodyPost _ _ _ _ _ (Y.setCells z 0 (dcs a d c))
   rw[<-T]
   have D:Cs Z z (dcs a d c):=by rw[T];exact Cs.stored _ E7.out.1 rfl
   have bZ:Below W.heap.size Y Z:=by rw[T];exact mX Yk _ _ eN
   have u0:=D.get 0 rfl;have u1:=D.get 1 rfl;have u2:=D.get 2 rfl;have ul:=D.1
   refine eB (v:= .agg #[.bool a,.string d,.int .i64 c]) (by(simp[results,results108,go_sem,u0,u1,u2];done)) rfl ⟨by rw[HV.out],P4.out.own bZ C,JR.out.wt.rd.below bZ C⟩
  |none=>
   have WB:m<17:=by
    rcases qt m 17 with h|h
    ·exact h
    ·exfalso;have Bw:m=17:=aG;subst Bw;have N:=HL.out;rw[hq] at N;cases N
   have bP:Fl.s8 n s.data.toList X K=Fl.vn n s.data.toList X K (17-(m+1)) (m+1):=by rw[HS.out,show 17-m=(17-(m+1))+1 by omega];exact Fl.yv6 hq
   have qC:=aL bP
   rw[Fl.tryV,hq] at w
   simp only at w
   clear bP
   obtain⟨a,G⟩: ∃ q,q=(Dc.sig n s.data.toList X m 0).n :=⟨_,rfl⟩
   obtain⟨d,E⟩: ∃ q:ByteArray,q=⟨(Dc.sig n s.data.toList X m 0).l.toArray⟩:=⟨_,rfl⟩
   obtain⟨c,F⟩: ∃ q,q=(Dc.sig n s.data.toList X m 0).x :=⟨_,rfl⟩
   unfold drv dag at w
   rw[<-G,<-E,<-F] at w
   clear G E F
   have PA:=aL w
   have NE:=y.out.cd.1;have NB:=y.out.cv.1;have Nz:=y.out.cx.1;have iy:=y.out.wt.lt
   clear w hq
   go_upto_region 7 with (first|(go_at_call 109;refine cV (PA.out _ y.out) ?_;rintro e j ⟨rfl,t,J⟩;have C2:=(y.out.onl t J).on ((oA j.heap.size j).alloc cm (.cells #[.bool a,.string d,.int .i64 c] 139));have f62:=(H.out.onl t TM).alloc (.cells #[.bool a,.string d,.int .i64 c] 139);have f72:=(B.onl t TL).alloc (.cells #[.bool a,.string d,.int .i64 c] 139);have I:=(HO.out.trans t).more C ((oA j.heap.size j).alloc cm (.cells #[.bool a,.string d,.int .i64 c] 139));have Dn:=f72.2 0;have Dm:=f72.2 1;have Dl:=f72.2 2;have V:=f72.1.1;have Dq:=f72.1.get 0 rfl;have Dp:=f72.1.get 1 rfl;have Do:=f72.1.get 2 rfl;have UV:=t.size))
   obtain⟨Y,o⟩:=bx ((j.alloc (.cells #[.bool a,.string d,.int .i64 c] 139)).setCells i 0 (dcs a d c))
   change Code.wp _ _ _ _ ((j.alloc (.cells #[.bool a,.string d,.int .i64 c] 139)).setCells i 0 (dcs a d c))
   rw[<-o]
   have u:CF Y i (dcs a d c):=by rw[o];exact f72.stored _ rfl
   have f:CF Y z (dcs false ⟨#[]⟩ 0):=by rw[o];exact f62.other _ TK
   have O:Caught Y gd gv gx v b x n s X:=by rw[o];exact C2.setCells _ aG aG aG aG aG
   have L:Onl b W Y:=by rw[o];exact I.own (mX TN _ _ eN) C
   have Ya:=u.1.get 0 rfl;have XZ:=u.1.get 1 rfl;have XY:=u.1.get 2 rfl;have XX:=u.1.1
   have Yf:=f.1.get 0 rfl;have Ye:=f.1.get 1 rfl;have Yd:=f.1.get 2 rfl;have Yb:=f.1.1;have OT:=f.2 0;have OS:=f.2 1;have OR:=f.2 2
   obtain⟨LH,E7,JR,P4⟩:=jv u f O L
   clear o u f O L Dn Dm Dl V Dq Dp Do f72 f62 I C2 t J B
   go_wp2_with fail
   go_roundw
   case rel=>exact⟨m+1,by omega,by omega,by go_num,qC,JR,E7,aL ⟨a,d,c,LH.out⟩,P4⟩
   case measure=>simp[intOf];omega

def yhV (r:Dc.Res):r.val= .tuple #[drv r,.int .i64 r.e]:=rfl
def ykk (v b x:Nat) (W:World) (J:Tab W) (hx:x<18446744073709551616) (hW:Wtr W v b) (t:3<=Fl.kind x∨(Fl.kind x<3/\(Fl.dec x).l =[])):
 Calls prog 80 #[.pointer (some ⟨v,0,none⟩),.int .u64 x] W (RetR b (.tuple #[drv (Fl.wdec x),.int .i64 (Fl.wdec x).e]) W):=by
 have hv:Fl.wdec x=Fl.dec x:=by
  rcases t with h|⟨h,j⟩
  ·rw[Fl.wdec,bT h,Fl.dec,bT h]
  ·rw[Fl.wdec,bv aG,bT j]
 rw[hv];have hd:=fun a (hb:Below W.heap.size W a)=>yjo x hx a (J.below hb);rw[yhV] at hd
 have m:(Fl.dec x).e =11∨((Fl.dec x).e =0/\(⟨(Fl.dec x).l.toArray⟩:ByteArray).toList.isEmpty =true):=by
  rcases t with h|⟨h,j⟩
  ·left;rw[Fl.dec,bT h]
  ·right;exact⟨(Fl.yfX x h).1,by rw[j];exact pB bL⟩
 rcases hq:Fl.dec x with ⟨n,l,X,e⟩;rw[hq] at hd m;simp only at m;unfold drv dag at hd ⊢;simp only at hd ⊢;obtain⟨S,B⟩:=bx (⟨l.toArray⟩:ByteArray);rw[<-B] at hd m ⊢;refine ykE ?_;intro bQ mu
 have F:CF (((W.alloc (Obj.cells #[.pointer (some ⟨v,0,none⟩)] 67)).alloc (Obj.cells #[.int .u64 x] 22)).alloc (Obj.cells #[.bool false,.string ⟨#[]⟩,.int .i64 0] 139)) (W.heap.size+1+1) (dcs false ⟨#[]⟩ 0):=by exact yia
 have q:Cs (((W.alloc (Obj.cells #[.pointer (some ⟨v,0,none⟩)] 67)).alloc (Obj.cells #[.int .u64 x] 22)).alloc (Obj.cells #[.bool false,.string ⟨#[]⟩,.int .i64 0] 139)) (W.heap.size+1) [.int .u64 x]:=by exact ygr
 have R:=aL hd;have Q:=aL (fun w' (h:Below W.heap.size W w')=>(⟨hW.rd.onl h,hW.rd.on h⟩:Onl b W w'/\Rdr w' b))
 have C: ∀ a,Below W.heap.size W a->CF a (W.heap.size+1+1) (dcs false ⟨#[]⟩ 0)->RetR b (.tuple #[.agg #[.bool n,.string S,.int .i64 X],.int .i64 e]) W (.returned (.tuple #[.agg #[.bool n,.string S,.int .i64 X],.int .i64 e])) (a.setCells (W.heap.size+1+1) 0 (dcs n S X))/\Cs (a.setCells (W.heap.size+1+1) 0 (dcs n S X)) (W.heap.size+1+1) (dcs n S X):=fun a K j=>
  ⟨⟨rfl,Q.out _ (mX aG _ _ K)⟩,Cs.stored _ j.1 rfl⟩
 have M:=aL C;have N:=q.get 0 rfl;have O:=q.1;clear C hd B hq hv hW;have L:e=11∨e=0/\S.toList.isEmpty=true:=m;clear m t;rcases L with rfl|⟨rfl,c⟩
 all_goals(
  go_enter func80,ntmps80
  go_upto_region 3 with (first|(go_at_call 107;refine cp (R.out _ mu) ?_;intro a w;have u:=mu.trans (w.mono mu.size);have G:=F.on w;have H:=u.size))
  have s:Below W.heap.size W (a.alloc (.cells #[.bool n,.string S,.int .i64 X] 139)):=u.alloc H _
  have d:=G.alloc (.cells #[.bool n,.string S,.int .i64 X] 139)
  have f:=Cs.new a (dcs n S X) 139
  change Cs (a.alloc (.cells #[.bool n,.string S,.int .i64 X] 139)) _ _ at f
  obtain⟨V,hV⟩:=bx (a.alloc (.cells #[.bool n,.string S,.int .i64 X] 139))
  rw[<-hV] at s d f ⊢
  obtain⟨E,r⟩: ∃ g,g=W.heap.size+1+1:=⟨_,rfl⟩
  obtain⟨i,D⟩:=M.out _ s (by rw[<-r] at d ⊢;exact d)
  rw[<-r] at i D d ⊢
  have r0:=d.1.get 0 rfl;have Y:=d.1.get 1 rfl;have U:=d.1.get 2 rfl;have T:=d.1.1;have z0:=d.2 0;have z1:=d.2 1;have z2:=d.2 2
  have y0:=f.get 0 rfl;have y1:=f.get 1 rfl;have y2:=f.get 2 rfl;have yl:=f.1
  obtain⟨P,o⟩:=dY i D
  clear i D d f s u w G H F mu hV r N O q
  go_wp2_with fail
  have z:=o.out.get 0 rfl;have y:=o.out.get 1 rfl;have u2:=o.out.get 2 rfl;have I:=o.out.1
  have i:=P.out
  obtain⟨Z,A⟩:=bx (V.setCells E 0 (dcs n S X))
  change bodyPost _ _ _ _ _ (V.setCells E 0 (dcs n S X))
  rw[<-A] at z y u2 I i ⊢
  clear A
  refine eB (v:= .tuple #[.agg #[.bool n,.string S,.int .i64 X],.int .i64 _]) (by(simp[results,results80,go_sem,z,y,u2];done)) rfl i)

def ynq (v b x:Nat) (W:World) (ht:Tab W) (hx:x<18446744073709551616) (hW:Wtr W v b) (A:Fl.kind x<3) (d:(Fl.dec x).l ≠[]):
 Calls prog 80 #[.pointer (some ⟨v,0,none⟩),.int .u64 x] W (RetR b (.tuple #[drv (Fl.wdec x),.int .i64 (Fl.wdec x).e]) W):=by
 obtain⟨M,L,i,E,C,d6,d7⟩:=Fl.yfX x A;obtain⟨k1, -⟩:=Fl.ya1 x A;have hv:Fl.wdec x=Fl.s8 (Fl.neg x) (Fl.dec x).l (Fl.dec x).x (x % 9223372036854775808):=by rw[Fl.wdec,bv aG,bv d]
 rw[k1];have o:=Fl.yi6 (s:=Fl.neg x) (lY (Fl.yiO A)) i d aG d6;have hd:=fun a (hb:Below W.heap.size W a)=>yjo x hx a (ht.below hb);rw[yhV] at hd;rcases hq:Fl.dec x with ⟨n,l,X,e⟩;rw[hq] at hd M L i E C o d hv;simp only at M L i E C o d hv;subst M;unfold drv dag at hd;simp only at hd;obtain⟨S,K⟩:=bx (⟨l.toArray⟩:ByteArray);have EK:S.data.toList=l:=by rw[K]
 rw[<-K] at hd;rw[<-EK] at i o d hv
 have oJ:=oj (s:=S) (by
  rcases ty S.size with h|h
  ·exact absurd (yM (by rw[dN];exact h)) d
  ·exact h)
 have f:=fun gd gv gx a (h:Caught a gd gv gx v b x (Fl.neg x) S X)=>yoK gd gv gx v b x S X a hx i d ⟨E,C⟩ h o;rw[<-hv] at f;subst L;obtain⟨n,hn⟩:=bx (Fl.neg x);rw[<-hn] at hd f;obtain⟨u,ot⟩: ∃ q,q=(Fl.wdec x).n :=⟨_,rfl⟩;obtain⟨y,U⟩: ∃ q:ByteArray,q=⟨(Fl.wdec x).l.toArray⟩:=⟨_,rfl⟩;obtain⟨w,Y⟩: ∃ q,q=(Fl.wdec x).x :=⟨_,rfl⟩;unfold drv dag at f ⊢;rw[<-ot,<-U,<-Y] at f ⊢;refine ykE ?_;intro bQ mu
 have f4:CF (((W.alloc (Obj.cells #[.pointer (some ⟨v,0,none⟩)] 67)).alloc (Obj.cells #[.int .u64 x] 22)).alloc (Obj.cells #[.bool false,.string ⟨#[]⟩,.int .i64 0] 139)) (W.heap.size+1+1) (dcs false ⟨#[]⟩ 0):=by exact yia
 have t:Cs (((W.alloc (Obj.cells #[.pointer (some ⟨v,0,none⟩)] 67)).alloc (Obj.cells #[.int .u64 x] 22)).alloc (Obj.cells #[.bool false,.string ⟨#[]⟩,.int .i64 0] 139)) (W.heap.size+1) [.int .u64 x]:=by exact ygr
 have R:Cs (((W.alloc (Obj.cells #[.pointer (some ⟨v,0,none⟩)] 67)).alloc (Obj.cells #[.int .u64 x] 22)).alloc (Obj.cells #[.bool false,.string ⟨#[]⟩,.int .i64 0] 139)) W.heap.size [.pointer (some ⟨v,0,none⟩)]:=
  ((Cs.new W [.pointer (some ⟨v,0,none⟩)] 67).alloc _).alloc _
 obtain⟨HD,pZ,HW⟩:=iJ hd f hW;have LV:=t.get 0 rfl;have LU:=t.1;clear hd f hW hn ot U Y hv K EK i d o k1 hq E C d6 d7 ht A;go_enter func80,ntmps80
 go_upto_region 4 with (first|(go_at_call 107;refine cp (HD.out _ mu) ?_;intro a m;have O:=mu.trans (m.mono mu.size);have f1:=f4.on m;have c3:=t.on m;have c2:=R.on m;have cH:=O.size;have T:=m.size))
 have fb:W.heap.size+3<=a.heap.size:=by simpa using T
 have z:Below W.heap.size W (a.alloc (.cells #[.bool n,.string S,.int .i64 X] 139)):=O.alloc cH _;have B:=f1.alloc (.cells #[.bool n,.string S,.int .i64 X] 139)
 have j:Caught (a.alloc (.cells #[.bool n,.string S,.int .i64 X] 139)) a.heap.size W.heap.size (W.heap.size+1) v b x n S X:=
  ⟨Cs.new a (dcs n S X) 139,c2.alloc _,c3.alloc _,HW.out.on z,by omega,by omega,by omega⟩
 obtain⟨V,hV⟩:=bx (a.alloc (.cells #[.bool n,.string S,.int .i64 X] 139));rw[<-hV] at z B j ⊢;obtain⟨g6,F⟩: ∃ g,g=a.heap.size:=⟨_,rfl⟩;obtain⟨r,H⟩: ∃ g,g=W.heap.size+1+1:=⟨_,rfl⟩;obtain⟨g3,P⟩: ∃ g,g=W.heap.size+1:=⟨_,rfl⟩;obtain⟨g2,I⟩: ∃ g,g=W.heap.size:=⟨_,rfl⟩;rw[<-F,<-P] at j;have j:Caught V g6 g2 g3 v b x n S X:=by rw[I];exact j
 rw[<-H] at B;have B2:r≠b/\W.heap.size<=r:=aG;rw[<-F,<-H,<-P,<-I];have qG:=aL (Onl.of bQ z);obtain⟨JR,Q⟩:=dY j B;clear hV F H P I O m f1 c3 c2 cH T fb mu f4 t R LV LU j B z HD HW;go_wp2_with (first|(go_at_call 108;refine cV (pZ.out _ _ _ _ JR.out) ?_;rintro e G ⟨rfl,N,km⟩;have c:=Q.out.onl N B2.1;have r0:=c.1.get 0 rfl;have r1:=c.1.get 1 rfl;have r2:=c.1.get 2 rfl;have rl:=c.1.1;have z0:=c.2 0;have z1:=c.2 1;have z2:=c.2 2;have rC:=aL c;have kg:=aL (qG.out.trans N);have kf:=aL km;clear c N km))
 obtain⟨Z,J⟩:=bx (G.setCells r 0 (dcs u y w));change bodyPost _ _ _ _ _ (G.setCells r 0 (dcs u y w));have D:Cs Z r (dcs u y w):=by rw[J];exact Cs.stored _ rC.out.1 rfl
 have bZ:Below W.heap.size G Z:=by rw[J];exact mX B2.2 _ _ eN
 rw[<-J];have u0:=D.get 0 rfl;have u1:=D.get 1 rfl;have u2:=D.get 2 rfl;have ul:=D.1;refine eB (v:= .tuple #[.agg #[.bool u,.string y,.int .i64 w],.int .i64 0]) (by(simp[results,results80,go_sem,u0,u1,u2];done)) rfl ⟨rfl,kg.out.own bZ bQ,kf.out.below bZ bQ⟩
def ypa (v b x:Nat) (W:World) (a:Tab W) (hx:x<18446744073709551616) (c:Wtr W v b):
 Calls prog 80 #[.pointer (some ⟨v,0,none⟩),.int .u64 x] W (RetR b (.tuple #[drv (Fl.wdec x),.int .i64 (Fl.wdec x).e]) W):=by
 by_cases e:3<=Fl.kind x
 ·exact ykk v b x W a hx c (Or.inl e)
 ·by_cases d:(Fl.dec x).l =[]
  ·exact ykk v b x W a hx c (Or.inr ⟨by omega,d⟩)
  ·exact ynq v b x W a hx c aG d

def TabB (b:Nat) (w:World):Prop:= ∃ W0,Tab W0/\W0.heap.size<=b/\Below W0.heap.size W0 w
def TabB.tab {b:Nat} {w:World} (h:TabB b w):Tab w:=by obtain⟨W0,c,d,a⟩:=h;exact c.below a
def TabB.on {b:Nat} {w w':World} (h:TabB b w) (hb:Below w.heap.size w w'):TabB b w':=by obtain⟨W0,d,c,a⟩:=h;exact⟨W0,d,c,a.trans (hb.mono a.size)⟩
def TabB.onl {b:Nat} {w w':World} (h:TabB b w) (c:Onl b w w'):TabB b w':=by obtain⟨W0,e,a,d⟩:=h;exact⟨W0,e,a,d.trans (c.up a)⟩
def Fl.ytx {x:Nat} (hx:x<18446744073709551616) (h:Fl.qk x=[]):Fl.kind x<3:=by
 have c:=Fl.ymj x;rcases qt (Fl.kind x) 3 with b|b
 ·exact b
 ·exfalso;rcases(show Fl.kind x=3∨Fl.kind x=4 by omega) with a|a
  ·rcases Fl.yiF hx a with e|e<;>rw[e] at h<;>exact absurd h bL
  ·rw[Fl.qk,bT a] at h;exact absurd h bL
def yu2 (v b x:Nat) (W:World) (g:TabB b W) (hx:x<18446744073709551616) (f:Wtr W v b):
 Calls prog 46 #[.pointer (some ⟨v,0,none⟩),.int .u64 x] W (RetR b (.string ⟨(Fl.oQ x).toArray⟩) W):=by
 have hn:=fun a=>yrL x a hx;by_cases h:Fl.qk x=[]
 ·have hv:Fl.oQ x=Dc.print (Fl.wdec x).n (Fl.wdec x).l (Fl.wdec x).x :=by rw[Fl.oQ,bv (by rw[h];simp)]
  obtain⟨o,G,n,F, -⟩:=Fl.ya1 x (Fl.ytx hx h);have u:=Dc.sj n;rw[h] at hn;have hd:=ypa v b x W g.tab hx f;rw[o] at hd;unfold drv dag at hd;have d:=fun a (D:Tab a)=>yrK (Fl.wdec x).n ⟨(Fl.wdec x).l.toArray⟩ (Fl.wdec x).x a (by rw[<-dN,NP];omega) aG D;rw[NP,<-hv] at d;obtain⟨y,l⟩: ∃ q,q=(Fl.wdec x).n :=⟨_,rfl⟩;obtain⟨A,j⟩: ∃ q:ByteArray,q=⟨(Fl.wdec x).l.toArray⟩:=⟨_,rfl⟩;obtain⟨z,k⟩: ∃ q,q=(Fl.wdec x).x :=⟨_,rfl⟩;obtain⟨P,c⟩: ∃ q:ByteArray,q=⟨(Fl.oQ x).toArray⟩:=⟨_,rfl⟩;rw[<-l,<-j,<-k] at hd d;rw[<-c] at d ⊢;have r:=f.rd.lt;obtain⟨i,N,M⟩:=iJ hn hd d;have L:=aL (fun(a:World) (H:Onl b W a)=>((g.onl H).tab :Tab a));clear hn hd d l j k c hv o G n F u h f g;go_enter func46,ntmps46
  go_wp2_with (first|(go_at_call 79;refine cY (i.out _) ?_)|(go_at_call 80;refine cV N.out ?_;rintro e a ⟨rfl,K,O⟩;have t:Below a.heap.size a (a.alloc (Obj.cells #[.bool y,.string A,.int .i64 z] 139)):=ek;have m:=K.more r t;have B:=O.on t;have w:=L.out _ m)|(go_at_call 81;refine cp (M.out _ w) ?_;intro Q hb2;have E:=m.more r hb2;have C:=B.on hb2))
  go_ret
  exact⟨rfl,E,C⟩
 ·have hv:Fl.oQ x=Fl.qk x:=by rw[Fl.oQ,bT h]
  rw[hv];obtain⟨P,c⟩: ∃ q:ByteArray,q=⟨(Fl.qk x).toArray⟩:=⟨_,rfl⟩
  have R:=oj (s:=P) (by rw[c,<-dN,NP];exact ti.2 h)
  rw[<-c] at hn ⊢;have i:=aL hn;have I:=Onl.refl b W;have J:=f.rd;clear hn c hv h;go_enter func46,ntmps46
  go_wp2_with (first|(go_at_call 79;refine cY (i.out _) ?_))
  go_ret
  exact⟨rfl,I,J⟩










end Go.Proofs.YtilbpmimoijfhaaGreatDoor
