/- Formulas: whether a tree is right, by the program: Size, nodes, Right. -/
import Derived.Test.YtilbpmimoijfhaaGreatDoorY20
import Derived.Test.YtilbpmimoijfhaaGreatDoorY5
namespace Go.Proofs.YtilbpmimoijfhaaGreatDoor
set_option linter.all false
set_option maxRecDepth 100000
set_option maxHeartbeats 16000000
open Go.RowKit Go.Proofs.Tryz
section
open Fx (Tr)
namespace Fx
mutual
def tmax:Tr->Nat | .mk _ _ t _ _ _ _ ks=>max t.length (uL ks)
def uL:List Tr->Nat | []=>0|k::ks=>max (tmax k) (uL ks)
end
def yhR (t:Tr):tmax t=max t.txt.length (uL t.kids):=by cases t;rw[tmax];rfl
def ygB {ks:List Tr} {k:Nat} (h:k<ks.length):tmax ks[k]<=uL ks:=by
 induction ks generalizing k with
 |nil=>simp at h
 |cons t ks a=>
  rw[uL]
  cases k with
  |zero=>simp only[ydO];omega
  |succ k=>have:=a (k:=k) nu;simp only[Np];omega
def yi1 (t:Tr):hG t=(g8 t&&jz t.kids):=by cases t;rw[hG];rfl
def ylv {ks:List Tr} {k:Nat} (h:k<ks.length):jz (ks.take (k+1))=(jz (ks.take k)&&hG ks[k]):=by rw[yh h,ybE,jz,jz,jW]
def ywo {ks:List Tr} {k:Nat} (h:k<ks.length) (a:hG ks[k]=false):jz ks=false:=by
 have e:ks=ks.take k++ks[k]::ks.drop (k+1):=by rw[ykL,ze]
 rw[e,ybE,jz,a];simp
end Fx
def yfu (t:Tr) (v:Value) (lo hi:Nat) (w:World) (d:TreeAt w lo hi t v) (l:hi<=w.heap.size):
 Calls prog 10 #[trv t v] w (RetB (.tuple #[.int .i64 (Fx.size t).1,.int .i64 (Fx.size t).2]) w):=by
 have b: ∀ W:World,Below w.heap.size w W->Calls prog 27 #[trv t v,.int .i64 1000] W (RetB (.int .i64 (Fx.cnt t 1000:Nat)) W):=fun W f=>yxd _ t v 1000 lo hi W cm (d.below f l) (dE l f.size) bL;have j:Fx.num t<=1000-> ∀ W:World,Below w.heap.size w W->Calls prog 28 #[trv t v] W (RetB (.int .i64 (Fx.deep t:Nat)) W):=fun hn W f=>ytu _ t v lo hi W cm (d.below f l) (dE l f.size) aG;obtain⟨K,X,G,I,F,E,C,B,a4,A,b2,z,y,a,m,c,rfl,o, -, -, -, -, -⟩:=d.flat;rw[o] at b j ⊢;by_cases hn:Fx.num t<=1000
 ·have i:Fx.size t=(Fx.num t,Fx.deep t):=bv aG;have g:Fx.cnt t 1000=Fx.num t:=by unfold Fx.cnt;omega
  rw[i];rw[g] at b;have n:=aL b;have s:=aL (j hn);obtain⟨N,q⟩:=bx (Fx.num t);obtain⟨D,r⟩:=bx (Fx.deep t);rw[<-q] at n hn ⊢;rw[<-r] at s ⊢;have x:(N:Int)<=1000:=aG;clear b j o i g q r d;go_enter func10,ntmps10
  go_wp2_with (first|(go_at_call 27;(with_reducible refine(n.out _ dt).mono ?_);rintro e u ⟨rfl,ab⟩;refine tE ?_;intro ao ay az af ai am al aj ag ap)|(go_at_call 28;(with_reducible refine(s.out _ dt).mono ?_);refine yT ?_;intro w2 aa aI aO aN ah aA aF aE aD au aJ))
  go_ret2
  exact qO
 ·have i:Fx.size t=(1001,0):=bT aG;have g:Fx.cnt t 1000=1001:=by unfold Fx.cnt;omega
  rw[i];rw[g] at b;have n:=aL b;clear b j o i g d;go_enter func10,ntmps10
  go_wp2_with (first|(go_at_call 27;(with_reducible refine(n.out _ dt).mono ?_);rintro e u ⟨rfl,ab⟩;refine tE ?_;intro ao ay az af ai am al aj ag ap))
  go_ret2
  exact qO
def yvt: ∀ (n:Nat) (t:Tr) (v:Value) (lo hi:Nat) (w:World),Fx.num t<=n->TreeAt w lo hi t v->hi<=w.heap.size->Fx.tmax t<=9223372036854775807->
 Calls prog 31 #[trv t v] w (RetB (.bool (Fx.hG t)) w):=by
 intro n
 induction n with
 |zero=>intro t v lo hi w hn;have:=Tr.yo t;omega
 |succ n J=>
  intro t v lo hi w hn A cF hm
  rw[Fx.yhR] at hm
  have z: ∀ W:World,Below w.heap.size w W->Calls prog 43 #[trv t v] W (RetB (.bool (Fx.g8 t)) W):=fun W hW=>ysb t v lo hi W (A.below hW cF) aG
  obtain⟨K,X,TT,I,F,a1,a2,a3,a4,b1,b2,b3,b4,a,m,c,rfl,E, -,cB,hc,kD,D⟩:=A.flat
  obtain⟨r,hr⟩:=bx (Fx.hG t)
  obtain⟨q,hq⟩:=bx (Fx.g8 t)
  rw[<-hq] at z
  rw[E] at z
  rw[<-hr,E]
  obtain⟨ks,x⟩:=bx (t.kids)
  rw[Fx.yi1,<-x,<-hq] at hr
  rw[vd,<-x] at hn
  rw[<-x] at cB D hm
  have L:r=(q&&Fx.jz (ks.take m)):=Se
  have N: ∀ (k:Nat) (g:k<ks.length),Fx.num ks[k]<=n/\Fx.tmax ks[k]<=9223372036854775807:=fun k g=>by have:=yy g;have:=Fx.ygB g;omega
  have j: ∀ (k:Nat) (g:k<ks.length),Fx.hG ks[k]=false->r=false:=fun k g h=>by rw[hr,Fx.ywo g h];simp
  obtain⟨HR,HK,HM,cW,IH,iX,HN⟩:=zo L N cB D J j z
  clear hr L N cB D J E x A hn hc hm j z hq
  go_enter func31,ntmps31
  go_wp2_with fail
  go_loopw [8] (fun i wr=> ∃ k:Nat,k<=m/\i= .int .i64 k/\Hid (Fx.jz (ks.take k)=true)/\Hid (Cs wr w.heap.size [.int .i64 K,.int .u64 (X:Nat),.string TT,.bool I,.int .i64 F,.int .i64 a1,.int .i64 a2,.bool a3,.bool a4,.int .i64 b1,.int .i64 b2,.bool b3,.bool b4,.slice a m c])/\Below w.heap.size w wr) (fun i _=>m-(intOf i).toNat)
  case atStart=>exact⟨0,iH _,rfl,aL (by rw[wh,Fx.jz]),aL (Cs.new _ _ _),by(repeat(first|exact eN|assumption|refine vh ?_ mY _|refine vc ?_ mY _|refine vr ?_|refine oY ?_ _))⟩
  case round=>
   obtain⟨k,g,rfl,l,O,M⟩:=hrel
   have nT:=M.size
   by_cases aW:k<m
   ·have dz:k<ks.length:=Cf
    obtain⟨b,o,rfl,aw,hb2,C⟩:=cW.out aG
    obtain⟨K',X',T',I',F',kX,kW,kV,kU,kT,kS,kR,kQ,ak,lk,ck,gT,tk,q0,q1,q2,q3,q4,q5,q6,q7,q8,q9,Eh,Eg,Ef,Ee⟩:=C.kid (wr:=wr) dz (M.block b aG)
    have y: ∀ (W:World),Below w.heap.size w W->Calls prog 31 #[.agg #[.int .i64 K',.int .u64 (X':Nat),.string T',.bool I',.int .i64 F',.int .i64 kX,.int .i64 kW,.bool kV,.bool kU,.int .i64 kT,.int .i64 kS,.bool kR,.bool kQ,.slice ak lk ck]] W (RetB (.bool (Fx.hG ks[k])) W):=fun W hW=>by exact yaG
    have s:=Fx.ylv dz
    have j:=iX.out k dz
    obtain⟨p,B⟩:=bx (Fx.hG ks[k])
    rw[<-B] at y s j
    rw[l.out,gA] at s
    have Z:=aL y
    have i1:(k:Int)<(m:Int):=aG
    cases p
    ·have HE:=aL (j rfl)
     clear y s j B l tk C gT
     go_wp2_with (first|(go_at_call 31;(with_reducible refine(Z.out _ dt).mono ?_);rintro e H ⟨rfl,f⟩;obtain⟨G,Q,R,u⟩:=g9 (w) f;(try simp only[fO,gz,fY,gt] at u);obtain⟨Y,T,U,V,P,S⟩:=own6 f (w.heap.size)))
     exact vK
    ·have HS:=aL s
     clear y s j B l tk C gT
     go_wp2_with (first|(go_at_call 31;(with_reducible refine(Z.out _ dt).mono ?_);rintro e H ⟨rfl,f⟩;obtain⟨G,Q,R,u⟩:=g9 (w) f;(try simp only[fO,gz,fY,gt] at u);obtain⟨Y,T,U,V,P,S⟩:=own6 f (w.heap.size)))
     exact⟨⟨k+1,by omega,by go_num,HS,aL ((O.out.alloc _).on f),G⟩,by simp[intOf];omega⟩
   ·have dM:k=m:=aG
    subst dM
    have HE:=aL (show r=q by rw[HR.out,l.out,jW])
    have d:=O.out
    have c0:=d.get 0 rfl;have c1:=d.get 1 rfl;have c2:=d.get 2 rfl;have c3:=d.get 3 rfl;have c4:=d.get 4 rfl;have c5:=d.get 5 rfl;have c6:=d.get 6 rfl
    have c7:=d.get 7 rfl;have c8:=d.get 8 rfl;have c9:=d.get 9 rfl;have Du:=d.get 10 rfl;have Dt:=d.get 11 rfl;have Ds:=d.get 12 rfl;have tN:=d.get 13 rfl
    have WE:w.heap.size<wr.heap.size:=d.1
    clear l d
    go_wp2_with (first|(go_at_call 43;(with_reducible refine(HN.out _ dt).mono ?_);rintro e H ⟨rfl,f⟩;obtain⟨G,Q,R,u⟩:=g9 (w) f;(try simp only[fO,gz,fY,gt] at u);obtain⟨Y,T,U,V,P,S⟩:=own6 f (w.heap.size)))
    exact vK
def Y5 (t:Tr) (v:Value) (lo hi:Nat) (w:World) (g:TreeAt w lo hi t v) (j:hi<=w.heap.size) (hm:Fx.tmax t<=9223372036854775807):
 Calls prog 12 #[trv t v] w (RetB (.bool (Fx.right t)) w):=by
 have x: ∀ W:World,Below w.heap.size w W->Calls prog 10 #[trv t v] W (RetB (.tuple #[.int .i64 (Fx.size t).1,.int .i64 (Fx.size t).2]) W):=fun W d=>yfu t v lo hi W (g.below d j) (dE j d.size);have n: ∀ W:World,Below w.heap.size w W->Calls prog 31 #[trv t v] W (RetB (.bool (Fx.hG t)) W):=fun W d=>yvt _ t v lo hi W cm (g.below d j) (dE j d.size) hm
 have b:Fx.right t=(decide ((Fx.size t).1 <=500)&&(decide ((Fx.size t).2 <=100)&&Fx.hG t)):=by
  unfold Fx.right Fx.size;by_cases h:1000<Fx.num t
  ·rw[bT h,eL (show ¬ Fx.num t<=500 by omega)];rfl
  ·rw[bv h]
 obtain⟨K,X,J,I,F,H,G,E,a4,C,b2,B,A,a,m,c,rfl,l, -, -, -, -, -⟩:=g.flat;obtain⟨r,o⟩:=bx (Fx.right t);obtain⟨q,hq⟩:=bx (Fx.hG t);obtain⟨N,s⟩:=bx ((Fx.size t).1);obtain⟨D,u⟩:=bx ((Fx.size t).2);rw[<-o,<-hq,<-s,<-u] at b;rw[l,<-s,<-u] at x;rw[l,<-hq] at n;rw[<-o,l];obtain⟨HS,HN⟩:=dY x n;clear x n l s u hq o g;by_cases f:N<=500
 ·rw[fv f,gA] at b;have z:(N:Int)<=500:=aG;by_cases i:D<=100
  ·rw[fv i,gA] at b;have y:(D:Int)<=100:=aG;have HE:=aL b;clear b f i;go_enter func12,ntmps12
   go_wp2_with (first|(go_at_call 10;refine Oj ?_;intro w1 ab;refine tE ?_;intro ao ay az af ai am al aj ag ap)|(go_at_call 31;refine Mg ?_;refine yT ?_;intro w2 aa aI aO aN ah aA aF aE aD au aJ))
   exact vK
  ·rw[eL i,KH] at b;have y: ¬ (D:Int)<=100:=aG;have HE:=aL b;clear b f i;go_enter func12,ntmps12
   go_wp2_with (first|(go_at_call 10;refine Oj ?_;intro w1 ab;refine tE ?_;intro ao ay az af ai am al aj ag ap)|(go_at_call 31;refine Mg ?_;refine yT ?_;intro w2 aa aI aO aN ah aA aF aE aD au aJ))
   exact vK
 ·rw[eL f,KH] at b;have z: ¬ (N:Int)<=500:=aG;have HE:=aL b;clear b f;go_enter func12,ntmps12
  go_wp2_with (first|(go_at_call 10;refine Oj ?_;intro w1 ab;refine tE ?_;intro ao ay az af ai am al aj ag ap)|(go_at_call 31;refine Mg ?_;refine yT ?_;intro w2 aa aI aO aN ah aA aF aE aD au aJ))
  exact vK
end
end Go.Proofs.YtilbpmimoijfhaaGreatDoor
