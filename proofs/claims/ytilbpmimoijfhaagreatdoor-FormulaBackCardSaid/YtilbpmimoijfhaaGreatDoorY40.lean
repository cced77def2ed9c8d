/- Formulas: whether a tree is right, its size, by the document. -/
import Derived.Test.YtilbpmimoijfhaaGreatDoorY36
import Derived.Test.YtilbpmimoijfhaaGreatDoorY26
namespace Go.Proofs.YtilbpmimoijfhaaGreatDoor
set_option linter.all false
set_option maxRecDepth 100000
set_option maxHeartbeats 16000000
open Go.RowKit Go.Proofs.Tryz
section
open Fx (Tr)
def ydQ (t:Tr) (v:Value) (lo hi:Nat) (w:World) (d:TreeAt w lo hi t v) (l:hi<=w.heap.size):
 Calls prog 11 #[trv t v] w (RetB (.tuple #[.int .i64 (Fx.size t).1,.int .i64 (Fx.size t).2]) w):=by
 have b: ∀ W:World,Below w.heap.size w W->Calls prog 29 #[trv t v,.int .i64 1000] W (RetB (.int .i64 (Fx.cnt t 1000:Nat)) W):=fun W f=>you _ t v 1000 lo hi W cm (d.below f l) (dE l f.size) bL;have j:Fx.num t<=1000-> ∀ W:World,Below w.heap.size w W->Calls prog 30 #[trv t v] W (RetB (.int .i64 (Fx.deep t:Nat)) W):=fun hn W f=>yvm _ t v lo hi W cm (d.below f l) (dE l f.size) aG;obtain⟨K,X,G,I,F,E,C,B,a4,A,b2,z,y,a,m,c,rfl,o, -, -, -, -, -⟩:=d.flat;rw[o] at b j ⊢;by_cases hn:Fx.num t<=1000
 ·have i:Fx.size t=(Fx.num t,Fx.deep t):=bv aG;have g:Fx.cnt t 1000=Fx.num t:=by unfold Fx.cnt;omega
  rw[i];rw[g] at b;have n:=aL b;have s:=aL (j hn);obtain⟨N,q⟩:=bx (Fx.num t);obtain⟨D,r⟩:=bx (Fx.deep t);rw[<-q] at n hn ⊢;rw[<-r] at s ⊢;have x:(N:Int)<=1000:=aG;clear b j o i g q r d;go_enter func11,ntmps11
  go_wp2_with (first|(go_at_call 29;(with_reducible refine(n.out _ dt).mono ?_);rintro e u ⟨rfl,ab⟩;refine tE ?_;intro ao ay az af ai am al aj ag ap)|(go_at_call 30;(with_reducible refine(s.out _ dt).mono ?_);refine yT ?_;intro w2 aa aI aO aN ah aA aF aE aD au aJ))
  go_ret2
  exact qO
 ·have i:Fx.size t=(1001,0):=bT aG;have g:Fx.cnt t 1000=1001:=by unfold Fx.cnt;omega
  rw[i];rw[g] at b;have n:=aL b;clear b j o i g d;go_enter func11,ntmps11
  go_wp2_with (first|(go_at_call 29;(with_reducible refine(n.out _ dt).mono ?_);rintro e u ⟨rfl,ab⟩;refine tE ?_;intro ao ay az af ai am al aj ag ap))
  go_ret2
  exact qO
def yt1: ∀ (n:Nat) (t:Tr) (v:Value) (lo hi:Nat) (w:World),Fx.num t<=n->TreeAt w lo hi t v->hi<=w.heap.size->Fx.tmax t<=9223372036854775807->
 Calls prog 32 #[trv t v] w (RetB (.bool (Fx.hG t)) w):=by
 intro n
 induction n with
 |zero=>intro t v lo hi w hn;have:=Tr.yo t;omega
 |succ n G=>
  intro t v lo hi w hn x cF hm
  rw[Fx.yhR] at hm
  have u: ∀ W:World,Below w.heap.size w W->Calls prog 44 #[trv t v] W (RetB (.bool (Fx.g8 t)) W):=fun W hW=>yuX t v lo hi W (x.below hW cF) aG
  obtain⟨K,X,TT,I,F,a1,a2,a3,a4,b1,b2,b3,b4,a,m,c,rfl,D, -,cB,hc,kD,C⟩:=x.flat
  obtain⟨r,hr⟩:=bx (Fx.hG t)
  obtain⟨q,hq⟩:=bx (Fx.g8 t)
  rw[<-hq] at u
  rw[D] at u
  rw[<-hr,D]
  obtain⟨ks,g⟩:=bx (t.kids)
  rw[Fx.yi1,<-g,<-hq] at hr
  rw[vd,<-g] at hn
  rw[<-g] at cB C hm
  have z:r=(q&&Fx.jz (ks.take m)):=Se
  have O: ∀ (k:Nat) (d:k<ks.length),Fx.num ks[k]<=n/\Fx.tmax ks[k]<=9223372036854775807:=fun k d=>by have:=yy d;have:=Fx.ygB d;omega
  have L: ∀ (k:Nat),k<=m->(q&&Fx.jz (ks.take k))=false->r=false:=fun k d h=>by
   rw[z]
   cases q with
   |false=>rfl
   |true=>
    rw[gA] at h ⊢
    have e:ks.take m=ks.take k++(ks.take m).drop k:=by have:=(ze k (ks.take m)).symm;rwa[ya0,rD d] at this
    rw[e,Fx.ybE,h];rfl
  obtain⟨HR,HK,HM,cW,IH,iX,HN⟩:=zo z O cB C G L u
  clear hr z O cB C G D g x hn hc hm L u hq
  go_enter func32,ntmps32
  go_wp2_with (first|(go_at_call 44;(with_reducible refine(HN.out _ dt).mono ?_);rintro e E ⟨rfl,j⟩;obtain⟨ao,ay,az,af⟩:=g9 (w) j;(try simp only[fO,gz,fY,gt] at af);obtain⟨ai,am,al,aj,ag,ap⟩:=own6 j (w.heap.size)))
  have iA:E.cell? ⟨w.heap.size,13,none⟩=some (.slice a m c):=(j.cell (p:=⟨w.heap.size,13,none⟩) cn).trans Ci
  have P:w.heap.size<E.heap.size:=eR cn j.size
  go_loopw [3,4] (fun s i wr=> ∃ k:Nat,k<=m/\i= .int .i64 k/\(∃ y:Bool,s= .bool y/\Hid (y=(q&&Fx.jz (ks.take k))))/\wr.cell? ⟨w.heap.size,13,none⟩=some (.slice a m c)/\w.heap.size<wr.heap.size/\Below w.heap.size w wr) (fun _ i _=>m-(intOf i).toNat)
  case atStart=>exact⟨0,iH _,rfl,⟨_,rfl,aL (by rw[wh,Fx.jz,jW])⟩,iA,P,ao⟩
  case round=>
   obtain⟨k,d,rfl,⟨y,rfl,f⟩,gX,M,N⟩:=hrel
   have nT:=N.size
   by_cases aW:k<m
   ·have dz:k<ks.length:=Cf
    have i1:(k:Int)<(m:Int):=aG
    cases y with
    |false=>
     have HE:=aL (iX.out k d f.out.symm)
     clear f
     go_wp2_with fail
     exact vK
    |true=>
     obtain⟨b,o,rfl,aw,hb2,J⟩:=cW.out aG
     obtain⟨K',X',T',I',F',Q,R,S,T,U,V,Y,Z,ak,lk,ck,gT,tk,q0,q1,q2,q3,q4,q5,q6,q7,q8,q9,Eh,Eg,Ef,Ee⟩:=J.kid (wr:=wr) dz (N.block b aG)
     have B: ∀ (W:World),Below w.heap.size w W->Calls prog 32 #[.agg #[.int .i64 K',.int .u64 (X':Nat),.string T',.bool I',.int .i64 F',.int .i64 Q,.int .i64 R,.bool S,.bool T,.int .i64 U,.int .i64 V,.bool Y,.bool Z,.slice ak lk ck]] W (RetB (.bool (Fx.hG ks[k])) W):=fun W hW=>by exact yaG
     have A:Fx.hG ks[k]=(q&&Fx.jz (ks.take (k+1))):=by have h:=f.out.symm;rw[fs] at h;rw[Fx.ylv dz,h.1,h.2];rfl
     obtain⟨p,H⟩:=bx (Fx.hG ks[k])
     rw[<-H] at B A
     obtain⟨HC,HS⟩:=dY B A
     clear B A H f tk J gT
     go_wp2_with (first|(go_at_call 32;(with_reducible refine(HC.out _ dt).mono ?_);rintro e w2 ⟨rfl,l⟩;obtain⟨aI,aO,aN,ah⟩:=g9 (w) l;(try simp only[fO,gz,fY,gt] at ah);obtain⟨aA,aF,aE,aD,au,aJ⟩:=own6 l (w.heap.size)))
     exact⟨⟨k+1,by omega,by go_num,⟨p,rfl,HS⟩,(l.cell (p:=⟨w.heap.size,13,none⟩) (by first|exact M|omega)).trans gX,eR M l.size,aI⟩,by simp[intOf];omega⟩
   ·have dM:k=m:=aG
    subst dM
    have HE:=aL (show r=y by rw[HR.out,f.out])
    clear f
    go_wp2_with fail
    exact vK
def ym2 (t:Tr) (v:Value) (lo hi:Nat) (w:World) (g:TreeAt w lo hi t v) (j:hi<=w.heap.size) (hm:Fx.tmax t<=9223372036854775807):
 Calls prog 13 #[trv t v] w (RetB (.bool (Fx.right t)) w):=by
 have x: ∀ W:World,Below w.heap.size w W->Calls prog 11 #[trv t v] W (RetB (.tuple #[.int .i64 (Fx.size t).1,.int .i64 (Fx.size t).2]) W):=fun W d=>ydQ t v lo hi W (g.below d j) (dE j d.size);have n: ∀ W:World,Below w.heap.size w W->Calls prog 32 #[trv t v] W (RetB (.bool (Fx.hG t)) W):=fun W d=>yt1 _ t v lo hi W cm (g.below d j) (dE j d.size) hm
 have b:Fx.right t=(decide ((Fx.size t).1 <=500)&&(decide ((Fx.size t).2 <=100)&&Fx.hG t)):=by
  unfold Fx.right Fx.size;by_cases h:1000<Fx.num t
  ·rw[bT h,eL (show ¬ Fx.num t<=500 by omega)];rfl
  ·rw[bv h]
 obtain⟨K,X,J,I,F,H,G,E,a4,C,b2,B,A,a,m,c,rfl,l, -, -, -, -, -⟩:=g.flat;obtain⟨r,o⟩:=bx (Fx.right t);obtain⟨q,hq⟩:=bx (Fx.hG t);obtain⟨N,s⟩:=bx ((Fx.size t).1);obtain⟨D,u⟩:=bx ((Fx.size t).2);rw[<-o,<-hq,<-s,<-u] at b;rw[l,<-s,<-u] at x;rw[l,<-hq] at n;rw[<-o,l];obtain⟨HS,HN⟩:=dY x n;clear x n l s u hq o g;by_cases f:N<=500
 ·rw[fv f,gA] at b;have z:(N:Int)<=500:=aG;by_cases i:D<=100
  ·rw[fv i,gA] at b;have y:(D:Int)<=100:=aG;have HE:=aL b;clear b f i;go_enter func13,ntmps13
   go_wp2_with (first|(go_at_call 11;refine Oj ?_;intro w1 ab;refine tE ?_;intro ao ay az af ai am al aj ag ap)|(go_at_call 32;refine Mg ?_;refine yT ?_;intro w2 aa aI aO aN ah aA aF aE aD au aJ))
   exact vK
  ·rw[eL i,KH] at b;have y: ¬ (D:Int)<=100:=aG;have HE:=aL b;clear b f i;go_enter func13,ntmps13
   go_wp2_with (first|(go_at_call 11;refine Oj ?_;intro w1 ab;refine tE ?_;intro ao ay az af ai am al aj ag ap)|(go_at_call 32;refine Mg ?_;refine yT ?_;intro w2 aa aI aO aN ah aA aF aE aD au aJ))
   exact vK
 ·rw[eL f,KH] at b;have z: ¬ (N:Int)<=500:=aG;have HE:=aL b;clear b f;go_enter func13,ntmps13
  go_wp2_with (first|(go_at_call 11;refine Oj ?_;intro w1 ab;refine tE ?_;intro ao ay az af ai am al aj ag ap)|(go_at_call 32;refine Mg ?_;refine yT ?_;intro w2 aa aI aO aN ah aA aF aE aD au aJ))
  exact vK
end
end Go.Proofs.YtilbpmimoijfhaaGreatDoor
