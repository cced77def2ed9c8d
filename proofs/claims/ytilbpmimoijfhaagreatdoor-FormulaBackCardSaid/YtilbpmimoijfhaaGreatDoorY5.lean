/- Formulas: how many nodes a tree has, how deep it is, by the program. -/
import Derived.Test.YtilbpmimoijfhaaGreatDoorY2
namespace Go.Proofs.YtilbpmimoijfhaaGreatDoor
set_option linter.all false
set_option maxRecDepth 100000
set_option maxHeartbeats 16000000
open Go.RowKit Go.Proofs.Tryz
section
open Fx (Tr)
def yin {ks:List Tr} {k:Nat} (h:k<ks.length):Fx.nums (ks.take (k+1))=Fx.nums (ks.take k)+Fx.num ks[k]:=by
 induction ks generalizing k with
 |nil=>simp at h
 |cons t ks a=>
  cases k with
  |zero=>simp[Fx.nums]
  |succ k=>rw[yat,yat,Fx.nums,Fx.nums,a nu,Np];omega
def ycp {ks:List Tr} (k:Nat):Fx.nums (ks.take k)<=Fx.nums ks:=by
 induction ks generalizing k with
 |nil=>simp
 |cons t ks a=>
  cases k with
  |zero=>simp[Fx.nums]
  |succ k=>rw[yat,Fx.nums,Fx.nums];have:=a k;omega
def ykG (t:Tr):Fx.deep t=Fx.kv t.kids+1:=by cases t;rw[Fx.deep];rfl
def yjB {ks:List Tr} {k:Nat} (h:k<ks.length):Fx.kv (ks.take (k+1))=max (Fx.kv (ks.take k)) (Fx.deep ks[k]):=by
 induction ks generalizing k with
 |nil=>simp at h
 |cons t ks a=>
  cases k with
  |zero=>simp[Fx.kv]
  |succ k=>rw[yat,yat,Fx.kv,Fx.kv,a nu,Np];omega
mutual
def ynX: ∀ t:Tr,Fx.deep t<=Fx.num t | .mk _ _ _ _ _ _ _ ks=>by rw[Fx.deep,Fx.num];have:=NV ks;omega
def NV: ∀ ks:List Tr,Fx.kv ks<=Fx.nums ks | []=>by simp[Fx.kv,Fx.nums]|k::ks=>by rw[Fx.kv,Fx.nums];have:=ynX k;have:=NV ks;omega
end
def yxd: ∀ (n:Nat) (t:Tr) (v:Value) (most:Nat) (lo hi:Nat) (w:World),Fx.num t<=n->TreeAt w lo hi t v->hi<=w.heap.size->most<=9223372036854775806->
 Calls prog 27 #[trv t v,.int .i64 most] w (RetB (.int .i64 (Fx.cnt t most:Nat)) w):=by
 intro n
 induction n with
 |zero=>intro t v most lo hi w hn;have:=Tr.yo t;omega
 |succ n q=>
  intro t v most lo hi w hn u cF hm
  obtain⟨K,X,TT,I,F,a1,a2,a3,a4,b1,b2,b3,b4,a,m,c,rfl,B, -,cB,P,kD,l⟩:=u.flat
  obtain⟨r,hr⟩:=bx (Fx.cnt t most)
  rw[<-hr,B]
  obtain⟨ks,d⟩:=bx (t.kids)
  rw[Fx.cnt,vd,<-d] at hr
  rw[vd,<-d] at hn
  rw[<-d] at cB l
  have x:r=min (1+Fx.nums (ks.take m)) (most+1):=Se
  have z: ∀ (k:Nat) (hk:k<ks.length),Fx.num ks[k]<=n:=fun k hk=>by have:=yy hk;omega
  obtain⟨HR,HK,HM,Q,IH⟩:=qF x z cB l q
  clear hr x z cB l q B d u hn P
  go_enter func27,ntmps27
  go_wp2_with fail
  go_loopw [5,11] (fun s i wr=> ∃ k:Nat,k<=m/\i= .int .i64 k/\Hid (s= .int .i64 (min (1+Fx.nums (ks.take k)) (most+1):Nat))/\Below w.heap.size w wr) (fun _ i _=>m-(intOf i).toNat)
  case atStart=>exact⟨0,iH _,rfl,aL (by rw[wh,Fx.nums];congr 2<;>omega),by(repeat(first|exact eN|assumption|refine vh ?_ mY _|refine vc ?_ mY _|refine vr ?_|refine oY ?_ _))⟩
  case round=>
   obtain⟨k,hk,rfl,hs,y⟩:=hrel
   have nT:=y.size
   by_cases aW:k<m
   ·have dz:k<ks.length:=Cf
    obtain⟨b,o,rfl,aw,hb2,ei⟩:=Q.out aG
    obtain⟨V,T,U,Y,F',D,E,G,H,J,L,M,O,ak,lk,ck,gT,tk,q0,q1,q2,q3,q4,q5,q6,q7,q8,q9,Eh,Eg,Ef,Ee⟩:=ei.kid (wr:=wr) dz (y.block b aG)
    obtain⟨N,hN⟩:=bx (1+Fx.nums (ks.take k))
    obtain⟨N',CQ⟩:=bx (1+Fx.nums (ks.take (k+1)))
    have jG:N'=N+Fx.num ks[k]:=by have:=yin dz;omega
    rw[<-hN] at hs
    obtain rfl:=hs.out
    by_cases ii:N<=most
    ·have e1:min N (most+1)=N:=aG
     rw[e1]
     have i2: ¬ ((most:Int)<(N:Int)):=aG
     have j: ∀ (W:World),Below w.heap.size w W->Calls prog 27 #[.agg #[.int .i64 V,.int .u64 (T:Nat),.string U,.bool Y,.int .i64 F',.int .i64 D,.int .i64 E,.bool G,.bool H,.int .i64 J,.int .i64 L,.bool M,.bool O,.slice ak lk ck],.int .i64 ((most:Int)-(N:Int))] W (RetB (.int .i64 ((min N' (most+1):Nat)-(N:Int))) W):=fun W hW=>by exact yj2
     obtain⟨f,g⟩:=bx (min N' (most+1))
     rw[<-g] at j
     have i3:(N:Int)+((f:Int)-(N:Int))=(f:Int):=aG
     have i4:f<=most+1:=aG
     have Z:=aL j;have C:=aL (show f=min (1+Fx.nums (ks.take (k+1))) (most+1) by rw[g,CQ])
     have i1:(k:Int)<(m:Int):=aG
     clear e1 j jG hN CQ g hs tk ei gT
     go_wp2_with (first|(go_at_call 27;(with_reducible refine(Z.out _ dt).mono ?_);rintro e w2 ⟨rfl,A⟩;obtain⟨S,aO,aN,R⟩:=g9 (w) A;(try simp only[fO,gz,fY,gt] at R);obtain⟨aA,aF,aE,aD,au,aJ⟩:=own6 A (w.heap.size)))
     exact⟨⟨k+1,by omega,by go_num,aL (by rw[C.out]),S⟩,by simp[intOf];omega⟩
    ·have e1:min N (most+1)=most+1:=aG
     exact yjF
   ·have dM:k=m:=aG
    exact yhv
def ytu: ∀ (n:Nat) (t:Tr) (v:Value) (lo hi:Nat) (w:World),Fx.num t<=n->TreeAt w lo hi t v->hi<=w.heap.size->Fx.num t<=9223372036854775806->
 Calls prog 28 #[trv t v] w (RetB (.int .i64 (Fx.deep t:Nat)) w):=by
 intro n
 induction n with
 |zero=>intro t v lo hi w hn;have:=Tr.yo t;omega
 |succ n y=>
  intro t v lo hi w hn z cF hm
  obtain⟨K,X,TT,I,F,a1,a2,a3,a4,b1,b2,b3,b4,a,m,c,rfl,G, -,cB,T,kD,u⟩:=z.flat
  obtain⟨r,hr⟩:=bx (Fx.deep t)
  rw[<-hr,G]
  obtain⟨ks,g⟩:=bx (t.kids)
  rw[ykG,<-g] at hr
  rw[vd,<-g] at hn hm
  rw[<-g] at cB u
  have B:r=Fx.kv (ks.take m)+1:=Se
  have l9:r<=9223372036854775806:=by rw[hr];have:=NV ks;omega
  have E: ∀ (k:Nat) (j:k<ks.length),Fx.num ks[k]<=n/\Fx.num ks[k]<=9223372036854775806:=fun k j=>by have:=yy j;omega
  have x: ∀ k,Fx.kv (ks.take k)<=9223372036854775805:=fun k=>by have:=NV (ks.take k);have:=ycp (ks:=ks) k;omega
  obtain⟨HR,HK,HM,V,IH,HD⟩:=ts B E cB u y x
  clear hr B E cB u y G g z hn T hm x
  go_enter func28,ntmps28
  go_wp2_with fail
  go_loopw [3,9] (fun s i wr=> ∃ k:Nat,k<=m/\i= .int .i64 k/\Hid (s= .int .i64 (Fx.kv (ks.take k):Nat))/\Below w.heap.size w wr) (fun _ i _=>m-(intOf i).toNat)
  case atStart=>exact⟨0,iH _,rfl,aL (by rw[wh,Fx.kv];rfl),by(repeat(first|exact eN|assumption|refine vh ?_ mY _|refine vc ?_ mY _|refine vr ?_|refine oY ?_ _))⟩
  case round=>
   obtain⟨k,j,rfl,f,D⟩:=hrel
   have nT:=D.size
   by_cases aW:k<m
   ·have dz:k<ks.length:=Cf
    obtain⟨b,o,rfl,aw,hb2,A⟩:=V.out aG
    obtain⟨K',Y,Z,I',F',H,J,L,O,P,Q,R,S,ak,lk,ck,gT,tk,q0,q1,q2,q3,q4,q5,q6,q7,q8,q9,Eh,Eg,Ef,Ee⟩:=A.kid (wr:=wr) dz (D.block b aG)
    have q: ∀ (W:World),Below w.heap.size w W->Calls prog 28 #[.agg #[.int .i64 K',.int .u64 (Y:Nat),.string Z,.bool I',.int .i64 F',.int .i64 H,.int .i64 J,.bool L,.bool O,.int .i64 P,.int .i64 Q,.bool R,.bool S,.slice ak lk ck]] W (RetB (.int .i64 (Fx.deep ks[k]:Nat)) W):=fun W hW=>by exact yaG
    obtain⟨N,d⟩:=bx (Fx.kv (ks.take k))
    obtain⟨M,l⟩:=bx (Fx.deep ks[k])
    have C:max N M=Fx.kv (ks.take (k+1)):=by rw[yjB dz,d,l]
    rw[<-d] at f
    rw[<-l] at q
    obtain rfl:=f.out
    obtain⟨HC,HS⟩:=dY q C
    have i1:(k:Int)<(m:Int):=aG
    clear q C d l f tk A gT
    by_cases XI:N<M
    ·have e:max N M=M:=aG
     exact ymf
    ·have e:max N M=N:=aG
     exact ymf
   ·have U:k=m:=aG
    subst U
    have hd:=HD.out k
    obtain⟨N,d⟩:=bx (Fx.kv (ks.take k))
    rw[<-d] at f hd
    obtain rfl:=f.out
    have HV:=aL (show Value.int .i64 ((N:Int)+1)= .int .i64 (r:Nat) by rw[HR.out,d];rfl)
    clear f d
    exact yiz
end
end Go.Proofs.YtilbpmimoijfhaaGreatDoor
