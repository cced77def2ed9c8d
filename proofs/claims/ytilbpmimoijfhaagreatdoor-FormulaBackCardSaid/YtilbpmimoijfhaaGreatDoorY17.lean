/- Formulas: how many nodes a tree has, how deep it is, by the document. -/
import Derived.Test.YtilbpmimoijfhaaGreatDoorY13
namespace Go.Proofs.YtilbpmimoijfhaaGreatDoor
set_option linter.all false
set_option maxRecDepth 100000
set_option maxHeartbeats 16000000
open Go.RowKit Go.Proofs.Tryz
section
open Fx (Tr)
def you: ∀ (n:Nat) (t:Tr) (v:Value) (most:Nat) (lo hi:Nat) (w:World),Fx.num t<=n->TreeAt w lo hi t v->hi<=w.heap.size->most<=9223372036854775806->
 Calls prog 29 #[trv t v,.int .i64 most] w (RetB (.int .i64 (Fx.cnt t most:Nat)) w):=by
 intro n
 induction n with
 |zero=>intro t v most lo hi w hn;have:=Tr.yo t;omega
 |succ n u=>
  intro t v most lo hi w hn x cF hm
  obtain⟨K,X,TT,I,F,a1,a2,a3,a4,b1,b2,b3,b4,a,m,c,rfl,C, -,cB,Q,kD,q⟩:=x.flat
  obtain⟨r,hr⟩:=bx (Fx.cnt t most)
  rw[<-hr,C]
  obtain⟨ks,d⟩:=bx (t.kids)
  rw[Fx.cnt,vd,<-d] at hr
  rw[vd,<-d] at hn
  rw[<-d] at cB q
  have z:r=min (1+Fx.nums (ks.take m)) (most+1):=Se
  have B: ∀ (k:Nat) (hk:k<ks.length),Fx.num ks[k]<=n:=fun k hk=>by have:=yy hk;omega
  obtain⟨HR,HK,HM,S,IH⟩:=qF z B cB q u
  clear hr z B cB q u C d x hn Q
  go_enter func29,ntmps29
  go_wp2_with fail
  go_loopw [5,6] (fun s i wr=> ∃ k:Nat,k<=m/\i= .int .i64 k/\Hid (s= .int .i64 (min (1+Fx.nums (ks.take k)) (most+1):Nat))/\wr.cell? ⟨w.heap.size,13,none⟩=some (.slice a m c)/\w.heap.size<wr.heap.size/\Below w.heap.size w wr) (fun _ i _=>m-(intOf i).toNat)
  case atStart=>exact⟨0,iH _,rfl,aL (by rw[wh,Fx.nums];congr 2<;>omega),by simp[go_sem],by simp,by(repeat(first|exact eN|assumption|refine vh ?_ mY _|refine vc ?_ mY _|refine vr ?_|refine oY ?_ _))⟩
  case round=>
   obtain⟨k,hk,rfl,hs,R,y,A⟩:=hrel
   have nT:=A.size
   by_cases aW:k<m
   ·have dz:k<ks.length:=Cf
    obtain⟨b,o,rfl,aw,hb2,ei⟩:=S.out aG
    obtain⟨Z,V,Y,I',F',E,G,H,J,L,M,O,P,ak,lk,ck,gT,tk,q0,q1,q2,q3,q4,q5,q6,q7,q8,q9,Eh,Eg,Ef,Ee⟩:=ei.kid (wr:=wr) dz (A.block b aG)
    obtain⟨N,hN⟩:=bx (1+Fx.nums (ks.take k))
    obtain⟨N',CQ⟩:=bx (1+Fx.nums (ks.take (k+1)))
    have jG:N'=N+Fx.num ks[k]:=by have:=yin dz;omega
    rw[<-hN] at hs
    obtain rfl:=hs.out
    by_cases ii:N<=most
    ·have e1:min N (most+1)=N:=aG
     rw[e1]
     have i2: ¬ ((most:Int)<(N:Int)):=aG
     have l: ∀ (W:World),Below w.heap.size w W->Calls prog 29 #[.agg #[.int .i64 Z,.int .u64 (V:Nat),.string Y,.bool I',.int .i64 F',.int .i64 E,.int .i64 G,.bool H,.bool J,.int .i64 L,.int .i64 M,.bool O,.bool P,.slice ak lk ck],.int .i64 ((most:Int)-(N:Int))] W (RetB (.int .i64 ((min N' (most+1):Nat)-(N:Int))) W):=fun W hW=>by exact yj2
     obtain⟨g,j⟩:=bx (min N' (most+1))
     rw[<-j] at l
     have i3:(N:Int)+((g:Int)-(N:Int))=(g:Int):=aG
     have i4:g<=most+1:=aG
     have HC:=aL l;have D:=aL (show g=min (1+Fx.nums (ks.take (k+1))) (most+1) by rw[j,CQ])
     have i1:(k:Int)<(m:Int):=aG
     clear e1 l jG hN CQ j hs tk ei gT
     go_wp2_with (first|(go_at_call 29;(with_reducible refine(HC.out _ dt).mono ?_);rintro e w2 ⟨rfl,f⟩;obtain⟨U,aO,aN,T⟩:=g9 (w) f;(try simp only[fO,gz,fY,gt] at T);obtain⟨aA,aF,aE,aD,au,aJ⟩:=own6 f (w.heap.size)))
     exact⟨⟨k+1,by omega,by go_num,aL (by rw[D.out]),(f.cell (p:=⟨w.heap.size,13,none⟩) (by first|exact y|omega)).trans R,eR y f.size,U⟩,by simp[intOf];omega⟩
    ·have e1:min N (most+1)=most+1:=aG
     exact yjF
   ·have dM:k=m:=aG
    exact yhv
def yvm: ∀ (n:Nat) (t:Tr) (v:Value) (lo hi:Nat) (w:World),Fx.num t<=n->TreeAt w lo hi t v->hi<=w.heap.size->Fx.num t<=9223372036854775806->
 Calls prog 30 #[trv t v] w (RetB (.int .i64 (Fx.deep t:Nat)) w):=by
 intro n
 induction n with
 |zero=>intro t v lo hi w hn;have:=Tr.yo t;omega
 |succ n y=>
  intro t v lo hi w hn z cF hm
  obtain⟨K,X,TT,I,F,a1,a2,a3,a4,b1,b2,b3,b4,a,m,c,rfl,G, -,cB,T,kD,u⟩:=z.flat
  obtain⟨r,hr⟩:=bx (Fx.deep t)
  rw[<-hr,G]
  obtain⟨ks,g⟩:=bx (t.kids)
  rw[ykG,<-g] at hr
  rw[vd,<-g] at hn hm
  rw[<-g] at cB u
  have B:r=Fx.kv (ks.take m)+1:=Se
  have l9:r<=9223372036854775806:=by rw[hr];have:=NV ks;omega
  have E: ∀ (k:Nat) (j:k<ks.length),Fx.num ks[k]<=n/\Fx.num ks[k]<=9223372036854775806:=fun k j=>by have:=yy j;omega
  have x: ∀ k,Fx.kv (ks.take k)<=9223372036854775805:=fun k=>by have:=NV (ks.take k);have:=ycp (ks:=ks) k;omega
  obtain⟨HR,HK,HM,V,IH,HD⟩:=ts B E cB u y x
  clear hr B E cB u y G g z hn T hm x
  go_enter func30,ntmps30
  go_wp2_with fail
  go_loopw [3,4] (fun s i wr=> ∃ k:Nat,k<=m/\i= .int .i64 k/\Hid (s= .int .i64 (Fx.kv (ks.take k):Nat))/\wr.cell? ⟨w.heap.size,13,none⟩=some (.slice a m c)/\w.heap.size<wr.heap.size/\Below w.heap.size w wr) (fun _ i _=>m-(intOf i).toNat)
  case atStart=>exact⟨0,iH _,rfl,aL (by rw[wh,Fx.kv];rfl),by simp[go_sem],by simp,by(repeat(first|exact eN|assumption|refine vh ?_ mY _|refine vc ?_ mY _|refine vr ?_|refine oY ?_ _))⟩
  case round=>
   obtain⟨k,j,rfl,f,gX,dP,D⟩:=hrel
   have nT:=D.size
   by_cases aW:k<m
   ·have dz:k<ks.length:=Cf
    obtain⟨b,o,rfl,aw,hb2,A⟩:=V.out aG
    obtain⟨K',Y,Z,I',F',H,J,L,O,P,Q,R,S,ak,lk,ck,gT,tk,q0,q1,q2,q3,q4,q5,q6,q7,q8,q9,Eh,Eg,Ef,Ee⟩:=A.kid (wr:=wr) dz (D.block b aG)
    have q: ∀ (W:World),Below w.heap.size w W->Calls prog 30 #[.agg #[.int .i64 K',.int .u64 (Y:Nat),.string Z,.bool I',.int .i64 F',.int .i64 H,.int .i64 J,.bool L,.bool O,.int .i64 P,.int .i64 Q,.bool R,.bool S,.slice ak lk ck]] W (RetB (.int .i64 (Fx.deep ks[k]:Nat)) W):=fun W hW=>by exact yaG
    obtain⟨N,d⟩:=bx (Fx.kv (ks.take k))
    obtain⟨M,l⟩:=bx (Fx.deep ks[k])
    have C:max N M=Fx.kv (ks.take (k+1)):=by rw[yjB dz,d,l]
    rw[<-d] at f
    rw[<-l] at q
    obtain rfl:=f.out
    obtain⟨HC,HS⟩:=dY q C
    have i1:(k:Int)<(m:Int):=aG
    clear q C d l f tk A gT
    by_cases XI:N<M
    ·have e:max N M=M:=aG
     exact ykz
    ·have e:max N M=N:=aG
     exact ykz
   ·have U:k=m:=aG
    subst U
    have hd:=HD.out k
    obtain⟨N,d⟩:=bx (Fx.kv (ks.take k))
    rw[<-d] at f hd
    obtain rfl:=f.out
    have HV:=aL (show Value.int .i64 ((N:Int)+1)= .int .i64 (r:Nat) by rw[HR.out,d];rfl)
    clear f d
    exact yiz
end
end Go.Proofs.YtilbpmimoijfhaaGreatDoor
