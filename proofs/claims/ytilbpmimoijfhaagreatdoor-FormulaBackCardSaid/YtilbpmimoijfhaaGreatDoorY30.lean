/- What the cards of chapter 16 share: how a tree reads, before the call and behind it. -/
import Derived.Test.YtilbpmimoijfhaaGreatDoorY26
import Derived.Test.YtilbpmimoijfhaaGreatDoorY28
namespace Go.Proofs.YtilbpmimoijfhaaGreatDoor
set_option linter.all false
set_option maxRecDepth 100000
set_option maxHeartbeats 16000000
open Go.RowKit Go.Proofs.Tryz
section
open Go.ChangeShapes Go.WideShapes Go.ChangeAt Go.RowKit Go.WideMaps Go.WideElems Go.Joins
open Go.ChangeMaps (open_string shut_string)
open Fx (Tr)
def own:ownKnob prog.godebug=none:=cI
def yS:laidOutB prog=true:=cI
def ykJ {H:Type} {c:TypeId × Value->H} {W:World} {base:Nat} {sp:Nat->Bool} {b:Bool} {r:Reach} {e:Nat} {v:Value} {d:DataW H} {p:List MemPlace} (hv:Value.okWide prog W r e 9 v) (h:DataW.Trod c prog W base sp b 9 v d p):
 ∃ s:ByteArray,v= .string s/\p=[]/\s.size<=9223372036854775807:=by
 obtain⟨s,rfl,rfl,rfl,a⟩:=open_string underlying9 hv h;exact⟨s,rfl,rfl,by unfold maxLen at a;exact a⟩
def ym0 {n:Int} (h:(Lit.int .i64 n).wf =true): -9223372036854775808<=n/\n<=9223372036854775807:=by simp[Lit.wf,IntKind.min,IntKind.max,IntKind.signed,IntKind.bits] at h;omega
def yub {n:Int} (h:(Lit.int .u64 n).wf =true):0<=n/\n<18446744073709551616:=by simp[Lit.wf,IntKind.min,IntKind.max,IntKind.signed,IntKind.bits] at h;omega
def XB {H:Type} {b:TypeId × Value->H} {W:World} {base:Nat} {sp:Nat->Bool} {a:Bool} {r:Reach} {e:Nat} {v:Value} {d:DataW H} {p:List MemPlace} (hv:Value.okWide prog W r e 3 v) (h:DataW.Trod b prog W base sp a 3 v d p):
 ∃ n:Int,v= .int .i64 n/\p=[]/\(-9223372036854775808<=n/\n<=9223372036854775807):=by
 obtain⟨n,rfl,rfl,rfl,c⟩:=open_int underlying3 hv h;exact⟨n,rfl,rfl,ym0 c⟩
def Vu {w:World} {b k:Nat} {v:Value} (h:w.cell? ⟨b,k,none⟩=some v):b<w.heap.size:=by
 unfold World.cell? at h
 cases a:w.heap[b]? with
 |none=>simp[a] at h
 |some o=>exact(yX.1 a).1
def yxb {a:Type} {P:Nat->a->Prop} (n:Nat) (h: ∀ i,i<n-> ∃ x,P i x): ∃ l:List a,l.length=n/\ ∀ i (hi:i<l.length),P i l[i]:=by
 induction n with
 |zero=>exact⟨[],rfl,fun i hi=>absurd hi cn⟩
 |succ n b=>
  obtain⟨l,hl,c⟩:=b fun i hi=>h i aG
  obtain⟨x,hx⟩:=h n aG
  refine⟨l++[x],by simp[hl],fun i hi=>?_⟩
  by_cases e:i<l.length
  ·rw[List.getElem_append_left e];exact c i e
  ·have:i=l.length:=by simp at hi;omega
   subst this
   rw[yk1 cm]
   simp only[C7,ydO]
   rw[hl];exact hx
def ybm {a:Addr} (h:a.spot=none) (i:Nat):a.add i=⟨a.block,a.off+i,none⟩:=by
 unfold Addr.add;cases a;simp only at h;subst h;split
 ·rename_i e;rw[e,ms]
 ·rfl
def yhb {H:Type} {a:TypeId × Value->H} {W:World} {f:Nat} {c0 c1 c2 c3:Value} {x:DataW H × List MemPlace} (h:DataW.trod a prog W 0 (fun _=>true) true f 24 [c0,c1,c2,c3]=some x):
 ∃ r:Ce.Rf,c0= .int .i64 r.col/\c1= .int .i64 r.row/\c2= .bool r.ac/\c3= .bool r.ar:=by
 obtain⟨ys,n,_,_,_,c,b⟩:=DataW.trod_struct underlying24 h
 match ys,c with
 | [y0,y1,y2,y3],_=>
   have m:DataW.trod a prog W 0 (fun _=>true) true n 3 [c0]=some y0:=b 0 _ rfl
   have l:DataW.trod a prog W 0 (fun _=>true) true n 3 [c1]=some y1:=b 1 _ rfl
   have k:DataW.trod a prog W 0 (fun _=>true) true n 4 [c2]=some y2:=b 2 _ rfl
   have j:DataW.trod a prog W 0 (fun _=>true) true n 4 [c3]=some y3:=b 3 _ rfl
   obtain⟨i,s,_,_⟩:=Xx underlying3 m
   obtain⟨g,q,_,_⟩:=Xx underlying3 l
   obtain⟨e,p,_⟩:=ydm underlying4 k
   obtain⟨d,o,_⟩:=ydm underlying4 j
   exact⟨⟨i,g,e,d⟩,by simpa using s,by simpa using q,by simpa using p,by simpa using o⟩
def ygC {B:Nat}: ∀ {l:List Tr},(∀ i (h:i<l.length),Fx.tmax l[i]<=B)->Fx.uL l<=B
 | [],_=>by rw[Fx.uL];omega
 |t::l,h=>by rw[Fx.uL];exact Nat.max_le.2 ⟨h 0 cn,ygC fun i hi=>h (i+1) Ig⟩
def ynb {H:Type} {c:TypeId × Value->H} {W:World}: ∀ (fuel:Nat) {cs:List Value} {x:DataW H × List MemPlace},DataW.trod c prog W 0 (fun _=>true) true fuel 27 cs=some x->
 ∃ (t:Tr) (v:Value),cs=trc t v/\TreeAt W 0 W.heap.size t v/\Fx.tmax t<=9223372036854775807:=by
 intro fuel
 induction fuel using Nat.strongRecOn with
 |ind fuel Q=>
 intro cs x h;obtain⟨ys,f,U,_,J,O,g⟩:=DataW.trod_struct underlying27 h;have L:prog.cellsOf 27=14:=cI;rw[L] at J
 match cs,J,ys,O with
 | [c0,c1,c2,c3,c4,c5,c6,c7,c8,c9,Du,Dt,Ds,tN],_,[y0,y1,y2,y3,y4,y5,y6,y7],_=>
   have g0:DataW.trod c prog W 0 (fun _=>true) true f 3 [c0]=some y0:=g 0 _ rfl
   have g1:DataW.trod c prog W 0 (fun _=>true) true f 22 [c1]=some y1:=g 1 _ rfl
   have g2:DataW.trod c prog W 0 (fun _=>true) true f 9 [c2]=some y2:=g 2 _ rfl
   have g3:DataW.trod c prog W 0 (fun _=>true) true f 4 [c3]=some y3:=g 3 _ rfl
   have g4:DataW.trod c prog W 0 (fun _=>true) true f 3 [c4]=some y4:=g 4 _ rfl
   have g5:DataW.trod c prog W 0 (fun _=>true) true f 24 [c5,c6,c7,c8]=some y5:=g 5 _ rfl
   have g6:DataW.trod c prog W 0 (fun _=>true) true f 24 [c9,Du,Dt,Ds]=some y6:=g 6 _ rfl
   have g7:DataW.trod c prog W 0 (fun _=>true) true f 25 [tN]=some y7:=g 7 _ rfl
   obtain⟨K,e0,_,_⟩:=Xx underlying3 g0
   obtain⟨X,e1,_,Y⟩:=Xx underlying22 g1
   obtain⟨T,e2,_,D⟩:=DataW.trod_string underlying9 g2
   obtain⟨I,e3,_⟩:=ydm underlying4 g3
   obtain⟨F,e4,_,_⟩:=Xx underlying3 g4
   obtain⟨A,rfl,rfl,rfl,rfl⟩:=yhb g5
   obtain⟨B,rfl,rfl,rfl,rfl⟩:=yhb g6
   obtain rfl:c0= .int .i64 K:=by simpa using e0
   obtain rfl:c1= .int .u64 X:=by simpa using e1
   obtain rfl:c2= .string T:=by simpa using e2
   obtain rfl:c3= .bool I:=by simpa using e3
   obtain rfl:c4= .int .i64 F:=by simpa using e4
   obtain⟨N,rfl⟩: ∃ N:Nat,X=(N:Int):=⟨X.toNat,by have:=(yub Y).1;omega⟩
   have E:(⟨T.data.toList.toArray⟩:ByteArray)=T:=Dc.qR _ _ rfl
   have G:T.data.toList.length<=9223372036854775807:=by rw[dN];unfold maxLen at D;exact D
   rcases DataW.trod_slice underlying25 g7 with ⟨C,_⟩|⟨a,len,cap,I4,rest,n,hn,C,_,_,hl,hm,pJ,hi,_,_⟩
   ·obtain rfl:tN= .slice none 0 0:=by simpa using C
    refine⟨.mk K N T.data.toList I F A B [],.slice none 0 0,?_,TreeAt.leaf rfl,by rw[Fx.tmax];exact Nat.max_le.2 ⟨G,by rw[Fx.uL];omega⟩⟩
    simp only[trc,Fx.Tr.kind,Fx.Tr.bits,Fx.Tr.txt,Fx.Tr.is,Fx.Tr.fail,Fx.Tr.a,Fx.Tr.b,E]
   ·obtain rfl:tN= .slice (some a) len cap:=by simpa using C
    obtain⟨l,z,s⟩:=yxb (P:=fun i (y:Tr)=>Fx.tmax y<=9223372036854775807/\ ∃ m,TreeAt W 0 W.heap.size y m/\ ∀ j u,(trc y m)[j]? =some u->W.cell? ((a.add (i*14)).add j)=some u) len (fun i Kx=>by
     have e:=hi i Kx;rw[L,n9 (show i<I4.length by omega)] at e;obtain⟨cs',d,Z⟩:=Option.bind_eq_some_iff.1 e;obtain⟨_,Hp,eu⟩:=World.cells?_some d;obtain⟨t,v,rfl,R,M⟩:=Q n aG Z;refine⟨t,M,v,R,fun j u r=>?_⟩;have hj:=(o6.1 r).1;rw[eu j (by rw[<-Hp];exact hj)]
     exact r)
    refine⟨.mk K N T.data.toList I F A B l,.slice (some a) len cap,?_,TreeAt.eq.2 ⟨some a,cap,by rw[show(Tr.mk K N T.data.toList I F A B l).kids =l from rfl,z],by rw[show(Tr.mk K N T.data.toList I F A B l).kids =l from rfl,z];exact hl,by rw[show(Tr.mk K N T.data.toList I F A B l).kids =l from rfl,z];unfold maxLen at hm;omega,fun w=>?_⟩,by rw[Fx.tmax];exact Nat.max_le.2 ⟨G,ygC fun i hi=>(s i hi).1⟩⟩
    ·simp only[trc,Fx.Tr.kind,Fx.Tr.bits,Fx.Tr.txt,Fx.Tr.is,Fx.Tr.fail,Fx.Tr.a,Fx.Tr.b,E]
    ·rw[show(Tr.mk K N T.data.toList I F A B l).kids =l from rfl] at w ⊢
     have q:a.spot=none:=by obtain⟨_,m,_,e⟩:=s 0 w;have d:=e 0 _ rfl;rw[qo] at d;exact cell_spot (b:=a.block) (o:=a.off) (sp:=a.spot) (by simpa[Addr.add] using d)
     have V:a=⟨a.block,a.off,none⟩:=by cases a;simp only at q;subst q;rfl
     refine⟨a.block,a.off,by rw[<-V],iH _,?_,RowT.of fun k S=>?_⟩
     ·obtain⟨_,m,_,e⟩:=s 0 w
      have d:=e 0 _ rfl
      rw[ybm q,ybm rfl] at d
      exact Vu d
     ·obtain⟨_,m,e,d⟩:=s k S
      refine⟨m,e,fun j u r=>?_⟩
      have:=d j u r
      rw[ybm q,ybm rfl] at this
      exact this
def yeH {H:Type} {a:TypeId × Value->H} {W:World} {r:Reach} {g:Nat} {v:Value} {d:DataW H} {p:List MemPlace} (hv:Value.okWide prog W r g 27 v) (h:DataW.Trod a prog W 0 (fun _=>true) true 27 v d p):
 ∃ (u:Value) (t:Tr),v=trv t u/\TreeAt W 0 W.heap.size t u/\Fx.tmax t<=9223372036854775807:=by
 obtain⟨cs,rfl,i⟩:=okWide_struct underlying27 hv;obtain⟨fuel,c⟩:=h;obtain⟨t,u,e,b⟩:=ynb fuel c;refine⟨u,t,?_,b⟩;have f:cs.toList=trc t u:=e;show Value.agg cs= .agg (trc t u).toArray;rw[<-f]
end

def DecB (W:World) (b:Nat) (n:Bool) (s:ByteArray) (x:Int):Prop:=W.cell? ⟨b,0,none⟩=some (.bool n)/\W.cell? ⟨b,1,none⟩=some (.string s)/\W.cell? ⟨b,2,none⟩=some (.int .i64 x)/\b<W.heap.size
def DecB.new (w:World) (n:Bool) (s:ByteArray) (x:Int):DecB (w.alloc (Obj.cells #[Value.bool n,Value.string s,Value.int IntKind.i64 x] 139)) w.heap.size n s x:=
 ⟨by simp[go_sem],by simp[go_sem],by simp[go_sem],by simp⟩
def DecB.on {W a:World} {b:Nat} {n:Bool} {s:ByteArray} {x:Int} (h:DecB W b n s x) (hb:Below W.heap.size W a):DecB a b n s x:=by obtain⟨e,d,c,hl⟩:=h;exact⟨(hb.cell (p:=⟨b,0,none⟩) hl).trans e,(hb.cell (p:=⟨b,1,none⟩) hl).trans d,(hb.cell (p:=⟨b,2,none⟩) hl).trans c,eR hl hb.size⟩
def ON {s:ByteArray} {x:Int} (a:Dc.right s.data.toList x=true):Dc.oT s.data.toList x=(s.size:Int)+x/\s.size<=1100/\ -100000<=x/\x<=100000:=by have b:=Dc.xW a;have c:=Dc.sj a;rw[dN] at b;exact⟨by rw[Dc.yeF,bT a],b,c⟩


end Go.Proofs.YtilbpmimoijfhaaGreatDoor
