/- Formulas: a function's arguments in memory. -/
import Derived.Test.YtilbpmimoijfhaaGreatDoorY41
namespace Go.Proofs.YtilbpmimoijfhaaGreatDoor
set_option linter.all false
set_option maxRecDepth 100000
set_option maxHeartbeats 16000000
open Go.RowKit Go.Proofs.Tryz
section
open Fx (Tr Rs Tk)
def yqG:(prog.info? 27).map (fun i=>(i.zero,i.size,i.bytes))=some (some znv,14,120):=cI
def KidsS (w:World) (A:Nat->Prop):List Tr->List Value->Prop
 | [],xs=>xs=[]
 |k::ks,xs=> ∃ u ys,xs=trc k u++ys/\TreeS w A k u/\KidsS w A ks ys
def KidsS.snoc {w:World} {A:Nat->Prop} {ks:List Tr} {xs:List Value} {k:Tr} {u:Value} (h:KidsS w A ks xs) (b:TreeS w A k u):KidsS w A (ks++[k]) (xs++trc k u):=by
 induction ks generalizing xs with
 |nil=>rw[KidsS] at h;subst h;rw[xi,KidsS];exact⟨u,[],by simp,b,by rw[KidsS]⟩
 |cons e ks a=>
  rw[KidsS] at h
  obtain⟨v,ys,rfl,d,c⟩:=h
  rw[lB,KidsS]
  exact⟨v,ys++trc k u,by rw[tr],d,a c⟩
def KidsS.kept {w w':World} {A a:Nat->Prop} {ks:List Tr} {xs:List Value} (h:KidsS w A ks xs) (d: ∀ k,A k->a k) (c: ∀ k,A k->w'.heap[k]? =w.heap[k]?):KidsS w' a ks xs:=by
 induction ks generalizing xs with
 |nil=>rw[KidsS] at h ⊢;exact h
 |cons k ks b=>
  rw[KidsS] at h ⊢
  obtain⟨u,ys,e,g,f⟩:=h
  exact⟨u,ys,e,g.kept d c,b f⟩
def KidsS.row {w:World} {A:Nat->Prop} {ks:List Tr} {xs:List Value} {g:Nat} (h:KidsS w A ks xs): ∀ o:Nat,(∀ i u,xs[i]? =some u->w.cell? ⟨g,o+i,none⟩=some u)->RowS w A g ks o:=by
 induction ks generalizing xs with
 |nil=>intro o _;rw[RowS];trivial
 |cons k ks b=>
  intro o a
  rw[KidsS] at h
  obtain⟨u,ys,rfl,d,c⟩:=h
  rw[RowS]
  refine⟨⟨u,d,fun j x hx=>?_⟩,b c (o+14) fun i x hx=>?_⟩
  ·have hj:j<(trc k u).length :=(o6.1 hx).1
   exact a j x (by rw[zf hj];exact hx)
  ·have:=a (14+i) x (by rw[WC (by simp[trc]),show(trc k u).length =14 from rfl,TV];exact hx)
   rw[show o+14+i=o+(14+i) by omega];exact this
def kag (a:ByteArray) (v:Value):Value:= .agg #[.int .i64 10,.int .u64 0,.string a,.bool false,.int .i64 0,.int .i64 0,.int .i64 0,.bool false,.bool false,.int .i64 0,.int .i64 0,.bool false,.bool false,v]
def ygZ (a:ByteArray) (ks:List Tr) (v:Value):trv (Fx.nod 10 a.data.toList ks) v=kag a v:=rfl
def IsN.kag (b:ByteArray) (a:Option Addr) (n c:Nat):IsN (kag b (.slice a n c)) (trc (Fx.nod 10 b.data.toList []) (.slice a n c)):=IsN.of (Fx.nod 10 b.data.toList []) a n c
structure ArgsM (w:World) (base:Nat) (A:Nat->Prop) (ks:List Tr) (v:Value) (xs:List Value):Prop where
 row:RowG w base 27 14 v ks.length xs
 kids:KidsS w A ks xs
def ArgsM.tree {w:World} {base:Nat} {A:Nat->Prop} {ks:List Tr} {v:Value} {xs:List Value} (h:ArgsM w base A ks v xs) (hn:ks.length<=30) (d:ByteArray):TreeX w (fun k=>A k∨v.ownBlock=some k) (kag d v) (Fx.nod 10 d.data.toList ks):=by
 refine⟨v,(ygZ d ks v).symm,?_⟩;obtain⟨⟨a,cap,e⟩,_⟩:=id h.row;refine TreeS.eq.2 ?_;show ∃ a c,v= .slice a ks.length c/\ks.length<=c/\ks.length<=9223372036854775807/\(0<ks.length-> ∃ b o,a=some ⟨b,o,none⟩/\(A b∨v.ownBlock=some b)/\RowS w (fun k=>A k∨v.ownBlock=some k) b ks o);by_cases f:0<ks.length
 ·obtain⟨g,r,j,x,t,q,n,s⟩:=h.row.get f;refine⟨_,r,j,q,by omega,fun _=>⟨g,0,rfl,Or.inr (by rw[j];rfl),?_⟩⟩;exact(h.kids.kept (fun k m=>Or.inl m) (fun _ _=>rfl)).row 0 (fun i u l=>by rw[iR];exact n i u l)
 ·refine⟨a,cap,e,?_,by omega,fun h=>absurd h f⟩;have:ks.length=0:=aG;rw[this];exact iH _
def ArgsM.nil (w:World) (base:Nat) (A:Nat->Prop):ArgsM w base A [] (.slice none 0 0) []:=⟨RowG.nil w base _ 14,by rw[KidsS]⟩
def ArgsM.kept {w w':World} {base:Nat} {A:Nat->Prop} {ks:List Tr} {v:Value} {xs:List Value} (h:ArgsM w base A ks v xs) (b: ∀ k,(A k∨v.ownBlock=some k)->w'.heap[k]? =w.heap[k]?):ArgsM w' base A ks v xs:=
 ⟨h.row.kept fun k a=>b k (Or.inr a),h.kids.kept (fun _ h=>h) (fun k a=>b k (Or.inl a))⟩
def yfr (p g b:Nat) (D L:UInt8) (S:ByteArray) (op:Nat) (l:List UInt8) (c:ByteArray) (w:World) (r:Rs) (wr:World):Prop:=
 ∃ (ks:List Tr) (a:List UInt8) (v:Value) (xs:List Value) (A:Nat->Prop),Fx.yG D L (op+1) c.data.toList ks a=r/\Ps wr p g b D L S a (op+1)/\Nd wr (w.heap.size+1) (kag c v)/\Nd wr w.heap.size znv/\Two p b w wr/\
   ArgsM wr (w.heap.size+2) A ks v xs/\(∀ k,A k->w.heap.size+2<=k/\k<wr.heap.size/\v.ownBlock≠some k)/\ks.length<30/\a.length<l.length
def Nd.ya2 {w:World} {B:Nat} {a:ByteArray} {v:Value} (h:Nd w B (kag a v)):Mem w B (trc (Fx.nod 10 a.data.toList []) v) 27:=by obtain⟨cs,i,m⟩:=h;rw[<-ygZ a [] v] at i;rw[i.cells] at m;exact m
def Nd.kset {w:World} {B:Nat} {b:ByteArray} {v:Value} (h:Nd w B (kag b v)) (a:Option Addr) (n c:Nat):Nd (w.setCell ⟨B,13,none⟩ (.slice a n c)) B (kag b (.slice a n c)):=
 ⟨_,IsN.kag b a n c,h.ya2.set 13 (.slice a n c)⟩
def yqc (D L c d:UInt8) (l:List UInt8):Hw D L l [⟨#[c]⟩,⟨#[d]⟩]=decide ((Fx.tok D L l).kind =5/\((Fx.tok D L l).text =[c]∨(Fx.tok D L l).text =[d])):=by
 unfold Hw
 have:Lib.containsS [⟨#[c]⟩,⟨#[d]⟩] ⟨(Fx.tok D L l).text.toArray⟩=decide ((Fx.tok D L l).text =[c]∨(Fx.tok D L l).text =[d]):=by
  rw[vs,Lib.containsS_iff,kF,sC,SY];constructor
  ·rintro (e|e)
   ·left;have:=dZ (fun s:ByteArray=>s.data.toList) e;simpa using this
   ·right;have:=dZ (fun s:ByteArray=>s.data.toList) e;simpa using this
  ·rintro (e|e)
   ·left;rw[e]
   ·right;rw[e]
 rw[this,Bool.decide_and]
def ArgsM.more {c d:World} {base B6 b f:Nat} {A g:Nat->Prop} {ks:List Tr} {v:Value} {xs cs:List Value} {i:Tr} {n:Value} (h:ArgsM c base A ks v xs) (t:TreeX c g n i) (s:IsN n cs)
 (y:d.ownsRow base 27 14 (.slice (some ⟨b,0,none⟩) (ks.length+1) f) (ks.length+1) (xs++cs)) (m:c.grownBy d v.ownBlock) (j: ∀ k,A k->k<c.heap.size/\v.ownBlock≠some k) (l: ∀ k,g k->k<c.heap.size/\v.ownBlock≠some k)
 (x: ∀ k,A k∨g k->k≠B6) (w:b≠B6):ArgsM (d.setCell ⟨B6,13,none⟩ (.slice (some ⟨b,0,none⟩) (ks.length+1) f)) base (fun k=>A k∨g k) (ks++[i]) (.slice (some ⟨b,0,none⟩) (ks.length+1) f) (xs++cs):=by
 obtain⟨u,rfl,q⟩:=t;obtain rfl:=s.cells
 have a: ∀ k,A k∨g k->(d.setCell ⟨B6,13,none⟩ (.slice (some ⟨b,0,none⟩) (ks.length+1) f)).heap[k]? =c.heap[k]? :=fun k a=>by
  rw[tF _ _ _ _ (x k a)];rcases a with a|a
  ·exact m.block k (j k a).1 (fun e=>(j k a).2 e.symm)
  ·exact m.block k (l k a).1 (fun e=>(l k a).2 e.symm)
 refine⟨?_,KidsS.snoc (h.kids.kept (fun k h=>Or.inl h) (fun k h=>a k (Or.inl h))) (q.kept (fun k h=>Or.inr h) (fun k h=>a k (Or.inr h)))⟩;have r:RowG d base 27 14 (.slice (some ⟨b,0,none⟩) (ks.length+1) f) (ks++[i]).length (xs++trc i u):=RowG.of y cn rfl;refine r.kept fun k o=>?_;have:b=k:=by simpa[Value.ownBlock] using o
 exact tF _ _ _ _ (by show k≠B6;omega)
end
end Go.Proofs.YtilbpmimoijfhaaGreatDoor
