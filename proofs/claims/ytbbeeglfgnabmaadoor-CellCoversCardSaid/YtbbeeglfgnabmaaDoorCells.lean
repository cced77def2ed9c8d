/- A block whose cells are known from the first one on. -/
import Derived.Test.YtbbeeglfgnabmaaDoorBase
import Derived.Laws.IdiomCopy
namespace Go.Proofs.YtbbeeglfgnabmaaDoor
set_option linter.all false
open Go.RowKit

def Cs (w : World) (b : Nat) (vs : List Value) : Prop := b < w.heap.size ∧ ∀ k (h : k < vs.length), w.cell? ⟨b, k, none⟩ = some vs[k]
theorem Cs.get {w : World} {b : Nat} {vs : List Value} (h : Cs w b vs) (k : Nat) {v : Value} (hk : vs[k]? = some v) : w.cell? ⟨b, k, none⟩ = some v := by
  obtain ⟨h1, h2⟩ := List.getElem?_eq_some_iff.1 hk
  rw [h.2 k h1, h2]
theorem Cs.new (w : World) (vs : List Value) (t : TypeId) : Cs (w.alloc (.cells vs.toArray t)) w.heap.size vs :=
  ⟨by simp, fun k h => by
    simp only [World.cell?, World.alloc]
    simp [List.getElem?_eq_getElem h]⟩
theorem Cs.on {w w1 : World} {b : Nat} {vs : List Value} (h : Cs w b vs) (hb : Below w.heap.size w w1) : Cs w1 b vs :=
  ⟨Nat.lt_of_lt_of_le h.1 hb.size, fun k hk => (hb.cell (p := ⟨b, k, none⟩) h.1).trans (h.2 k hk)⟩
theorem Cs.alloc {w : World} {b : Nat} {vs : List Value} (h : Cs w b vs) (o : Obj) : Cs (w.alloc o) b vs := h.on ((Below.refl _ _).alloc (Nat.le_refl _) o)
theorem cell_drew1 (W : World) (a : Addr) : W.drew.cell? a = W.cell? a := rfl
theorem size_setCells (b : Nat) : ∀ (vs : List Value) (o : Nat) (w : World), (w.setCells b o vs).heap.size = w.heap.size
  | [], _, _ => rfl
  | v :: r, o, w => by rw [World.setCells, size_setCells b r]; exact World.size_setCell _ _ _
theorem below_setCells {B b : Nat} {w : World} (hb : B ≤ b) : ∀ (vs : List Value) (o : Nat) {W : World}, Below B w W → Below B w (W.setCells b o vs)
  | [], _, _, h => h
  | v :: r, o, W, h => below_setCells hb r (o + 1) (h.setCell (p := ⟨b, o, none⟩) hb v)
theorem cell_alloc_old {w : World} {o : Obj} {b k : Nat} (h : b < w.heap.size) : (w.alloc o).cell? ⟨b, k, none⟩ = w.cell? ⟨b, k, none⟩ := ((Below.refl _ w).alloc (Nat.le_refl _) o).cell (p := ⟨b, k, none⟩) h
theorem frozen_alloc_old {w : World} {o : Obj} {b k : Nat} (h : b < w.heap.size) : (w.alloc o).frozen? ⟨b, k, none⟩ = w.frozen? ⟨b, k, none⟩ := ((Below.refl _ w).alloc (Nat.le_refl _) o).frozen (p := ⟨b, k, none⟩) h
/-- A row stored into a known block is known. -/
theorem Cs.stored {w : World} {b : Nat} {vs : List Value} (us : List Value) (h : Cs w b vs) (hl : us.length = vs.length) : Cs (w.setCells b 0 us) b us :=
  ⟨by rw [size_setCells]; exact h.1, fun k hk => by
    have := World.cell?_setCells_in b us 0 w (fun j hj => by rw [Nat.zero_add, h.2 j (by omega)]; rfl) k hk
    rwa [Nat.zero_add] at this⟩
theorem Cs.other {w : World} {b b' : Nat} {vs : List Value} (us : List Value) (h : Cs w b vs) (hne : b ≠ b') : Cs (w.setCells b' 0 us) b vs :=
  ⟨by rw [size_setCells]; exact h.1, fun k hk => by
    rw [World.cell?_setCells_out _ _ _ _ _ (fun e => absurd e hne)]; exact h.2 k hk⟩
theorem Cs.drew {w : World} {b : Nat} {vs : List Value} (h : Cs w b vs) : Cs w.drew b vs := h
end Go.Proofs.YtbbeeglfgnabmaaDoor
