/- Rows of references to cells: what a slice of them holds; what an append to the variable that holds it turns. -/
import Derived.Test.YtbbeeglfgnabmaaDoorT51
import Derived.Test.YtbbeeglfgnabmaaDoorRf2
import Derived.RangeFuncBox
import Derived.Maps.OwnIn
import Derived.Maps.AppendAt
namespace Go.Proofs.YtbbeeglfgnabmaaDoor
set_option linter.all false
open Go.RowKit

def refs (l : List Ce.Rf) : List Value := l.flatMap fun x => [.int .i64 x.col, .int .i64 x.row, .bool x.ac, .bool x.ar]
theorem refs_snoc (l : List Ce.Rf) (x : Ce.Rf) : refs (l ++ [x]) = refs l ++ [.int .i64 x.col, .int .i64 x.row, .bool x.ac, .bool x.ar] := by simp [refs]
theorem refs_len (l : List Ce.Rf) : (refs l).length = l.length * 4 := by
  induction l with
  | nil => rfl
  | cons x l ih =>
    have : refs (x :: l) = [.int .i64 x.col, .int .i64 x.row, .bool x.ac, .bool x.ar] ++ refs l := rfl
    rw [this, List.length_append, ih, List.length_cons]; simp; omega
theorem refs_get (l : List Ce.Rf) (k : Nat) (h : k < l.length) : (refs l)[k * 4]? = some (.int .i64 l[k].col) ∧ (refs l)[k * 4 + 1]? = some (.int .i64 l[k].row) ∧ (refs l)[k * 4 + 2]? = some (.bool l[k].ac) ∧ (refs l)[k * 4 + 3]? = some (.bool l[k].ar) := by
  induction l generalizing k with
  | nil => simp at h
  | cons x l ih =>
    have e : refs (x :: l) = .int .i64 x.col :: .int .i64 x.row :: .bool x.ac :: .bool x.ar :: refs l := rfl
    cases k with
    | zero => rw [e]; simp
    | succ k =>
      have := ih k (by simpa using h)
      rw [e, show (k + 1) * 4 = k * 4 + 1 + 1 + 1 + 1 by omega]
      simpa using this

/-- The slice v holds the references l in a row of the call's own, or is nil. -/
def RowR (w : World) (base : Nat) (v : Value) (l : List Ce.Rf) : Prop :=
  (∃ a cap, v = .slice a l.length cap) ∧ w.ownsRow base 23 4 v l.length (refs l)
theorem RowR.nil (w : World) (base : Nat) : RowR w base (.slice none 0 0) [] := ⟨⟨none, 0, rfl⟩, World.ownsRow_nil _ _ _ _⟩
theorem RowR.of {w : World} {base : Nat} {v : Value} {l : List Ce.Rf} {xs : List Value} {n : Nat} (h : w.ownsRow base 23 4 v n xs) (hn : n = l.length) (hx : xs = refs l) : RowR w base v l := by
  subst hn hx
  refine ⟨?_, h⟩
  rcases h.2 with ⟨rfl, h2⟩ | ⟨g, cap, cur, rfl, _⟩
  · exact ⟨none, 0, by rw [h2]⟩
  · exact ⟨_, cap, rfl⟩
theorem RowR.kept {w w' : World} {base : Nat} {v : Value} {l : List Ce.Rf} (h : RowR w base v l) (hk : ∀ k, v.ownBlock = some k → w'.heap[k]? = w.heap[k]?) : RowR w' base v l := by
  refine ⟨h.1, h.2.1, ?_⟩
  rcases h.2.2 with h2 | ⟨g, cap, cur, rfl, hb, hg, r⟩
  · exact .inl h2
  · exact .inr ⟨g, cap, cur, rfl, hb, (hk g rfl).trans hg, r⟩
theorem RowR.cells {w : World} {base : Nat} {v : Value} {l : List Ce.Rf} (h : RowR w base v l) {k : Nat} (hk : v.ownBlock = some k) : ∃ o : Obj, w.heap[k]? = some o ∧ o.isCells = true := by
  rcases h.2.2 with ⟨rfl, _⟩ | ⟨g, cap, cur, rfl, hb, hg, r⟩
  · cases hk
  · obtain rfl : g = k := by simpa [Value.ownBlock] using hk
    exact ⟨_, hg, rfl⟩
theorem RowR.on {w w' : World} {base : Nat} {v : Value} {l : List Ce.Rf} (h : RowR w base v l) (hb : Below w.heap.size w w') : RowR w' base v l :=
  h.kept fun k hk => by obtain ⟨o, h1, _⟩ := h.cells hk; exact hb.block k (Array.getElem?_eq_some_iff.1 h1).1
theorem RowR.some {w : World} {base : Nat} {v : Value} {l : List Ce.Rf} (h : RowR w base v l) (hl : 0 < l.length) : ∃ g cap, v = .slice (some ⟨g, 0, none⟩) l.length cap ∧ g < w.heap.size ∧
    ∀ k (hk : k < l.length), w.cell? ⟨g, k * 4, none⟩ = some (.int .i64 l[k].col) ∧ w.cell? ⟨g, k * 4 + 1, none⟩ = some (.int .i64 l[k].row) ∧ w.cell? ⟨g, k * 4 + 2, none⟩ = some (.bool l[k].ac) ∧ w.cell? ⟨g, k * 4 + 3, none⟩ = some (.bool l[k].ar) := by
  rcases h.2.2 with ⟨rfl, h2⟩ | ⟨g, cap, cur, rfl, hb, hg, h1, h2, h3, h4⟩
  · omega
  · refine ⟨g, cap, rfl, (Array.getElem?_eq_some_iff.1 hg).1, fun k hk => ?_⟩
    have hc : ∀ i, i < l.length * 4 → w.cell? ⟨g, i, none⟩ = (refs l)[i]? := fun i hi => by
      have e : w.cell? ⟨g, i, none⟩ = cur[i]? := by unfold World.cell?; simp only []; rw [hg]; rfl
      rw [e, ← h4, List.getElem?_take, if_pos hi, Array.getElem?_toList]
    have hr := refs_get l k hk
    exact ⟨(hc _ (by omega)).trans hr.1, (hc _ (by omega)).trans hr.2.1, (hc _ (by omega)).trans hr.2.2.1, (hc _ (by omega)).trans hr.2.2.2⟩

theorem rowAt_boxed {O : Nat} {W : World} {t : TypeId} {v : Value} (h : Boxed W O t v) {k : Nat} (hk : RowAt O W k) : v.ownBlock = some k := by
  obtain ⟨x, n, c, h1, h2⟩ := hk
  rw [h.cell] at h1
  cases h1
  simp [Value.ownBlock, h2]
theorem rowAt_of {O : Nat} {W : World} {t : TypeId} {v : Value} (h : Boxed W O t v) {k : Nat} {l : List Ce.Rf} {base : Nat} (hr : RowR W base v l) (hk : v.ownBlock = Option.some k) : RowAt O W k := by
  obtain ⟨⟨a, cap, rfl⟩, _⟩ := hr
  cases a with
  | none => cases hk
  | some a => exact ⟨a, _, _, h.cell, by simpa [Value.ownBlock] using hk⟩
theorem Kq.alloc {O R : Nat} {W : World} (hO : O < W.heap.size) (o : Obj) : Kq O R W (W.alloc o) :=
  ⟨by simp, fun k h _ _ _ => Below.heap_alloc W o k h, fun k _ h => (RowAt.of (Below.heap_alloc W o O hO)).1 h⟩
/-- A store into the variable behind an append to it. -/
theorem Kq.appended {O R : Nat} {W w1 : World} {t : TypeId} {v v' : Value} {tmp : Obj} {l : List Ce.Rf} {base : Nat} (hv : Boxed W O t v) (hr : RowR W base v l) (hgrow : (W.alloc tmp).grownBy w1 v.ownBlock)
    (hown : v'.ownBlock = v.ownBlock ∨ v'.ownBlock = Option.some (W.alloc tmp).heap.size) (hv2 : Boxed (w1.setCell ⟨O, 0, none⟩ v') O t v') : Kq O R W (w1.setCell ⟨O, 0, none⟩ v') where
  size := by have := hgrow.size; rw [World.size_setCell]; simp at this; omega
  same := fun k hk h1 _ h3 => (Below.heap_setCell _ _ _ k h1).trans ((hgrow.block k (by simp; omega) (fun e => h3 (rowAt_of hv hr e.symm))).trans (Below.heap_alloc W tmp k hk))
  row := fun k hk h => by
    have h1 := rowAt_boxed hv2 h
    rcases hown with e | e
    · rw [e] at h1; exact rowAt_of hv hr h1
    · rw [e] at h1
      have : W.heap.size + 1 = k := by simpa using h1
      omega
end Go.Proofs.YtbbeeglfgnabmaaDoor
