/- A []byte that the call itself has made and appends to: what it holds. -/
import Derived.Test.YtbbeeglfgnabmaaDoorBase
namespace Go.Proofs.YtbbeeglfgnabmaaDoor
set_option linter.all false
open Go.RowKit

/-- The slice v holds the bytes l in a row of the call's own (from block 'base' on), or is nil. -/
def RowB (w : World) (base : Nat) (v : Value) (l : List UInt8) : Prop :=
  (∃ a cap, v = .slice a l.length cap) ∧ w.ownsRow base 5 1 v l.length (l.map fun c => Value.int .u8 (c.toNat : Int))

theorem RowB.nil (w : World) (base : Nat) : RowB w base (.slice none 0 0) [] := ⟨⟨none, 0, rfl⟩, World.ownsRow_nil _ _ _ _⟩
theorem RowB.of {w : World} {base : Nat} {v : Value} {l : List UInt8} {xs : List Value} {n : Nat} (h : w.ownsRow base 5 1 v n xs) (hn : n = l.length) (hx : xs = l.map fun c => Value.int .u8 (c.toNat : Int)) : RowB w base v l := by
  subst hn hx
  refine ⟨?_, h⟩
  rcases h.2 with ⟨e, e2⟩ | ⟨g, cap, cur, e, _⟩
  · exact ⟨none, 0, by rw [e, e2]⟩
  · exact ⟨_, _, e⟩
theorem RowB.own {w : World} {base : Nat} {v : Value} {l : List UInt8} (h : RowB w base v l) : w.ownsRow base 5 1 v l.length (l.map fun c => Value.int .u8 (c.toNat : Int)) := h.2
theorem RowB.shape {w : World} {base : Nat} {v : Value} {l : List UInt8} (h : RowB w base v l) : ∃ a cap, v = .slice a l.length cap := h.1
theorem RowB.some {w : World} {base : Nat} {v : Value} {l : List UInt8} (h : RowB w base v l) (hl : 0 < l.length) : ∃ g cap, v = .slice (some ⟨g, 0, none⟩) l.length cap ∧ base ≤ g ∧ g < w.heap.size := by
  rcases h.2.2 with ⟨e, e2⟩ | ⟨g, cap, cur, e, hb, hh, _⟩
  · omega
  · exact ⟨g, cap, e, hb, (Array.getElem?_eq_some_iff.1 hh).1⟩
theorem RowB.string {w : World} {base : Nat} {a : Option Addr} {cap : Nat} {l : List UInt8} (h : RowB w base (.slice a l.length cap) l) (hl : 0 < l.length) :
    (convert 61 9 (.slice a l.length cap)).run Tryd.prog w = .ok (.string ⟨l.toArray⟩) w := by
  obtain ⟨g, cap', e, _, _⟩ := h.some hl
  simp only [Value.slice.injEq] at e
  obtain ⟨rfl, _, rfl⟩ := e
  refine run_convert_bytes_back w _ _ 5 ⟨g, 0, none⟩ cap l Tryd.underlying61 Tryd.underlying5 Tryd.underlying9 ?_
  intro j hj
  have := h.2.cellAt j (by omega)
  have ha : (⟨g, 0, none⟩ : Addr).add j = ⟨g, j, none⟩ := by
    unfold Addr.add
    split
    · rename_i e; subst e; rfl
    · simp
  rw [ha, this]; simp [hj]

theorem Tryd.infoU8 : (Tryd.prog.info? 5).map (fun i => (i.zero, i.size, i.bytes)) = some (some (.int .u8 0), 1, 1) := by kernel_rfl

end Go.Proofs.YtbbeeglfgnabmaaDoor
