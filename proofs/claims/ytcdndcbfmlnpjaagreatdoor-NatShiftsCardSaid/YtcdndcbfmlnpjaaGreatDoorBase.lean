/- Small lemmas that all walks of this seat use: what a call returns, over a world below which nothing has turned. -/
import Derived.Test.YtcdndcbfmlnpjaaGreatDoorProg
import Derived.WalkKit
import Derived.WalkSpells
import Derived.WalkLawsBesides
import Derived.Lib.Hide
namespace Go.Proofs.YtcdndcbfmlnpjaaGreatDoor
set_option linter.all false
open Go.RowKit

/-- A call returns v; what lay in memory stays. -/
def RetB (v : Value) (w : World) (e : Ending) (w' : World) : Prop := e = .returned v ∧ Below w.heap.size w w'

theorem RetB.of {v v' : Value} {w w' : World} (h : v' = v) (hb : Below w.heap.size w w') : RetB v w (.returned v') w' := ⟨by rw [h], hb⟩

/-- A call returns v; the world is the same. -/
def Ret0 (v : Value) (w : World) (e : Ending) (w' : World) : Prop := e = .returned v ∧ w = w'

theorem Ret0.of {v v' : Value} {w : World} (h : v' = v) : Ret0 v w (.returned v') w := ⟨by rw [h], rfl⟩

theorem bs_getElem? (s : ByteArray) (k : Nat) (h : k < s.size) : s.data.toList[k]? = some s[k] := by
  simp [ByteArray.getElem_eq_getElem_data, h]
theorem bs_length (s : ByteArray) : s.data.toList.length = s.size := by simp
theorem all_take_snoc (s : ByteArray) (k : Nat) (h : k < s.size) (p : UInt8 → Bool) : (s.data.toList.take (k + 1)).all p = ((s.data.toList.take k).all p && p s[k]) := by
  rw [List.take_add_one, bs_getElem? s k h]; simp

theorem all_drop_cons (s : ByteArray) (k : Nat) (h : k < s.size) (p : UInt8 → Bool) : (s.data.toList.drop k).all p = (p s[k] && (s.data.toList.drop (k + 1)).all p) := by
  have hk : k < s.data.toList.length := by simpa using h
  rw [List.drop_eq_getElem_cons hk, List.all_cons]
  have := bs_getElem? s k h
  rw [List.getElem?_eq_getElem hk] at this
  rw [Option.some.inj this]

theorem toList_data (s : ByteArray) : s.toList = s.data.toList := ByteArray.toList_eq s
theorem pos_of_isEmpty {s : ByteArray} (h : s.toList.isEmpty = false) : 0 < s.size := by
  rw [toList_data] at h
  have : s.data.toList ≠ [] := by intro e; rw [e] at h; cases h
  have := List.length_pos_iff.2 this
  simp at this; omega
theorem zero_of_isEmpty {s : ByteArray} (h : s.toList.isEmpty = true) : s.size = 0 := by
  rw [toList_data, List.isEmpty_iff] at h
  have := congrArg List.length h
  simpa using this
theorem isEmpty_of_pos {s : ByteArray} (h : 0 < s.size) : s.toList.isEmpty = false := by
  rw [toList_data]
  cases e : s.data.toList with
  | nil => have h2 := congrArg List.length e; simp only [Array.length_toList, List.length_nil] at h2; exact absurd h (by rw [ByteArray.size, h2]; omega)
  | cons => rfl
theorem isEmpty_of_zero {s : ByteArray} (h : s.size = 0) : s.toList.isEmpty = true := by
  rw [toList_data, List.isEmpty_iff]; exact List.length_eq_zero_iff.1 (by simpa using h)

theorem size_mk (l : List UInt8) : (⟨l.toArray⟩ : ByteArray).size = l.length := by simp [ByteArray.size]

theorem size_drew' (w : World) : w.drew.heap.size = w.heap.size := rfl
theorem size_drewN' (w : World) (n : Nat) : (w.drewN n).heap.size = w.heap.size := rfl

theorem below_drewN' {B : Nat} {a w : World} (h : Below B a w) (n : Nat) : Below B a (w.drewN n) := h.trans ⟨rfl, rfl, rfl, Nat.le_refl _, fun _ _ => rfl⟩

theorem bcell {W w1 : World} (hb : Below W.heap.size W w1) : (∀ b o, b < W.heap.size → w1.cell? ⟨b, o, none⟩ = W.cell? ⟨b, o, none⟩) ∧ (∀ b o, b < W.heap.size → w1.frozen? ⟨b, o, none⟩ = W.frozen? ⟨b, o, none⟩) :=
  ⟨fun b o h => hb.cell (p := ⟨b, o, none⟩) h, fun b o h => hb.frozen (p := ⟨b, o, none⟩) h⟩

theorem bsize {W w1 : World} (hb : Below W.heap.size W w1) : W.heap.size ≤ w1.heap.size := hb.size

end Go.Proofs.YtcdndcbfmlnpjaaGreatDoor
