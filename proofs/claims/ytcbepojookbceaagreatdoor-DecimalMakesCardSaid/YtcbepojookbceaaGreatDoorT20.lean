import Derived.Test.YtcbepojookbceaaGreatDoorBase
import Derived.Test.YtcbepojookbceaaGreatDoorDec
namespace Go.Proofs.YtcbepojookbceaaGreatDoor
set_option linter.all false
open Go.RowKit

/-- The digit at a place: a nought outside. -/
def digAt (s : ByteArray) (i : Int) : UInt8 := if h : 0 ≤ i ∧ i < s.size then s[i.toNat]'(by omega) else 48
theorem digAt_in (s : ByteArray) (i : Int) (k : Nat) (hk : k < s.size) (e : (k : Int) = i) : s[k] = digAt s i := by
  subst e
  rw [digAt, dif_pos ⟨by omega, by omega⟩]
  simp
theorem digAt_out (s : ByteArray) (i : Int) (h : i < 0 ∨ s.size ≤ i) : digAt s i = 48 := by
  rw [digAt, dif_neg (by omega)]

set_option maxHeartbeats 400000 in
theorem r7_at_any (n : Bool) (s : ByteArray) (x pl i : Int) (w : World) (hs : s.size ≤ 1000000) (hx : -1000000 ≤ x ∧ x ≤ 1000000) (hi : -10000000 ≤ i ∧ i ≤ 10000000) (hpl : pl = (s.size : Int) - 1 + x - i) :
    Calls Tryz.prog 44 #[.agg #[.bool n, .string s, .int .i64 x], .int .i64 pl] w (RetB (.int .u8 (digAt s i).toNat) w) := by
  obtain ⟨hx1, hx2⟩ := hx
  obtain ⟨hi1, hi2⟩ := hi
  have he : (s.size : Int) - 1 + x - pl = i := by omega
  have hp1 : -20000000 ≤ pl ∧ pl ≤ 20000000 := by omega
  obtain ⟨hp1, hp2⟩ := hp1
  obtain ⟨r, hr⟩ : ∃ r, r = digAt s i := ⟨_, rfl⟩
  rw [← hr]
  have HR := Lib.hid hr; have HE := Lib.hid he; clear hr hpl he
  go_enter Tryz.func44, Tryz.ntmps44
  go_wp2_with fail
  all_goals go_ret
  · have h1 : (s.size : Int) - 1 + x - pl < 0 ∨ (s.size : Int) ≤ s.size - 1 + x - pl := by assumption
    exact RetB.of (by rw [HR.out, digAt_out s i (by have := HE.out; omega)]; rfl) (by (repeat (first | exact Below.refl _ _ | assumption | refine Below.setCell ?_ (by first | omega | (simp <;> omega)) _ | refine Below.alloc ?_ (by first | omega | (simp <;> omega)) _ | refine Below.drew ?_ | refine below_drewN' ?_ _)))
  · have h1 : 0 ≤ (s.size : Int) - 1 + x - pl ∧ (s.size : Int) - 1 + x - pl < s.size := by assumption
    exact RetB.of (by rw [HR.out, ← digAt_in s i ((s.size : Int) - 1 + x - pl).toNat (by omega) (by rw [← HE.out]; omega)]; rfl) (by (repeat (first | exact Below.refl _ _ | assumption | refine Below.setCell ?_ (by first | omega | (simp <;> omega)) _ | refine Below.alloc ?_ (by first | omega | (simp <;> omega)) _ | refine Below.drew ?_ | refine below_drewN' ?_ _)))
  · exact RetB.of (by rw [HR.out, digAt_out s i (by have := HE.out; omega)]; rfl) (by (repeat (first | exact Below.refl _ _ | assumption | refine Below.setCell ?_ (by first | omega | (simp <;> omega)) _ | refine Below.alloc ?_ (by first | omega | (simp <;> omega)) _ | refine Below.drew ?_ | refine below_drewN' ?_ _)))

end Go.Proofs.YtcbepojookbceaaGreatDoor
