import Derived.Test.YtcbepojookbceaaDoorBase
import Derived.Test.YtcbepojookbceaaDoorLoc
import Derived.Test.YtcbepojookbceaaDoorDec5
namespace Go.Proofs.YtcbepojookbceaaDoor
set_option linter.all false
open Go.RowKit

/-- A text as a value. -/
def tx (l : List UInt8) : Value := .string ⟨l.toArray⟩
/-- The program's locale: its groups' sizes lie at block b. -/
def LV (b : Nat) (l : Lc.Loc) : Value := .agg #[tx l.name, tx l.dec, tx l.grp, tx l.list, tx l.minus, .string ⟨#[37]⟩, tx l.cur, .bool l.first, .bool l.space, .slice (some ⟨b, 0, none⟩) (if l.two then 2 else 1) (if l.two then 2 else 1)]
/-- The reference's. -/
def RV (l : Lc.Loc) : Value := .agg #[tx l.name, tx l.dec, tx l.grp, tx l.list, tx l.minus, .string ⟨#[37]⟩, tx l.cur, .bool l.first, .bool l.space, .int .i64 (l.second : Int)]
/-- The groups' sizes, as they lie. -/
def Szs (w : World) (b : Nat) (l : Lc.Loc) : Prop := b < w.heap.size ∧ w.cell? ⟨b, 0, none⟩ = some (.int .i64 3) ∧ (l.two = true → w.cell? ⟨b, 1, none⟩ = some (.int .i64 2))
theorem Szs.on {w w1 : World} {b : Nat} {l : Lc.Loc} (h : Szs w b l) (hb : Below w.heap.size w w1) : Szs w1 b l :=
  ⟨Nat.lt_of_lt_of_le h.1 hb.size, (hb.cell (p := ⟨b, 0, none⟩) h.1).trans h.2.1, fun e => (hb.cell (p := ⟨b, 1, none⟩) h.1).trans (h.2.2 e)⟩

theorem lo_size_int (b : Nat) (l : Lc.Loc) (i : Nat) (ii : Int) (w : World) (h : Szs w b l) (hi : i ≤ 1000000) (hii : ii = (i : Int)) :
    Calls Tryd.prog 45 #[LV b l, .int .i64 ii] w (RetB (.int .i64 (Lc.nxt l.second i)) w) := by
  obtain ⟨h0, h1, h2⟩ := h
  obtain ⟨r, hr⟩ : ∃ r : Int, r = (Lc.nxt l.second i : Nat) := ⟨_, rfl⟩
  rw [← hr]
  obtain ⟨name, dec, grp, list, minus, cur, first, space, two⟩ := l
  simp only [LV, Lc.Loc.second] at h2 hr ⊢
  have HR := Lib.hid hr; clear hr
  have hne : ¬ b = w.heap.size := by omega
  cases two with
  | false =>
    have hv : r = 3 := by rw [HR.out, Lc.nxt]; split <;> rfl
    have HV := Lib.hid hv; clear hv h2
    simp only [Bool.false_eq_true, if_false]
    by_cases hz : i = 0
    · obtain rfl : ii = 0 := by omega
      clear hii hz
      go_enter Tryd.func45, Tryd.ntmps45
      go_wp2_with fail
      go_ret
      exact RetB.of (congrArg (Value.int .i64) HV.out.symm) (by (repeat (first | exact Below.refl _ _ | assumption | refine Below.setCell ?_ (by first | omega | (simp <;> omega)) _ | refine Below.alloc ?_ (by first | omega | (simp <;> omega)) _ | refine Below.drew ?_ | refine below_drewN' ?_ _)))
    · have hp : 0 < ii := by omega
      have hp2 : ii ≤ 1000000 := by omega
      clear hii hz
      go_enter Tryd.func45, Tryd.ntmps45
      go_wp2_with fail
      go_ret
      exact RetB.of (congrArg (Value.int .i64) HV.out.symm) (by (repeat (first | exact Below.refl _ _ | assumption | refine Below.setCell ?_ (by first | omega | (simp <;> omega)) _ | refine Below.alloc ?_ (by first | omega | (simp <;> omega)) _ | refine Below.drew ?_ | refine below_drewN' ?_ _)))
  | true =>
    have h3 := h2 rfl
    clear h2
    simp only [if_true]
    by_cases hz : i = 0
    · obtain rfl : ii = 0 := by omega
      have hv : r = 3 := by rw [HR.out, Lc.nxt, if_pos hz]; rfl
      have HV := Lib.hid hv; clear hv
      clear hii hz
      go_enter Tryd.func45, Tryd.ntmps45
      go_wp2_with fail
      go_ret
      exact RetB.of (congrArg (Value.int .i64) HV.out.symm) (by (repeat (first | exact Below.refl _ _ | assumption | refine Below.setCell ?_ (by first | omega | (simp <;> omega)) _ | refine Below.alloc ?_ (by first | omega | (simp <;> omega)) _ | refine Below.drew ?_ | refine below_drewN' ?_ _)))
    · have hv : r = 2 := by rw [HR.out, Lc.nxt, if_neg hz]; rfl
      have HV := Lib.hid hv; clear hv
      by_cases hz1 : i = 1
      · obtain rfl : ii = 1 := by omega
        clear hii hz hz1
        go_enter Tryd.func45, Tryd.ntmps45
        go_wp2_with fail
        go_ret
        exact RetB.of (congrArg (Value.int .i64) HV.out.symm) (by (repeat (first | exact Below.refl _ _ | assumption | refine Below.setCell ?_ (by first | omega | (simp <;> omega)) _ | refine Below.alloc ?_ (by first | omega | (simp <;> omega)) _ | refine Below.drew ?_ | refine below_drewN' ?_ _)))
      · have hp : 1 < ii := by omega
        have hp2 : ii ≤ 1000000 := by omega
        clear hii hz hz1
        go_enter Tryd.func45, Tryd.ntmps45
        go_wp2_with fail
        go_ret
        exact RetB.of (congrArg (Value.int .i64) HV.out.symm) (by (repeat (first | exact Below.refl _ _ | assumption | refine Below.setCell ?_ (by first | omega | (simp <;> omega)) _ | refine Below.alloc ?_ (by first | omega | (simp <;> omega)) _ | refine Below.drew ?_ | refine below_drewN' ?_ _)))
theorem lo_size_any (b : Nat) (l : Lc.Loc) (i : Nat) (w : World) (h : Szs w b l) (hi : i ≤ 1000000) :
    Calls Tryd.prog 45 #[LV b l, .int .i64 i] w (RetB (.int .i64 (Lc.nxt l.second i)) w) := lo_size_int b l i i w h hi rfl
end Go.Proofs.YtcbepojookbceaaDoor
