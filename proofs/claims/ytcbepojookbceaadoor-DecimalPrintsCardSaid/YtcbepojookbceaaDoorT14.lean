import Derived.Test.YtcbepojookbceaaDoorT11
import Derived.Test.YtcbepojookbceaaDoorBytes
import Derived.Test.YtcbepojookbceaaDoorDec5
import Derived.Deep.DeepCutAuto
import Derived.Deep.RegionHeld3
namespace Go.Proofs.YtcbepojookbceaaDoor
set_option linter.all false
open Go.RowKit

/-- The first i digits of a text, with noughts behind the last one and the point at p. -/
def pre (V l : Dc.Bs) (p i : Nat) : Dc.Bs := V ++ (List.range i).flatMap fun j => (if j = p then [46] else []) ++ [l.getD j 48]
theorem pre_zero (V l : Dc.Bs) (p : Nat) : pre V l p 0 = V := by simp [pre]
theorem pre_succ (V l : Dc.Bs) (p i : Nat) : pre V l p (i + 1) = pre V l p i ++ ((if i = p then [46] else []) ++ [l.getD i 48]) := by
  simp [pre, List.range_succ]
theorem pre_len (V l : Dc.Bs) (p i : Nat) : (pre V l p i).length ≤ V.length + 2 * i := by
  induction i with
  | zero => rw [pre_zero]; omega
  | succ i ih => rw [pre_succ, List.length_append, List.length_append]; split <;> simp <;> omega
theorem pre_le (V l : Dc.Bs) (p : Nat) : ∀ i, i ≤ p → i ≤ l.length → pre V l p i = V ++ l.take i := by
  intro i
  induction i with
  | zero => intro _ _; rw [pre_zero]; simp
  | succ i ih =>
    intro h1 h2
    rw [pre_succ, ih (by omega) (by omega), if_neg (by omega), List.take_succ_eq_append_getElem (by omega)]
    simp [List.getD_eq_getElem?_getD, List.getElem?_eq_getElem (show i < l.length by omega)]
theorem pre_behind (V l : Dc.Bs) (p : Nat) (h0 : p < l.length) : ∀ k, p + 1 + k ≤ l.length → pre V l p (p + 1 + k) = V ++ l.take p ++ [46] ++ (l.drop p).take (k + 1) := by
  intro k
  induction k with
  | zero =>
    intro _
    have e : (l.drop p).take (0 + 1) = [l[p]] := by rw [List.drop_eq_getElem_cons h0]; rfl
    rw [Nat.add_zero, pre_succ, pre_le V l p p (Nat.le_refl _) (by omega), if_pos rfl, e]
    simp [List.getD_eq_getElem?_getD, List.getElem?_eq_getElem h0]
  | succ k ih =>
    intro h
    have hk : k + 1 < (l.drop p).length := by rw [List.length_drop]; omega
    rw [show p + 1 + (k + 1) = p + 1 + k + 1 by omega, pre_succ, ih (by omega), if_neg (by omega), List.take_succ_eq_append_getElem hk]
    simp [List.getD_eq_getElem?_getD, List.getElem?_eq_getElem (show p + 1 + k < l.length by omega), show p + (k + 1) = p + 1 + k by omega]
theorem pre_noughts (V l : Dc.Bs) (p : Nat) : ∀ k, l.length + k ≤ p → pre V l p (l.length + k) = V ++ l ++ List.replicate k 48 := by
  intro k
  induction k with
  | zero => intro h; rw [Nat.add_zero, pre_le V l p _ (by omega) (Nat.le_refl _)]; simp
  | succ k ih =>
    intro h
    rw [show l.length + (k + 1) = l.length + k + 1 by omega, pre_succ, ih (by omega), if_neg (by omega), List.replicate_succ']
    simp [List.getD_eq_getElem?_getD, List.getElem?_eq_none]
theorem rep_repl (m : Nat) : Lib.repeatL [48] m = List.replicate m 48 := by
  induction m with
  | zero => rfl
  | succ m ih => rw [Lib.repeatL, ih, List.replicate_succ]; rfl
/-- What the loop over the digits writes. -/
theorem pre_body (V l : Dc.Bs) (p : Nat) (hne : l ≠ []) (h1 : 1 ≤ p) (h2 : p ≤ 21) (i : Nat) (hi : i = max p l.length) : pre V l p i = Dc.body V l p := by
  rw [Dc.body, if_neg hne]
  by_cases h : l.length ≤ p
  · rw [if_pos ⟨by omega, by omega, by omega⟩, show i = l.length + (p - l.length) by omega, pre_noughts _ _ _ _ (by omega), rep_repl]
    congr 2; omega
  · have e : (l.drop p).take (l.length - p - 1 + 1) = l.drop p := List.take_of_length_le (by rw [List.length_drop]; omega)
    rw [if_neg (show ¬ (1 ≤ (p : Int) ∧ (p : Int) ≤ 21 ∧ (l.length : Int) ≤ p) by omega), if_pos (show 1 ≤ (p : Int) ∧ (p : Int) ≤ 21 by omega), show i = p + 1 + (l.length - p - 1) by omega, pre_behind _ _ _ (by omega) _ (by omega), e, Int.toNat_natCast]
end Go.Proofs.YtcbepojookbceaaDoor
