/- Plain Lean: the two sides of a decimal's point, sign for sign. -/
import Derived.Test.YtcbepojookbceaaDoorDec7
namespace Go.Proofs.YtcbepojookbceaaDoor.Lc
set_option linter.all false
open Dc (Bs)

def wh (l : Bs) (k : Nat) : Bs := (List.range k).map fun j => l.getD j 48
theorem wh_succ (l : Bs) (k : Nat) : wh l (k + 1) = wh l k ++ [l.getD k 48] := by simp [wh, List.range_succ]
theorem wh_len (l : Bs) (k : Nat) : (wh l k).length = k := by simp [wh]
def rs (l : Bs) (p : Int) (k : Nat) : Bs := (List.range k).map fun (j : Nat) => if p + (j : Int) < 0 then 48 else l.getD (p + (j : Int)).toNat 48
theorem rs_succ (l : Bs) (p : Int) (k : Nat) : rs l p (k + 1) = rs l p k ++ [if p + (k : Int) < 0 then 48 else l.getD (p + (k : Int)).toNat 48] := by simp [rs, List.range_succ]
theorem rs_len (l : Bs) (p : Int) (k : Nat) : (rs l p k).length = k := by simp [rs]

theorem wh_get (l : Bs) (k i : Nat) : (wh l k)[i]? = if i < k then some (l.getD i 48) else none := by
  unfold wh
  rw [List.getElem?_map]
  by_cases h : i < k
  · rw [if_pos h, List.getElem?_range h]; rfl
  · rw [if_neg h, List.getElem?_eq_none (by simpa using h)]; rfl
theorem rs_get (l : Bs) (p : Int) (k i : Nat) : (rs l p k)[i]? = if i < k then some (if p + (i : Int) < 0 then 48 else l.getD (p + (i : Int)).toNat 48) else none := by
  unfold rs
  rw [List.getElem?_map]
  by_cases h : i < k
  · rw [if_pos h, List.getElem?_range h]; rfl
  · rw [if_neg h, List.getElem?_eq_none (by simpa using h)]; rfl
theorem rep_get (k i : Nat) : (Lib.repeatL [48] k)[i]? = if i < k then some 48 else none := by
  rw [Dc.rep_replicate, List.getElem?_replicate]

theorem wh_le (l : Bs) (k : Nat) (h : k ≤ l.length) : wh l k = l.take k := by
  apply List.ext_getElem?
  intro i
  rw [wh_get]
  by_cases hi : i < k
  · rw [if_pos hi, List.getElem?_take_of_lt hi, List.getD_eq_getElem?_getD, List.getElem?_eq_getElem (by omega)]; rfl
  · rw [if_neg hi, List.getElem?_eq_none (by rw [List.length_take]; omega)]
theorem wh_ge (l : Bs) (k : Nat) (h : l.length ≤ k) : wh l k = l ++ Lib.repeatL [48] (k - l.length) := by
  apply List.ext_getElem?
  intro i
  rw [wh_get]
  by_cases h1 : i < l.length
  · rw [if_pos (by omega), List.getElem?_append_left h1, List.getD_eq_getElem?_getD, List.getElem?_eq_getElem h1]; rfl
  · rw [List.getElem?_append_right (by omega), rep_get, List.getD_eq_getElem?_getD, List.getElem?_eq_none (by omega)]
    by_cases h2 : i < k
    · rw [if_pos h2, if_pos (by omega)]; rfl
    · rw [if_neg h2, if_neg (by omega)]
theorem rs_neg (l : Bs) (p : Int) (k : Nat) (hp : p ≤ 0) (hk : (k : Int) = l.length - p) : rs l p k = Lib.repeatL [48] (-p).toNat ++ l := by
  apply List.ext_getElem?
  intro i
  rw [rs_get]
  have hl : (Lib.repeatL [48] (-p).toNat).length = (-p).toNat := by rw [Dc.rep_replicate]; simp
  by_cases h1 : i < (-p).toNat
  · rw [if_pos (by omega), if_pos (by omega), List.getElem?_append_left (by omega), rep_get, if_pos h1]
  · rw [List.getElem?_append_right (by omega), hl]
    by_cases h2 : i < k
    · rw [if_pos h2, if_neg (by omega), show (p + (i : Int)).toNat = i - (-p).toNat by omega, List.getD_eq_getElem?_getD, List.getElem?_eq_getElem (by omega)]; rfl
    · rw [if_neg h2, List.getElem?_eq_none (by omega)]
theorem rs_pos (l : Bs) (p : Int) (k : Nat) (hp : 0 ≤ p) (hk : (k : Int) = l.length - p) : rs l p k = l.drop p.toNat := by
  apply List.ext_getElem?
  intro i
  rw [rs_get, List.getElem?_drop]
  by_cases h2 : i < k
  · rw [if_pos h2, if_neg (by omega), show (p + (i : Int)).toNat = p.toNat + i by omega, List.getD_eq_getElem?_getD, List.getElem?_eq_getElem (by omega)]; rfl
  · rw [if_neg h2, List.getElem?_eq_none (by omega)]
end Go.Proofs.YtcbepojookbceaaDoor.Lc
