/- Plain Lean: digits and one, place for place from behind. -/
import Derived.Test.YtcbepojookbceaaDoorDec3
namespace Go.Proofs.YtcbepojookbceaaDoor.Dc
set_option linter.all false

theorem rep_replicate (m : Nat) : Lib.repeatL [48] m = List.replicate m 48 := by
  induction m with
  | zero => rfl
  | succ m ih => rw [Lib.repeatL, ih, List.replicate_succ]; rfl

/-- The first j digits as they were, noughts behind them. -/
def rowAt (K : Bs) (j : Nat) : Bs := K.take j ++ List.replicate (K.length - j) 48
theorem rowAt_len (K : Bs) (j : Nat) (h : j ≤ K.length) : (rowAt K j).length = K.length := by simp [rowAt]; omega
theorem rowAt_all (K : Bs) : rowAt K K.length = K := by simp [rowAt]
theorem rowAt_get (K : Bs) (j i : Nat) (h : j ≤ K.length) (hi : i < j) : (rowAt K j)[i]? = K[i]? := by
  rw [rowAt, List.getElem?_append_left (by rw [List.length_take]; omega), List.getElem?_take_of_lt hi]
theorem rowAt_inc (K : Bs) (j : Nat) (h : 0 < j) (hj : j ≤ K.length) (c : UInt8) : (rowAt K j).set (j - 1) c = K.take (j - 1) ++ [c] ++ List.replicate (K.length - j) 48 := by
  have hs : K.take j = K.take (j - 1) ++ [K[j - 1]'(by omega)] := by
    conv => lhs; rw [show j = j - 1 + 1 by omega]
    rw [List.take_succ_eq_append_getElem (by omega)]
  have hl : (K.take (j - 1)).length = j - 1 := by rw [List.length_take]; omega
  rw [rowAt, hs, List.append_assoc, List.set_append_right _ _ (by omega), hl, Nat.sub_self]
  simp
theorem rowAt_set (K : Bs) (j : Nat) (h : 0 < j) (hj : j ≤ K.length) : (rowAt K j).set (j - 1) 48 = rowAt K (j - 1) := by
  rw [rowAt_inc K j h hj, rowAt, List.append_assoc, show K.length - (j - 1) = K.length - j + 1 by omega, List.replicate_succ]
  rfl

theorem no9_at (K : Bs) (j : Nat) (h : ∀ c ∈ K.drop j, c = 57) (h2 : ∀ c, (K.take j).getLast? = some c → c ≠ 57) : no9 K = K.take j := by
  rw [no9, Lib.trimRightB]
  conv => lhs; rw [← List.take_append_drop j K]
  rw [List.reverse_append, List.dropWhile_append_of_pos (fun c hc => by rw [h c (List.mem_reverse.1 hc)]; rfl)]
  cases hr : (K.take j).reverse with
  | nil => rw [List.dropWhile_nil]; have := List.reverse_eq_nil_iff.1 hr; rw [this]; rfl
  | cons c r =>
    have hh : (K.take j).getLast? = some c := by rw [List.getLast?_eq_head?_reverse, hr]; rfl
    rw [List.dropWhile_cons_of_neg (by simpa using h2 c hh), ← hr, List.reverse_reverse]

theorem more_nines (K : Bs) (h : ∀ c ∈ K, c = 57) : more K = 49 :: List.replicate K.length 48 := by
  have h1 := no9_at K 0 h (by simp)
  rw [List.take_zero] at h1
  rw [more_nil h1, h1, rep_replicate]; rfl
theorem more_at (K : Bs) (j : Nat) (h0 : 0 < j) (hj : j ≤ K.length) (h : ∀ c ∈ K.drop j, c = 57) (c : UInt8) (hc : K[j - 1]? = some c) (hne : c ≠ 57) : more K = (rowAt K j).set (j - 1) (c + 1) := by
  have hlast : (K.take j).getLast? = some c := by
    rw [List.getLast?_eq_getElem?, List.length_take, Nat.min_eq_left hj, List.getElem?_take_of_lt (by omega), hc]
  have h1 := no9_at K j h (fun d hd => by rw [hlast] at hd; rw [← Option.some.inj hd]; exact hne)
  have h2 : (no9 K).getLast? = some c := by rw [h1]; exact hlast
  rw [more_cons h2, h1, rowAt_inc K j h0 hj, rep_replicate, List.length_take, Nat.min_eq_left hj, List.dropLast_eq_take, List.length_take, Nat.min_eq_left hj, List.take_take, Nat.min_eq_left (by omega)]

theorem half_cases (c : UInt8) (t : Bs) : half (c :: t) = if 53 < c.toNat then 1 else if c.toNat = 53 then (if t = [] then 0 else 1) else -1 := by
  have e : ∀ a b : UInt8, (a < b) = (a.toNat < b.toNat) := fun a b => rfl
  simp only [half, Lib.compareBytes, e]
  have h53 : (53 : UInt8).toNat = 53 := rfl
  rw [h53]
  by_cases h1 : 53 < c.toNat
  · rw [if_pos h1, if_neg (by omega), if_pos h1]
  · rw [if_neg h1]
    by_cases h2 : c.toNat = 53
    · rw [if_pos h2, if_neg (by omega), if_neg (by omega)]
      cases t with
      | nil => rfl
      | cons d t => rfl
    · rw [if_neg h2, if_pos (by omega), if_neg h1]
end Go.Proofs.YtcbepojookbceaaDoor.Dc
