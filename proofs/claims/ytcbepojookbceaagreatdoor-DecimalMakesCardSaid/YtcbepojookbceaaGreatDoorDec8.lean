/- Plain Lean: digit strings compared place for place, noughts behind the last one. -/
import Derived.Test.YtcbepojookbceaaGreatDoorNum
namespace Go.Proofs.YtcbepojookbceaaGreatDoor.Dc
set_option linter.all false

theorem getD_dig {l : Bs} (h : allDig l = true) (i : Nat) : 48 ≤ (l.getD i 48).toNat := by
  rw [List.getD_eq_getElem?_getD]
  cases hg : l[i]? with
  | none => decide
  | some c => exact (dig_mem h (List.mem_of_getElem? hg)).1

theorem cmp_lt : ∀ (i : Nat) (a b : Bs), allDig a = true → allDig b = true → (∀ j, j < i → a.getD j 48 = b.getD j 48) → (a.getD i 48).toNat < (b.getD i 48).toNat → Lib.compareBytes a b = -1 ∧ Lib.compareBytes b a = 1 := by
  intro i
  induction i with
  | zero =>
    intro a b ha hb _ h
    cases a with
    | nil =>
      cases b with
      | nil => simp at h
      | cons d b => exact ⟨rfl, rfl⟩
    | cons c a =>
      cases b with
      | nil => have := getD_dig ha 0; simp at h this; omega
      | cons d b =>
        simp only [List.getD_cons_zero] at h
        have h1 : c < d := h
        have h2 : ¬ d < c := by show ¬ d.toNat < c.toNat; omega
        exact ⟨by rw [Lib.compareBytes, if_pos h1], by rw [Lib.compareBytes, if_neg h2, if_pos h1]⟩
  | succ i ih =>
    intro a b ha hb he h
    cases a with
    | nil =>
      cases b with
      | nil => simp at h
      | cons d b => exact ⟨rfl, rfl⟩
    | cons c a =>
      cases b with
      | nil => have := getD_dig ha (i + 1); simp at h this; omega
      | cons d b =>
        have h0 := he 0 (by omega)
        simp only [List.getD_cons_zero] at h0
        subst h0
        have h1 : ¬ c < c := by show ¬ c.toNat < c.toNat; omega
        rw [Lib.compareBytes, if_neg h1, if_neg h1, Lib.compareBytes, if_neg h1, if_neg h1]
        exact ih a b (dig_cons ha).2 (dig_cons hb).2 (fun j hj => by simpa using he (j + 1) (by omega)) (by simpa using h)

theorem compareBytes_self : ∀ a : Bs, Lib.compareBytes a a = 0
  | [] => rfl
  | c :: a => by
    have h1 : ¬ c < c := by show ¬ c.toNat < c.toNat; omega
    rw [Lib.compareBytes, if_neg h1, if_neg h1, compareBytes_self a]

theorem all48_end {b : Bs} (hb : endOk b) (h : ∀ j, b.getD j 48 = 48) : b = [] := by
  cases b with
  | nil => rfl
  | cons d b =>
    exfalso
    refine hb (by simp) ?_
    have := h ((d :: b).length - 1)
    rw [List.getD_eq_getElem?_getD, List.getElem?_eq_getElem (by simp)] at this
    rw [List.getElem?_eq_getElem (by simp)]
    exact congrArg some this

theorem cmp_eq : ∀ (a b : Bs), endOk a → endOk b → (∀ j, a.getD j 48 = b.getD j 48) → a = b := by
  intro a
  induction a with
  | nil => intro b _ hb h; exact (all48_end hb (fun j => by rw [← h j]; simp)).symm
  | cons c a ih =>
    intro b ha hb h
    cases b with
    | nil => exact all48_end ha (fun j => by rw [h j]; simp)
    | cons d b =>
      have h0 := h 0
      simp only [List.getD_cons_zero] at h0
      rw [h0, ih b (endOk_tail ha) (endOk_tail hb) (fun j => by simpa using h (j + 1))]

theorem cmp_all {a b : Bs} (ha : endOk a) (hb : endOk b) (n : Nat) (h1 : a.length ≤ n) (h2 : b.length ≤ n) (h : ∀ j, j < n → a.getD j 48 = b.getD j 48) : Lib.compareBytes a b = 0 := by
  rw [cmp_eq a b ha hb, compareBytes_self]
  intro j
  by_cases hj : j < n
  · exact h j hj
  · rw [List.getD_eq_getElem?_getD, List.getD_eq_getElem?_getD, List.getElem?_eq_none (by omega), List.getElem?_eq_none (by omega)]

theorem size_swap {la lb : Bs} {x y : Int} (ha : right la x = true) (hb : right lb y = true) : sizeC lb y la x = - sizeC la x lb y := by
  rw [sizeC_vv ha hb, sizeC_vv hb ha]; unfold sg; split <;> split <;> omega
end Go.Proofs.YtcbepojookbceaaGreatDoor.Dc
