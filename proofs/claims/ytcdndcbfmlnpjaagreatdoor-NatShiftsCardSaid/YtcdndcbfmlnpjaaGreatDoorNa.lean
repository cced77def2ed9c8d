/- Plain Lean: naturals as lists of limbs. -/
import Derived.WalkKit
namespace Go.Proofs.YtcdndcbfmlnpjaaGreatDoor.Na
set_option linter.all false

/-- A limb's range. -/
abbrev B : Nat := 4294967296

/-- The number of a list of limbs, the lowest first. -/
def val : List Nat → Nat
  | [] => 0
  | x :: l => x + B * val l

/-- The limbs of a number, without noughts at the end. -/
def limbs (n : Nat) : List Nat := if h : n = 0 then [] else (n % B) :: limbs (n / B)
termination_by n
decreasing_by exact Nat.div_lt_self (by omega) (by decide)

theorem limbs_zero : limbs 0 = [] := by rw [limbs]; rfl
theorem limbs_pos {n : Nat} (h : n ≠ 0) : limbs n = (n % B) :: limbs (n / B) := by rw [limbs, dif_neg h]
theorem val_limbs (n : Nat) : val (limbs n) = n := by
  induction n using Nat.strongRecOn with
  | _ n ih =>
    by_cases h : n = 0
    · subst h; rw [limbs_zero]; rfl
    · rw [limbs_pos h, val, ih _ (Nat.div_lt_self (by omega) (by decide))]; exact Nat.mod_add_div n B
theorem limbs_lt (n : Nat) : ∀ x ∈ limbs n, x < B := by
  induction n using Nat.strongRecOn with
  | _ n ih =>
    by_cases h : n = 0
    · subst h; rw [limbs_zero]; intro x hx; cases hx
    · rw [limbs_pos h]
      intro x hx
      rcases List.mem_cons.1 hx with rfl | hx
      · exact Nat.mod_lt _ (by decide)
      · exact ih _ (Nat.div_lt_self (by omega) (by decide)) x hx
theorem limbs_nil {n : Nat} : limbs n = [] ↔ n = 0 := by
  by_cases h : n = 0
  · subst h; simp [limbs_zero]
  · rw [limbs_pos h]; simp [h]

theorem val_app (a b : List Nat) : val (a ++ b) = val a + B ^ a.length * val b := by
  induction a with
  | nil => simp [val]
  | cons x a ih => simp only [List.cons_append, val, ih, List.length_cons, Nat.pow_succ, Nat.mul_add]; rw [Nat.mul_comm (B ^ a.length) B, Nat.mul_assoc]; omega
theorem val_zeros (k : Nat) : val (List.replicate k 0) = 0 := by
  induction k with
  | zero => rfl
  | succ k ih => simp [List.replicate_succ, val, ih]
theorem val_lt (a : List Nat) (h : ∀ x ∈ a, x < B) : val a < B ^ a.length := by
  induction a with
  | nil => simp [val]
  | cons x a ih =>
    have h1 := h x (List.mem_cons_self)
    have h2 := ih (fun y hy => h y (List.mem_cons_of_mem _ hy))
    simp only [val, List.length_cons, Nat.pow_succ]
    rw [Nat.mul_comm (B ^ a.length) B]
    have : B * val a + B ≤ B * B ^ a.length := by rw [← Nat.mul_succ]; exact Nat.mul_le_mul_left _ h2
    omega
theorem val_take_succ (a : List Nat) (i : Nat) (h : i < a.length) : val (a.take (i + 1)) = val (a.take i) + B ^ i * a[i] := by
  rw [List.take_succ_eq_append_getElem h, val_app]
  simp [val, Nat.min_eq_left (Nat.le_of_lt h)]
theorem val_take_drop (a : List Nat) (i : Nat) (h : i ≤ a.length) : val a = val (a.take i) + B ^ i * val (a.drop i) := by
  conv => lhs; rw [← List.take_append_drop i a]
  rw [val_app]; simp [Nat.min_eq_left h]
theorem val_lower (a : List Nat) (hne : a ≠ []) (hl : a.getLast hne ≠ 0) : B ^ (a.length - 1) ≤ val a := by
  have h := List.dropLast_concat_getLast hne
  rw [← h, val_app]
  simp only [List.length_append, List.length_cons, List.length_nil, val]
  have : B ^ a.dropLast.length * 1 ≤ B ^ a.dropLast.length * (a.getLast hne + B * 0) := Nat.mul_le_mul_left _ (by omega)
  simp only [Nat.zero_add, Nat.add_sub_cancel] at this ⊢
  omega

/-- A list of limbs that ends in no nought is the list of its number. -/
theorem limbs_val (a : List Nat) (h : ∀ x ∈ a, x < B) (hl : ∀ hne : a ≠ [], a.getLast hne ≠ 0) : limbs (val a) = a := by
  induction a with
  | nil => simp [val, limbs_zero]
  | cons x a ih =>
    have h1 := h x (List.mem_cons_self)
    have hne : val (x :: a) ≠ 0 := by
      intro e
      have := val_lower (x :: a) (by simp) (hl (by simp))
      have := Nat.one_le_pow ((x :: a).length - 1) B (by decide)
      omega
    rw [limbs_pos hne]
    have e1 : val (x :: a) % B = x := by simp only [val]; rw [Nat.add_mul_mod_self_left]; exact Nat.mod_eq_of_lt h1
    have e2 : val (x :: a) / B = val a := by simp only [val]; rw [Nat.add_mul_div_left _ _ (by decide)]; rw [Nat.div_eq_of_lt h1]; omega
    rw [e1, e2, ih (fun y hy => h y (List.mem_cons_of_mem _ hy)) (fun hn => by have := hl (by simp); rwa [List.getLast_cons hn] at this)]

/-- A list, cut behind its last limb that is no nought. -/
theorem limbs_take (a : List Nat) (h : ∀ x ∈ a, x < B) (k : Nat) (hk : k ≤ a.length) (hz : ∀ i (hi : i < a.length), k ≤ i → a[i] = 0) (hl : ∀ hk0 : 0 < k, a[k - 1] ≠ 0) : limbs (val a) = a.take k := by
  have hd : val (a.drop k) = 0 := by
    have : a.drop k = List.replicate (a.length - k) 0 := by
      apply List.ext_getElem
      · simp
      · intro i h1 h2
        simp only [List.getElem_drop, List.getElem_replicate]
        exact hz _ (by simp at h1; omega) (by omega)
    rw [this, val_zeros]
  rw [val_take_drop a k hk, hd, Nat.mul_zero, Nat.add_zero]
  refine limbs_val _ (fun x hx => h x (List.mem_of_mem_take hx)) (fun hne => ?_)
  have hk0 : 0 < k := by
    rcases Nat.eq_zero_or_pos k with rfl | h0
    · simp at hne
    · exact h0
  rw [List.getLast_eq_getElem]
  simp only [List.getElem_take, List.length_take, Nat.min_eq_left hk]
  exact hl hk0

theorem limbs_len_le (n k : Nat) (h : n < B ^ k) : (limbs n).length ≤ k := by
  induction k generalizing n with
  | zero => have : n = 0 := by simpa using h
            subst this; simp [limbs_zero]
  | succ k ih =>
    by_cases h0 : n = 0
    · subst h0; simp [limbs_zero]
    · rw [limbs_pos h0, List.length_cons]
      have : n / B < B ^ k := by rw [Nat.div_lt_iff_lt_mul (by decide), ← Nat.pow_succ]; exact h
      have := ih _ this
      omega
theorem limbs_len_gt (n k : Nat) (h : B ^ k ≤ n) : k < (limbs n).length := by
  have h1 := val_lt (limbs n) (limbs_lt n)
  rw [val_limbs] at h1
  rcases Nat.lt_or_ge k (limbs n).length with h2 | h2
  · exact h2
  · have := Nat.pow_le_pow_right (n := B) (by decide) h2
    omega
theorem limbs_len_iff (n k : Nat) : (limbs n).length ≤ k ↔ n < B ^ k :=
  ⟨fun h => by rcases Nat.lt_or_ge n (B ^ k) with h1 | h1; exact h1; have := limbs_len_gt n k h1; omega, limbs_len_le n k⟩
theorem limbs_inj {m n : Nat} (h : limbs m = limbs n) : m = n := by rw [← val_limbs m, h, val_limbs]
theorem limbs_last (n : Nat) (hne : limbs n ≠ []) : (limbs n).getLast hne ≠ 0 := by
  induction n using Nat.strongRecOn with
  | _ n ih =>
    have h0 : n ≠ 0 := fun e => hne (limbs_nil.2 e)
    by_cases h1 : n / B = 0
    · have e : limbs n = [n % B] := by rw [limbs_pos h0, limbs_nil.2 h1]
      have : n < B := (Nat.div_eq_zero_iff_lt (by decide)).1 h1
      simp only [e, List.getLast_singleton]
      rw [Nat.mod_eq_of_lt this]; exact h0
    · have hn1 : limbs (n / B) ≠ [] := fun e => h1 (limbs_nil.1 e)
      have e : limbs n = (n % B) :: limbs (n / B) := limbs_pos h0
      have := ih (n / B) (Nat.div_lt_self (by omega) (by decide)) hn1
      rw [← List.getLast_cons (a := n % B) hn1] at this
      simpa only [e] using this
end Go.Proofs.YtcdndcbfmlnpjaaGreatDoor.Na
