/- Plain Lean: a text of digits, nine at a time. -/
import Derived.Test.YtcdndcbfmlnpjaaGreatDoorNh
import Derived.Lib.AtoiAll
import Derived.Lib.SlTrimSet
namespace Go.Proofs.YtcdndcbfmlnpjaaGreatDoor.Na
set_option linter.all false
open Go

theorem parseUint_num (l : List UInt8) : ∀ (a : Nat), l.all isD = true → a * 10 ^ l.length + 10 ^ l.length ≤ 1000000000000000000 → Lib.parseUint10 a l = .ok (a * 10 ^ l.length + num l) := by
  induction l with
  | nil => intro a _ _; simp [Lib.parseUint10, num]
  | cons c l ih =>
    intro a hd hb
    rw [List.all_cons, Bool.and_eq_true] at hd
    have hc : 48 ≤ c.toNat ∧ c.toNat ≤ 57 := by
      have := hd.1; simp only [isD, Bool.and_eq_true, decide_eq_true_eq] at this; exact this
    have hp : 1 ≤ 10 ^ l.length := Nat.one_le_pow _ _ (by decide)
    have hn : num (c :: l) = (c.toNat - 48) * 10 ^ l.length + num l := by
      rw [num, List.foldl_cons, Nat.mul_zero, Nat.zero_add, num_from]
    rw [List.length_cons, Nat.pow_succ] at hb ⊢
    have hb2 : a * (10 ^ l.length * 10) = (a * 10) * 10 ^ l.length := by rw [Nat.mul_comm (10 ^ l.length) 10, Nat.mul_assoc]
    have hstep : (a * 10 + (c.toNat - 48)) * 10 ^ l.length + 10 ^ l.length ≤ a * (10 ^ l.length * 10) + 10 ^ l.length * 10 := by
      rw [hb2, Nat.add_mul]
      have : (c.toNat - 48) * 10 ^ l.length ≤ 9 * 10 ^ l.length := Nat.mul_le_mul_right _ (by omega)
      omega
    have ha : a ≤ 100000000000000000 := by
      have : a * 10 ≤ a * 10 * 10 ^ l.length := Nat.le_mul_of_pos_right _ hp
      omega
    rw [Lib.parseUint10, if_pos ⟨hc.1, hc.2⟩, if_neg (by omega), if_neg (by omega), ih _ hd.2 (by omega), hn, hb2, Nat.add_mul, Nat.add_assoc]

theorem atoi_num (l : List UInt8) (hd : l.all isD = true) (hne : l ≠ []) (hl : l.length ≤ 9) : Lib.atoiAll l = .ok (num l : Nat) := by
  have h4 : 10 ^ l.length ≤ 10 ^ 9 := Nat.pow_le_pow_right (by decide) hl
  have h1 := parseUint_num l 0 hd (by omega)
  rw [Nat.zero_mul, Nat.zero_add] at h1
  have h2 := num_lt l hd
  cases l with
  | nil => exact absurd rfl hne
  | cons c r =>
    rw [List.all_cons, Bool.and_eq_true] at hd
    have hc : 48 ≤ c.toNat ∧ c.toNat ≤ 57 := by
      have := hd.1; simp only [isD, Bool.and_eq_true, decide_eq_true_eq] at this; exact this
    have h43 : ¬ (c.toNat = 43 ∨ c.toNat = 45) := by omega
    have h45 : ¬ c.toNat = 45 := by omega
    have h5 : Lib.parseMag (if c.toNat = 43 ∨ c.toNat = 45 then r else c :: r) = .ok (num (c :: r)) := by
      rw [if_neg h43, Lib.parseMag, if_neg (by simp), h1]
    unfold Lib.atoiAll
    simp only []
    rw [h5]
    simp [h45]; omega

def dset : List UInt8 := [48, 49, 50, 51, 52, 53, 54, 55, 56, 57]
theorem isD_set (c : UInt8) : dset.contains c = isD c := by
  obtain ⟨k, hk⟩ : ∃ k : Nat, k = c.toNat := ⟨_, rfl⟩
  have h1 : ∀ d : UInt8, (c = d) ↔ k = d.toNat := fun d => by rw [hk]; exact UInt8.toNat_inj.symm
  rw [Bool.eq_iff_iff]
  simp only [dset, List.contains_iff_mem, List.mem_cons, List.not_mem_nil, or_false, isD, Bool.and_eq_true, decide_eq_true_eq, h1, ← hk, UInt8.toNat_ofNat]
  omega
theorem dropWhile_nil {α : Type} (p : α → Bool) (l : List α) : l.dropWhile p = [] ↔ l.all p = true := by
  induction l with
  | nil => simp
  | cons a l ih =>
    by_cases h : p a = true
    · rw [List.dropWhile_cons, if_pos h, ih, List.all_cons, h, Bool.true_and]
    · rw [List.dropWhile_cons, if_neg h, List.all_cons]; simp [h]
theorem trimS_nil (l cs : List UInt8) : Lib.trimS l cs = [] ↔ l.all (cs.contains ·) = true := by
  rw [Lib.trimS, Lib.trimLeftS, dropWhile_nil, Lib.trimRightS, List.all_reverse]
  have h := List.takeWhile_append_dropWhile (p := (cs.contains ·)) (l := l.reverse)
  have h2 : (l.reverse.takeWhile (cs.contains ·)).all (cs.contains ·) = true := by
    exact List.all_takeWhile
  have h3 : l.all (cs.contains ·) = l.reverse.all (cs.contains ·) := List.all_reverse.symm
  rw [h3]
  conv => rhs; rw [← h]
  rw [List.all_append, h2, Bool.true_and]
theorem trim_digits (l : List UInt8) : Lib.trimS l dset = [] ↔ l.all isD = true := by
  rw [trimS_nil]
  have : (fun c => dset.contains c) = isD := funext isD_set
  rw [this]

theorem all_dropWhile (l : List UInt8) (h : l.all isD = true) : (l.dropWhile (· == 48)).all isD = true := by
  rw [List.all_eq_true] at h ⊢
  exact fun x hx => h x ((List.dropWhile_sublist _).subset hx)
theorem head_dropWhile (l : List UInt8) (c : UInt8) (t : List UInt8) (h : l.dropWhile (· == 48) = c :: t) : c ≠ 48 := by
  induction l with
  | nil => simp at h
  | cons a l ih =>
    by_cases ha : (a == 48) = true
    · rw [List.dropWhile_cons, if_pos ha] at h; exact ih h
    · rw [List.dropWhile_cons, if_neg ha] at h
      injection h with h1 h2
      subst h1
      simpa using ha
theorem pow_pow_le (a b m n k : Nat) (h : a ≤ b ^ n) (hk : n * m ≤ k) (hb : 0 < b) : a ^ m ≤ b ^ k := by
  have := Nat.pow_le_pow_left h m
  rw [← Nat.pow_mul] at this
  exact Nat.le_trans this (Nat.pow_le_pow_right hb hk)
theorem pow_big (k : Nat) (h : 2560 ≤ k) : B ^ 256 ≤ 10 ^ k := pow_pow_le B 10 256 10 k (by decide) h (by decide)
theorem pow_two_big (k : Nat) (h : 8192 ≤ k) : B ^ 256 ≤ 2 ^ k := pow_pow_le B 2 256 32 k (by decide) h (by decide)
/-- A text of too many digits. -/
theorem num_long (l : List UInt8) (hd : l.all isD = true) (h : 3000 < (l.dropWhile (· == 48)).length) : fits (num l) = ([], 2) := by
  rw [← num_trim]
  have hd2 := all_dropWhile l hd
  cases e : l.dropWhile (· == 48) with
  | nil => rw [e] at h; simp at h
  | cons c t =>
    have h1 := head_dropWhile l c t e
    rw [e] at h hd2
    rw [List.all_cons, Bool.and_eq_true] at hd2
    have h2 := num_ge c t hd2.1 h1
    rw [List.length_cons] at h
    have h3 := pow_big t.length (by omega)
    rw [fits, if_pos]
    exact limbs_len_gt _ _ (Nat.le_trans h3 h2)
theorem fits_more {a b : Nat} (h : fits a = ([], 2)) (h2 : a ≤ b) : fits b = ([], 2) := by
  by_cases h1 : 256 < (limbs a).length
  · rw [fits, if_pos]
    refine limbs_len_gt _ _ (Nat.le_trans ?_ h2)
    exact Nat.le_of_not_lt fun hl => by have := (limbs_len_iff a 256).2 hl; omega
  · rw [fits, if_neg h1] at h
    injection h with _ h
    exact absurd h (by decide)
theorem num_split (l : List UInt8) (k n : Nat) : num (l.take (k + n)) = num (l.take k) * 10 ^ ((l.drop k).take n).length + num ((l.drop k).take n) := by
  rw [← num_app, List.take_add]
theorem num_pre (l : List UInt8) (k : Nat) : num (l.take k) ≤ num l := by
  have := num_app (l.take k) (l.drop k)
  rw [List.take_append_drop] at this
  rw [this]
  have := Nat.mul_le_mul_left (num (l.take k)) (Nat.one_le_pow (l.drop k).length 10 (by decide))
  omega
end Go.Proofs.YtcdndcbfmlnpjaaGreatDoor.Na
