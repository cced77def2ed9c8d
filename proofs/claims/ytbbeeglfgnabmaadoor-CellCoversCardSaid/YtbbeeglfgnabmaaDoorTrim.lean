/- Plain Lean: what strings.TrimLeftFunc cuts off by a predicate that no rune beyond ASCII meets. -/
import Derived.Shelf.GgClosure.StringsTrimFunc
import Derived.Lib.Walk
namespace Go.Proofs.YtbbeeglfgnabmaaDoor
set_option linter.all false
open Go

theorem decode_lo (s : ByteArray) (i : Nat) (h : (s.get! i).toNat < 128) : Utf8.decode s i = ((s.get! i).toNat, 1) := by
  unfold Utf8.decode
  simp only [Nat.add_zero]
  rw [if_pos (by omega)]
theorem decode_hi (s : ByteArray) (i : Nat) (h : 128 ≤ (s.get! i).toNat) : 128 ≤ (Utf8.decode s i).1 := by
  unfold Utf8.decode
  simp only [Nat.add_zero]
  have he : 128 ≤ Utf8.runeError := by decide
  rw [if_neg (by omega)]
  split
  · split
    · simp only; omega
    · exact he
  · split
    · split
      · rename_i h2
        simp only [ge_iff_le, Bool.and_eq_true, decide_eq_true_eq] at h2
        simp only; omega
      · exact he
    · split
      · split
        · rename_i h2
          simp only [ge_iff_le, Bool.and_eq_true, decide_eq_true_eq] at h2
          simp only; omega
        · exact he
      · exact he

theorem get!_eq (s : ByteArray) (i : Nat) (h : i < s.size) : s.get! i = s[i] := by
  cases s with
  | mk d =>
    have h' : i < d.size := h
    show d[i]! = d[i]
    rw [getElem!_pos d i h']

theorem drop_cons2 (s : ByteArray) (i : Nat) (h : i < s.size) : s.data.toList.drop i = s[i] :: s.data.toList.drop (i + 1) := by
  have hk : i < s.data.toList.length := by simpa using h
  rw [List.drop_eq_getElem_cons hk]
  congr 1

theorem drop_tw (p : UInt8 → Bool) (l : List UInt8) : l.drop (l.takeWhile p).length = l.dropWhile p := by
  induction l with
  | nil => rfl
  | cons c l ih => by_cases h : p c = true <;> simp [h, ih]
theorem take_tw (p : UInt8 → Bool) (l : List UInt8) : l.take (l.takeWhile p).length = l.takeWhile p := by
  induction l with
  | nil => rfl
  | cons c l ih => by_cases h : p c = true <;> simp [h, ih]

theorem idx_ascii (q : Nat → Bool) (hq : ∀ x, 128 ≤ x → q x = false) (s : ByteArray) : ∀ (f pos : Nat), s.size - pos ≤ f → pos ≤ s.size →
    Lib.idxFuncFrom q false s f pos = if (s.data.toList.drop pos).dropWhile (fun c => q c.toNat) = [] then -1 else ((pos + ((s.data.toList.drop pos).takeWhile (fun c => q c.toNat)).length : Nat) : Int) := by
  intro f
  induction f with
  | zero =>
    intro pos h1 h2
    have : s.data.toList.drop pos = [] := List.drop_eq_nil_of_le (by simp; omega)
    rw [this]; simp [Lib.idxFuncFrom]
  | succ f ih =>
    intro pos h1 h2
    unfold Lib.idxFuncFrom
    by_cases hp : pos < s.size
    · rw [if_pos hp, drop_cons2 s pos hp]
      have hg := get!_eq s pos hp
      by_cases hc : q (s[pos]).toNat = true
      · have hlt : (s[pos]).toNat < 128 := by
          rcases Nat.lt_or_ge (s[pos]).toNat 128 with h | h
          · exact h
          · rw [hq _ h] at hc; cases hc
        rw [decode_lo s pos (by rw [hg]; exact hlt), hg]
        simp only
        rw [if_neg (by rw [hc]; simp), ih (pos + 1) (by omega) (by omega), List.dropWhile_cons_of_pos (p := fun c : UInt8 => q c.toNat) hc, List.takeWhile_cons_of_pos (p := fun c : UInt8 => q c.toNat) hc]
        split
        · rfl
        · rw [List.length_cons]; omega
      · have hc' : q (s[pos]).toNat = false := by simpa using hc
        have hd : q (Utf8.decode s pos).1 = false := by
          rcases Nat.lt_or_ge (s[pos]).toNat 128 with h | h
          · rw [decode_lo s pos (by rw [hg]; exact h), hg]; exact hc'
          · exact hq _ (decode_hi s pos (by rw [hg]; exact h))
        rw [if_pos hd, List.dropWhile_cons_of_neg (p := fun c : UInt8 => q c.toNat) hc, List.takeWhile_cons_of_neg (p := fun c : UInt8 => q c.toNat) hc]
        simp
    · rw [if_neg hp]
      have : s.data.toList.drop pos = [] := List.drop_eq_nil_of_le (by simp; omega)
      rw [this]; simp

theorem trimLeft_ascii (q : Nat → Bool) (hq : ∀ x, 128 ≤ x → q x = false) (s : ByteArray) : (Lib.trimLeftF q s).data.toList = s.data.toList.dropWhile (fun c => q c.toNat) := by
  have h := idx_ascii q hq s s.size 0 (by omega) (by omega)
  rw [List.drop_zero] at h
  unfold Lib.trimLeftF Lib.idxFunc
  rw [h]
  by_cases he : s.data.toList.dropWhile (fun c => q c.toNat) = []
  · rw [if_pos he, if_pos rfl, he]
  · rw [if_neg he, if_neg (by omega)]
    rw [Lib.extract_to_end]
    have h3 : (((0 + (s.data.toList.takeWhile (fun c => q c.toNat)).length : Nat) : Int)).toNat = (s.data.toList.takeWhile (fun c => q c.toNat)).length := by omega
    rw [h3, drop_tw]
end Go.Proofs.YtbbeeglfgnabmaaDoor
