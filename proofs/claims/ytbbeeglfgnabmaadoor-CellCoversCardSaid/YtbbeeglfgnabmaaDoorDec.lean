/- Plain Lean: decimals as lists of digits; no program in sight. -/
import Derived.WalkKit
import Derived.Lib.Strings
namespace Go.Proofs.YtbbeeglfgnabmaaDoor.Dc
set_option linter.all false

abbrev Bs := List UInt8

def isDig (c : UInt8) : Bool := decide (48 ≤ (c.toNat : Int)) && decide ((c.toNat : Int) ≤ 57)

/-- Digits alone. -/
def allDig (l : Bs) : Bool := l.all isDig

/-- Is a decimal right? -/
def right (l : Bs) (x : Int) : Bool :=
  if l = [] then x == 0
  else decide (l.length ≤ 1100) && (decide (-100000 ≤ x) && (decide (x ≤ 100000) && (allDig l && ((l[0]? != some 48) && (l[l.length - 1]? != some 48)))))

theorem right_nil (l : Bs) (x : Int) (h : l.length = 0) : right l x = (x == 0) := by
  have : l = [] := List.length_eq_zero_iff.1 h
  simp [right, this]

theorem right_false (l : Bs) (x : Int) (h : 0 < l.length) (h' : 1100 < l.length ∨ x < -100000 ∨ 100000 < x ∨ allDig l = false ∨ l[0]? = some 48 ∨ l[l.length - 1]? = some 48) : right l x = false := by
  have hne : l ≠ [] := by intro e; simp [e] at h
  rw [right, if_neg hne]
  rcases h' with h' | h' | h' | h' | h' | h'
  · rw [decide_eq_false (by omega)]; rfl
  · rw [decide_eq_false (p := -100000 ≤ x) (by omega)]; simp
  · rw [decide_eq_false (p := x ≤ 100000) (by omega)]; simp
  · rw [h']; simp
  · rw [h']; simp
  · rw [h']; simp

theorem right_true (l : Bs) (x : Int) (h : 0 < l.length) (h1 : l.length ≤ 1100) (h2 : -100000 ≤ x) (h3 : x ≤ 100000) (h4 : allDig l = true) (h5 : l[0]? ≠ some 48) (h6 : l[l.length - 1]? ≠ some 48) : right l x = true := by
  have hne : l ≠ [] := by intro e; simp [e] at h
  rw [right, if_neg hne, h4]
  simp [h1, h2, h3, h5, h6]

theorem get?_bytes (s : ByteArray) (k : Nat) (h : k < s.size) : s.data.toList[k]? = some s[k] := by
  simp [ByteArray.getElem_eq_getElem_data, h]
theorem last?_bytes (s : ByteArray) (h : 0 < s.size) : s.data.toList[s.data.toList.length - 1]? = some s[s.size - 1] := by
  rw [show s.data.toList.length = s.size by simp]; exact get?_bytes s _ (by omega)
theorem u8_of_int {c d : UInt8} (h : (c.toNat : Int) = d.toNat) : c = d := UInt8.toNat_inj.1 (by omega)
theorem int_of_u8 {c d : UInt8} (h : c = d) : (c.toNat : Int) = d.toNat := by rw [h]

theorem right_bytes_false (s : ByteArray) (x : Int) (h0 : 0 < s.size) (h : 1100 < s.size ∨ x < -100000 ∨ 100000 < x ∨ (s[0].toNat : Int) = 48 ∨ (s[s.size - 1].toNat : Int) = 48) : right s.data.toList x = false := by
  have hl : s.data.toList.length = s.size := by simp
  refine right_false _ _ (by omega) ?_
  rcases h with h | h | h | h | h
  · exact .inl (by omega)
  · exact .inr (.inl h)
  · exact .inr (.inr (.inl h))
  · exact .inr (.inr (.inr (.inr (.inl (by rw [get?_bytes s 0 h0]; exact congrArg some (u8_of_int h))))))
  · exact .inr (.inr (.inr (.inr (.inr (by rw [last?_bytes s h0]; exact congrArg some (u8_of_int h))))))

theorem right_bytes_nodig (s : ByteArray) (x : Int) (k : Nat) (hk : k < s.size) (h : isDig s[k] = false) : right s.data.toList x = false := by
  have hl : s.data.toList.length = s.size := by simp
  refine right_false _ _ (by omega) (.inr (.inr (.inr (.inl ?_))))
  rw [allDig, List.all_eq_false]
  exact ⟨s[k], List.mem_of_getElem? (get?_bytes s k hk), by simp [h]⟩

theorem right_bytes_true (s : ByteArray) (x : Int) (h0 : 0 < s.size) (a1 : s.size ≤ 1100) (a2 : -100000 ≤ x) (a3 : x ≤ 100000) (a4 : ¬ (s[0].toNat : Int) = 48) (a5 : ¬ (s[s.size - 1].toNat : Int) = 48) (a6 : allDig s.data.toList = true) : right s.data.toList x = true := by
  have hl : s.data.toList.length = s.size := by simp
  exact right_true _ _ (by omega) (by omega) a2 a3 a6 (by rw [get?_bytes s 0 h0]; intro h; exact a4 (int_of_u8 (Option.some.inj h))) (by rw [last?_bytes s h0]; intro h; exact a5 (int_of_u8 (Option.some.inj h)))

theorem hasSuffix_zero (s : ByteArray) (h0 : 0 < s.size) : Lib.hasSuffix s.data.toList [48] = decide ((s[s.size - 1].toNat : Int) = 48) := by
  have h1 := last?_bytes s h0
  have hne : s.data.toList ≠ [] := by intro e; rw [e] at h1; cases h1
  rw [Lib.hasSuffix, Bool.eq_iff_iff, List.isSuffixOf_iff_suffix, decide_eq_true_iff]
  constructor
  · rintro ⟨t, ht⟩
    rw [← ht] at h1
    simp at h1
    rw [← h1]; rfl
  · intro h
    have h2 : s[s.size - 1] = 48 := u8_of_int (by simpa using h)
    refine ⟨s.data.toList.dropLast, ?_⟩
    have h3 := List.dropLast_concat_getLast hne
    have h4 : s.data.toList.getLast hne = 48 := by
      have h5 := List.getLast?_eq_getElem? (l := s.data.toList)
      rw [h1, List.getLast?_eq_some_getLast hne, h2] at h5
      exact Option.some.inj h5
    rw [h4] at h3
    exact h3

theorem right_plain_false (s : ByteArray) (x : Int) (h0 : 0 < s.size) (h : allDig s.data.toList = false) : right s.data.toList x = false := by
  have hl : s.data.toList.length = s.size := by simp
  exact right_false _ _ (by omega) (.inr (.inr (.inr (.inl h))))

/-- How many digits stand ahead of the point. -/
def point (l : Bs) (x : Int) : Int := if right l x then l.length + x else 0
theorem point_eq (s : ByteArray) (x : Int) : point s.data.toList x = if right s.data.toList x then (s.size : Int) + x else 0 := by
  simp [point]
theorem right_len {l : Bs} {x : Int} (h : right l x = true) : l.length ≤ 1100 := by
  rw [right] at h
  split at h
  · rename_i e; simp [e]
  · simp only [Bool.and_eq_true, decide_eq_true_eq] at h; exact h.1
theorem right_exp {l : Bs} {x : Int} (h : right l x = true) : -100000 ≤ x ∧ x ≤ 100000 := by
  rw [right] at h
  split at h
  · have : x = 0 := by simpa using h
    omega
  · simp only [Bool.and_eq_true, decide_eq_true_eq] at h; exact ⟨h.2.1, h.2.2.1⟩
theorem right_dig {l : Bs} {x : Int} (h : right l x = true) : allDig l = true := by
  rw [right] at h
  split at h
  · rename_i e; simp [e, allDig]
  · simp only [Bool.and_eq_true, decide_eq_true_eq] at h; exact h.2.2.2.1

end Go.Proofs.YtbbeeglfgnabmaaDoor.Dc
