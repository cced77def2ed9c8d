/- Plain Lean: a reference is read place for place. -/
import Derived.Test.YtbbeeglfgnabmaaDoorCell
import Derived.Test.YtbbeeglfgnabmaaDoorDec4
namespace Go.Proofs.YtbbeeglfgnabmaaDoor.Ce
set_option linter.all false
open Dc (Bs isDig allDig numOf)

def colM (l : Bs) : Int := l.foldl (fun a c => if 1000000 < 26 * a + letV c then 1000000 else 26 * a + letV c) 0
def rowM (l : Bs) : Int := l.foldl (fun a c => if 100000000 < 10 * a + ((c.toNat : Int) - 48) then 100000000 else 10 * a + ((c.toNat : Int) - 48)) 0
theorem colM_snoc (l : Bs) (c : UInt8) : colM (l ++ [c]) = if 1000000 < 26 * colM l + letV c then 1000000 else 26 * colM l + letV c := by rw [colM, List.foldl_append]; rfl
theorem rowM_snoc (l : Bs) (c : UInt8) : rowM (l ++ [c]) = if 100000000 < 10 * rowM l + ((c.toNat : Int) - 48) then 100000000 else 10 * rowM l + ((c.toNat : Int) - 48) := by rw [rowM, List.foldl_append]; rfl
theorem colM_bd (l : Bs) (h : l.all isLet = true) : 0 ≤ colM l ∧ colM l ≤ 1000000 := by
  obtain ⟨n, hn⟩ : ∃ n, n = l.length := ⟨_, rfl⟩
  induction n generalizing l with
  | zero => rw [List.length_eq_zero_iff.1 hn.symm]; decide
  | succ n ih =>
    obtain ⟨m, c, rfl⟩ : ∃ m c, l = m ++ [c] := by
      have hne : l ≠ [] := by intro e; rw [e] at hn; simp at hn
      exact ⟨l.dropLast, l.getLast hne, (List.dropLast_concat_getLast hne).symm⟩
    simp only [List.all_append, Bool.and_eq_true] at h
    have h1 := ih m h.1 (by simp at hn; omega)
    have h2 := letV_bd (c := c) (by simpa using h.2)
    rw [colM_snoc]; split <;> omega
theorem rowM_bd (l : Bs) (h : l.all isDig = true) : 0 ≤ rowM l ∧ rowM l ≤ 100000000 := by
  obtain ⟨n, hn⟩ : ∃ n, n = l.length := ⟨_, rfl⟩
  induction n generalizing l with
  | zero => rw [List.length_eq_zero_iff.1 hn.symm]; decide
  | succ n ih =>
    obtain ⟨m, c, rfl⟩ : ∃ m c, l = m ++ [c] := by
      have hne : l ≠ [] := by intro e; rw [e] at hn; simp at hn
      exact ⟨l.dropLast, l.getLast hne, (List.dropLast_concat_getLast hne).symm⟩
    simp only [List.all_append, Bool.and_eq_true] at h
    have h1 := ih m h.1 (by simp at hn; omega)
    have h2 : isDig c = true := by simpa using h.2
    simp [isDig] at h2
    rw [rowM_snoc]; split <;> omega
theorem colM_small (l : Bs) (h : l.all isLet = true) (hl : l.length ≤ 3) : colM l = colOf l := by
  match l, h, hl with
  | [], _, _ => rfl
  | [a], h, _ =>
    have b1 := letV_bd (c := a) (by simpa using h)
    simp only [colM, colOf, List.foldl]
    rw [if_neg (by omega)]
  | [a, b], h, _ =>
    have b1 := letV_bd (c := a) (by simp at h; exact h.1)
    have b2 := letV_bd (c := b) (by simp at h; exact h.2)
    simp only [colM, colOf, List.foldl]
    rw [if_neg (show ¬ 1000000 < 26 * 0 + letV a by omega), if_neg (by omega)]
  | [a, b, c], h, _ =>
    have b1 := letV_bd (c := a) (by simp at h; exact h.1)
    have b2 := letV_bd (c := b) (by simp at h; exact h.2.1)
    have b3 := letV_bd (c := c) (by simp at h; exact h.2.2)
    simp only [colM, colOf, List.foldl]
    rw [if_neg (show ¬ 1000000 < 26 * 0 + letV a by omega), if_neg (show ¬ 1000000 < 26 * (26 * 0 + letV a) + letV b by omega), if_neg (by omega)]
  | a :: b :: c :: d :: t, _, hl => simp at hl
theorem numOf_lt (l : Bs) (h : l.all isDig = true) : 0 ≤ numOf l ∧ numOf l < 10 ^ l.length := by
  obtain ⟨n, hn⟩ : ∃ n, n = l.length := ⟨_, rfl⟩
  induction n generalizing l with
  | zero => rw [List.length_eq_zero_iff.1 hn.symm]; decide
  | succ n ih =>
    obtain ⟨m, c, rfl⟩ : ∃ m c, l = m ++ [c] := by
      have hne : l ≠ [] := by intro e; rw [e] at hn; simp at hn
      exact ⟨l.dropLast, l.getLast hne, (List.dropLast_concat_getLast hne).symm⟩
    simp only [List.all_append, Bool.and_eq_true] at h
    have h1 := ih m h.1 (by simp at hn; omega)
    have h2 : isDig c = true := by simpa using h.2
    simp [isDig] at h2
    rw [Dc.numOf_snoc, List.length_append, List.length_singleton]
    have h3 : (10 : Int) ^ (m.length + 1) = 10 * 10 ^ m.length := by rw [Int.pow_succ]; omega
    rw [h3]; omega
theorem rowM_small (l : Bs) (h : l.all isDig = true) (hl : l.length ≤ 7) : rowM l = numOf l := by
  obtain ⟨n, hn⟩ : ∃ n, n = l.length := ⟨_, rfl⟩
  induction n generalizing l with
  | zero => rw [List.length_eq_zero_iff.1 hn.symm]; rfl
  | succ n ih =>
    obtain ⟨m, c, rfl⟩ : ∃ m c, l = m ++ [c] := by
      have hne : l ≠ [] := by intro e; rw [e] at hn; simp at hn
      exact ⟨l.dropLast, l.getLast hne, (List.dropLast_concat_getLast hne).symm⟩
    simp only [List.all_append, Bool.and_eq_true] at h
    rw [List.length_append, List.length_singleton] at hl hn
    have h1 := ih m h.1 (by omega) (by omega)
    have h2 : isDig c = true := by simpa using h.2
    simp [isDig] at h2
    rw [rowM_snoc, Dc.numOf_snoc, h1]
    have h4 := numOf_lt m h.1
    have h5 : (10 : Int) ^ m.length ≤ 10 ^ 6 := by
      have : (10 : Nat) ^ m.length ≤ 10 ^ 6 := Nat.pow_le_pow_right (by omega) (by omega)
      exact_mod_cast this
    rw [if_neg (by omega)]

theorem run_let (s : ByteArray) (i k : Nat) (hik : i ≤ k) (hk : k ≤ s.size) (h : ((s.data.toList.drop i).take (k - i)).all isLet = true) (hs : ∀ h : k < s.size, isLet s[k] = false) :
    (s.data.toList.drop i).takeWhile isLet = (s.data.toList.drop i).take (k - i) ∧ (s.data.toList.drop i).dropWhile isLet = s.data.toList.drop k := by
  have e : s.data.toList.drop i = (s.data.toList.drop i).take (k - i) ++ s.data.toList.drop k := by
    conv => lhs; rw [← List.take_append_drop (k - i) (s.data.toList.drop i), List.drop_drop]
    rw [show i + (k - i) = k by omega]
  have h2 := tw_let _ (s.data.toList.drop k) h (by
    intro c hc
    rw [List.getElem?_drop, Nat.add_zero] at hc
    by_cases hlt : k < s.size
    · have h3 : s.data.toList[k]? = some s[k] := by simp [ByteArray.getElem_eq_getElem_data, hlt]
      rw [h3] at hc; rw [← Option.some.inj hc]; exact hs hlt
    · rw [List.getElem?_eq_none (by simp; omega)] at hc; cases hc)
  rw [← e] at h2
  exact h2

/-- What is read, place for place. -/
theorem parse_at (s : ByteArray) (ac ar : Bool) (p0 k1 p1 k2 : Nat) (hac : ac = Lib.hasPrefix s.data.toList [36]) (hp0 : p0 = if ac then 1 else 0) (h1 : p0 ≤ k1) (h2 : k1 ≤ s.size)
    (hn : ((s.data.toList.drop p0).take (k1 - p0)).all isLet = true) (hns : ∀ h : k1 < s.size, isLet s[k1] = false) (har : ar = Lib.hasPrefix (s.data.toList.drop k1) [36]) (hp1 : p1 = if ar then k1 + 1 else k1)
    (h3 : p1 ≤ k2) (h4 : k2 ≤ s.size) (hr : ((s.data.toList.drop p1).take (k2 - p1)).all isDig = true) (hrs : ∀ h : k2 < s.size, isDig s[k2] = false) :
    parse s.data.toList = if k1 = p0 ∨ p0 + 3 < k1 then (zero, 3) else if k2 = p1 ∨ p1 + 7 < k2 ∨ k2 < s.size ∨ s.data.toList[p1]? = some 48 then (zero, 3) else
      if right ⟨colM ((s.data.toList.drop p0).take (k1 - p0)) - 1, rowM ((s.data.toList.drop p1).take (k2 - p1)) - 1, ac, ar⟩ then (⟨colM ((s.data.toList.drop p0).take (k1 - p0)) - 1, rowM ((s.data.toList.drop p1).take (k2 - p1)) - 1, ac, ar⟩, 0) else (zero, 14) := by
  have t0 : Lib.trimPrefix s.data.toList [36] = s.data.toList.drop p0 := by
    have := Dc.trimPrefix_one s 0 36
    rw [List.drop_zero, ← hac] at this
    rw [this, hp0]; cases ac <;> simp
  have t1 : Lib.trimPrefix (s.data.toList.drop k1) [36] = s.data.toList.drop p1 := by
    have := Dc.trimPrefix_one s k1 36
    rw [← har] at this
    rw [this, hp1]; cases ar <;> simp
  obtain ⟨a1, a2⟩ := run_let s p0 k1 h1 h2 hn hns
  obtain ⟨b1, b2⟩ := Dc.run_spec s p1 k2 h3 h4 hr hrs
  have l1 : ((s.data.toList.drop p0).take (k1 - p0)).length = k1 - p0 := by rw [List.length_take, List.length_drop]; simp; omega
  have l2 : ((s.data.toList.drop p1).take (k2 - p1)).length = k2 - p1 := by rw [List.length_take, List.length_drop]; simp; omega
  have l3 : (s.data.toList.drop k2).length = s.size - k2 := by rw [List.length_drop]; simp
  have f1 : ((s.data.toList.drop p1).take (k2 - p1))[0]? = if k2 = p1 then none else s.data.toList[p1]? := by
    rw [List.getElem?_take, List.getElem?_drop, Nat.add_zero]; split <;> split <;> (first | rfl | omega)
  unfold parse
  simp only [t0, a1, a2, ← hac, ← har, t1, b1, b2]
  have e1 : (s.data.toList.drop k2 ≠ []) ↔ (k2 < s.size) := by
    rw [ne_eq, ← List.length_eq_zero_iff, l3]; exact ⟨fun h => by omega, fun h => by omega⟩
  have e2 : ((s.data.toList.drop p0).take (k1 - p0) = []) ↔ (k1 = p0) := by
    rw [← List.length_eq_zero_iff, l1]; exact ⟨fun h => by omega, fun h => by omega⟩
  have e3 : ((s.data.toList.drop p1).take (k2 - p1) = []) ↔ (k2 = p1) := by
    rw [← List.length_eq_zero_iff, l2]; exact ⟨fun h => by omega, fun h => by omega⟩
  by_cases c1 : k1 = p0 ∨ p0 + 3 < k1
  · rw [if_pos c1, if_pos]
    rcases c1 with c | c
    · exact .inr (.inl (e2.2 c))
    · exact .inr (.inr (.inl (by omega)))
  · rw [if_neg c1]
    by_cases c2 : k2 = p1 ∨ p1 + 7 < k2 ∨ k2 < s.size ∨ s.data.toList[p1]? = some 48
    · rw [if_pos c2, if_pos]
      rcases c2 with c | c | c | c
      · exact .inr (.inr (.inr (.inl (e3.2 c))))
      · exact .inr (.inr (.inr (.inr (.inl (by omega)))))
      · exact .inl (e1.2 c)
      · by_cases h : k2 = p1
        · exact .inr (.inr (.inr (.inl (e3.2 h))))
        · rw [if_neg h] at f1; exact .inr (.inr (.inr (.inr (.inr (f1.trans c)))))
    · rw [if_neg c2, if_neg, colM_small _ hn (by omega), rowM_small _ hr (by omega)]
      rintro (c | c | c | c | c | c)
      · exact c2 (.inr (.inr (.inl (e1.1 c))))
      · exact c1 (.inl (e2.1 c))
      · exact c1 (.inr (by omega))
      · exact c2 (.inl (e3.1 c))
      · exact c2 (.inr (.inl (by omega)))
      · rw [f1] at c
        split at c
        · cases c
        · exact c2 (.inr (.inr (.inr c)))

theorem run_dig_ex (s : ByteArray) (p : Nat) (hp : p ≤ s.size) : ∃ k, p ≤ k ∧ k ≤ s.size ∧ ((s.data.toList.drop p).take (k - p)).all isDig = true ∧ ∀ h : k < s.size, isDig s[k] = false := by
  have e := List.takeWhile_append_dropWhile (p := isDig) (l := s.data.toList.drop p)
  have hl := congrArg List.length e
  rw [List.length_append, List.length_drop] at hl
  simp only [Array.length_toList] at hl
  have hz : s.data.size = s.size := rfl
  refine ⟨p + ((s.data.toList.drop p).takeWhile isDig).length, by omega, by omega, ?_, fun h => ?_⟩
  · rw [Nat.add_sub_cancel_left]
    have : (s.data.toList.drop p).take ((s.data.toList.drop p).takeWhile isDig).length = (s.data.toList.drop p).takeWhile isDig := by
      conv => lhs; rw [← e]
      rw [e]
      have := List.take_left (l₁ := (s.data.toList.drop p).takeWhile isDig) (l₂ := (s.data.toList.drop p).dropWhile isDig)
      rw [e] at this; exact this
    rw [this]; exact List.all_takeWhile
  · have h3 : s.data.toList[p + ((s.data.toList.drop p).takeWhile isDig).length]? = some (s[p + ((s.data.toList.drop p).takeWhile isDig).length]) := by simp [ByteArray.getElem_eq_getElem_data, h]
    have h4 : ((s.data.toList.drop p).dropWhile isDig)[0]? = some (s[p + ((s.data.toList.drop p).takeWhile isDig).length]) := by
      rw [← h3, ← List.getElem?_drop, ← Nat.add_zero ((s.data.toList.drop p).takeWhile isDig).length]
      conv => rhs; rw [← e]
      rw [List.getElem?_append_right (by simp)]
      simp
    cases hc : (s.data.toList.drop p).dropWhile isDig with
    | nil => rw [hc] at h4; simp at h4
    | cons c t =>
      have h5 := List.head_dropWhile_not isDig (l := s.data.toList.drop p) (by rw [hc]; simp)
      rw [hc] at h4
      simp only [List.getElem?_cons_zero, Option.some.injEq] at h4
      simp only [hc, List.head_cons] at h5
      rw [← h4]; simpa using h5

theorem parse_no1 (s : ByteArray) (ac : Bool) (p0 k1 : Nat) (hac : ac = Lib.hasPrefix s.data.toList [36]) (hp0 : p0 = if ac then 1 else 0) (h1 : p0 ≤ k1) (h2 : k1 ≤ s.size)
    (hn : ((s.data.toList.drop p0).take (k1 - p0)).all isLet = true) (hns : ∀ h : k1 < s.size, isLet s[k1] = false) (hb : k1 = p0 ∨ p0 + 3 < k1) : parse s.data.toList = (zero, 3) := by
  obtain ⟨ar, har⟩ : ∃ b, b = Lib.hasPrefix (s.data.toList.drop k1) [36] := ⟨_, rfl⟩
  have hdd := Dc.hasPrefix_one s k1 36
  rw [← har] at hdd
  obtain ⟨p1, hp1⟩ : ∃ p : Nat, p = if ar then k1 + 1 else k1 := ⟨_, rfl⟩
  have hp1s : p1 ≤ s.size := by
    cases ar
    · simp at hp1; omega
    · obtain ⟨h4, _⟩ := of_decide_eq_true hdd.symm
      simp at hp1; omega
  obtain ⟨k2, a, b, c, d⟩ := run_dig_ex s p1 hp1s
  rw [parse_at s ac ar p0 k1 p1 k2 hac hp0 h1 h2 hn hns har hp1 a b c d, if_pos hb]

theorem take_drop_snoc (s : ByteArray) (i k : Nat) (hik : i ≤ k) (h : k < s.size) : (s.data.toList.drop i).take (k + 1 - i) = (s.data.toList.drop i).take (k - i) ++ [s[k]] := by
  have e : s.data.toList[k]? = some s[k] := by simp [ByteArray.getElem_eq_getElem_data, h]
  rw [show k + 1 - i = (k - i) + 1 by omega, List.take_add_one, List.getElem?_drop, show i + (k - i) = k by omega, e]; rfl
end Go.Proofs.YtbbeeglfgnabmaaDoor.Ce
