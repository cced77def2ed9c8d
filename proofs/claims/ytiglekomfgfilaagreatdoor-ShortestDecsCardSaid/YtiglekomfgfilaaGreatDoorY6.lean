/- Plain Lean: decimals as lists of digits; no program in sight. -/
import Derived.WalkKit
import Derived.Lib.Strings
import Derived.Lib.TrimByte
import Derived.Lib.SlTrimSet
import Derived.Lib.Bytealg
import Derived.Lib.Repeat
import Derived.Test.YtiglekomfgfilaaGreatDoorY5
namespace Go.Proofs.YtiglekomfgfilaaGreatDoor.Dc
set_option linter.all false
abbrev Bs := List UInt8
def isDig (c : UInt8) : Bool := decide (48 ≤ (c.toNat : Int)) && decide ((c.toNat : Int) ≤ 57)
def allDig (l : Bs) : Bool := l.all isDig
def right (l : Bs) (x : Int) : Bool :=
  if l = [] then x == 0
  else decide (l.length ≤ 1100) && (decide (-100000 ≤ x) && (decide (x ≤ 100000) && (allDig l && ((l[0]? != some 48) && (l[l.length - 1]? != some 48)))))
theorem right_nil (l : Bs) (x : Int) (h : l.length = 0) : right l x = (x == 0) := by
  have : l = [] := List.length_eq_zero_iff.1 h
  simp [right, this]
theorem right_false (l : Bs) (x : Int) (h : 0 < l.length) (h' : 1100 < l.length ∨ x < -100000 ∨ 100000 < x ∨ allDig l = false ∨ l[0]? = some 48 ∨ l[l.length - 1]? = some 48) : right l x = false := by
  have hne : l ≠ [] := by intro e; simp [e] at h
  rw [right, if_neg hne]
  rcases h' with h' | h' | h' | h' | h' | h'
  · rw [decide_eq_false (by omega)]; rfl
  · rw [decide_eq_false (p := -100000 ≤ x) (by omega)]; simp
  · rw [decide_eq_false (p := x ≤ 100000) (by omega)]; simp
  · rw [h']; simp
  · rw [h']; simp
  · rw [h']; simp
theorem right_true (l : Bs) (x : Int) (h : 0 < l.length) (h1 : l.length ≤ 1100) (h2 : -100000 ≤ x) (h3 : x ≤ 100000) (h4 : allDig l = true) (h5 : l[0]? ≠ some 48) (h6 : l[l.length - 1]? ≠ some 48) : right l x = true := by
  have hne : l ≠ [] := by intro e; simp [e] at h
  rw [right, if_neg hne, h4]
  simp [h1, h2, h3, h5, h6]
theorem get?_bytes (s : ByteArray) (k : Nat) (h : k < s.size) : s.data.toList[k]? = some s[k] := by
  simp [ByteArray.getElem_eq_getElem_data, h]
theorem last?_bytes (s : ByteArray) (h : 0 < s.size) : s.data.toList[s.data.toList.length - 1]? = some s[s.size - 1] := by
  rw [show s.data.toList.length = s.size by simp]; exact get?_bytes s _ (by omega)
theorem u8_of_int {c d : UInt8} (h : (c.toNat : Int) = d.toNat) : c = d := UInt8.toNat_inj.1 (by omega)
theorem int_of_u8 {c d : UInt8} (h : c = d) : (c.toNat : Int) = d.toNat := by rw [h]
theorem right_bytes_false (s : ByteArray) (x : Int) (h0 : 0 < s.size) (h : 1100 < s.size ∨ x < -100000 ∨ 100000 < x ∨ (s[0].toNat : Int) = 48 ∨ (s[s.size - 1].toNat : Int) = 48) : right s.data.toList x = false := by
  have hl : s.data.toList.length = s.size := by simp
  refine right_false _ _ (by omega) ?_
  rcases h with h | h | h | h | h
  · exact .inl (by omega)
  · exact .inr (.inl h)
  · exact .inr (.inr (.inl h))
  · exact .inr (.inr (.inr (.inr (.inl (by rw [get?_bytes s 0 h0]; exact congrArg some (u8_of_int h))))))
  · exact .inr (.inr (.inr (.inr (.inr (by rw [last?_bytes s h0]; exact congrArg some (u8_of_int h))))))
theorem right_bytes_nodig (s : ByteArray) (x : Int) (k : Nat) (hk : k < s.size) (h : isDig s[k] = false) : right s.data.toList x = false := by
  have hl : s.data.toList.length = s.size := by simp
  refine right_false _ _ (by omega) (.inr (.inr (.inr (.inl ?_))))
  rw [allDig, List.all_eq_false]
  exact ⟨s[k], List.mem_of_getElem? (get?_bytes s k hk), by simp [h]⟩
theorem right_bytes_true (s : ByteArray) (x : Int) (h0 : 0 < s.size) (a1 : s.size ≤ 1100) (a2 : -100000 ≤ x) (a3 : x ≤ 100000) (a4 : ¬ (s[0].toNat : Int) = 48) (a5 : ¬ (s[s.size - 1].toNat : Int) = 48) (a6 : allDig s.data.toList = true) : right s.data.toList x = true := by
  have hl : s.data.toList.length = s.size := by simp
  exact right_true _ _ (by omega) (by omega) a2 a3 a6 (by rw [get?_bytes s 0 h0]; intro h; exact a4 (int_of_u8 (Option.some.inj h))) (by rw [last?_bytes s h0]; intro h; exact a5 (int_of_u8 (Option.some.inj h)))
theorem hasSuffix_zero (s : ByteArray) (h0 : 0 < s.size) : Lib.hasSuffix s.data.toList [48] = decide ((s[s.size - 1].toNat : Int) = 48) := by
  have h1 := last?_bytes s h0
  have hne : s.data.toList ≠ [] := by intro e; rw [e] at h1; cases h1
  rw [Lib.hasSuffix, Bool.eq_iff_iff, List.isSuffixOf_iff_suffix, decide_eq_true_iff]
  constructor
  · rintro ⟨t, ht⟩
    rw [← ht] at h1
    simp at h1
    rw [← h1]; rfl
  · intro h
    have h2 : s[s.size - 1] = 48 := u8_of_int (by simpa using h)
    refine ⟨s.data.toList.dropLast, ?_⟩
    have h3 := List.dropLast_concat_getLast hne
    have h4 : s.data.toList.getLast hne = 48 := by
      have h5 := List.getLast?_eq_getElem? (l := s.data.toList)
      rw [h1, List.getLast?_eq_some_getLast hne, h2] at h5
      exact Option.some.inj h5
    rw [h4] at h3
    exact h3
theorem right_plain_false (s : ByteArray) (x : Int) (h0 : 0 < s.size) (h : allDig s.data.toList = false) : right s.data.toList x = false := by
  have hl : s.data.toList.length = s.size := by simp
  exact right_false _ _ (by omega) (.inr (.inr (.inr (.inl h))))
def point (l : Bs) (x : Int) : Int := if right l x then l.length + x else 0
theorem point_eq (s : ByteArray) (x : Int) : point s.data.toList x = if right s.data.toList x then (s.size : Int) + x else 0 := by
  simp [point]
theorem right_len {l : Bs} {x : Int} (h : right l x = true) : l.length ≤ 1100 := by
  rw [right] at h
  split at h
  · rename_i e; simp [e]
  · simp only [Bool.and_eq_true, decide_eq_true_eq] at h; exact h.1
theorem right_exp {l : Bs} {x : Int} (h : right l x = true) : -100000 ≤ x ∧ x ≤ 100000 := by
  rw [right] at h
  split at h
  · have : x = 0 := by simpa using h
    omega
  · simp only [Bool.and_eq_true, decide_eq_true_eq] at h; exact ⟨h.2.1, h.2.2.1⟩
theorem right_dig {l : Bs} {x : Int} (h : right l x = true) : allDig l = true := by
  rw [right] at h
  split at h
  · rename_i e; simp [e, allDig]
  · simp only [Bool.and_eq_true, decide_eq_true_eq] at h; exact h.2.2.2.1
end Go.Proofs.YtiglekomfgfilaaGreatDoor.Dc

/- Plain Lean: what is made of digits. -/
namespace Go.Proofs.YtiglekomfgfilaaGreatDoor.Dc
set_option linter.all false
structure Res where
  n : Bool
  l : Bs
  x : Int
  e : Int
def Res.val (r : Res) : Value := .tuple #[.agg #[.bool r.n, .string ⟨r.l.toArray⟩, .int .i64 r.x], .int .i64 r.e]
def lead (l : Bs) : Bs := Lib.trimLeftB l 48
def core (l : Bs) : Bs := Lib.trimRightB (lead l) 48
def tz (l : Bs) : Nat := (lead l).length - (core l).length
def mk (n : Bool) (l : Bs) (x : Int) : Res :=
  if allDig l = true then
    if core l = [] then ⟨n, [], 0, 0⟩
    else if right (core l) (x + tz l) = true then ⟨n, core l, x + tz l, 0⟩
    else ⟨false, [], 0, 2⟩
  else ⟨false, [], 0, 3⟩
theorem mk_bad {n : Bool} {l : Bs} {x : Int} (h : ¬ allDig l = true) : mk n l x = ⟨false, [], 0, 3⟩ := by rw [mk, if_neg h]
theorem mk_zero {n : Bool} {l : Bs} {x : Int} (h : allDig l = true) (h1 : core l = []) : mk n l x = ⟨n, [], 0, 0⟩ := by rw [mk, if_pos h, if_pos h1]
theorem mk_ok {n : Bool} {l : Bs} {x : Int} (h : allDig l = true) (h1 : core l ≠ []) (h2 : right (core l) (x + tz l) = true) : mk n l x = ⟨n, core l, x + tz l, 0⟩ := by rw [mk, if_pos h, if_neg h1, if_pos h2]
theorem mk_over {n : Bool} {l : Bs} {x : Int} (h : allDig l = true) (h1 : core l ≠ []) (h2 : ¬ right (core l) (x + tz l) = true) : mk n l x = ⟨false, [], 0, 2⟩ := by rw [mk, if_pos h, if_neg h1, if_neg h2]
theorem dropWhile_all (a r : Bs) (h : ∀ c ∈ a, c = 48) : (a ++ r).dropWhile (· == 48) = r.dropWhile (· == 48) :=
  List.dropWhile_append_of_pos (fun c hc => by simp [h c hc])
theorem dropWhile_head (b : Bs) (h : ∀ c, b[0]? = some c → c ≠ 48) : b.dropWhile (· == 48) = b := by
  cases b with
  | nil => rfl
  | cons c b => rw [List.dropWhile_cons_of_neg]; simpa using h c rfl
theorem tz_int (l : Bs) : (tz l : Int) = (lead l).length - (core l).length := by
  have : (core l).length ≤ (lead l).length := by
    rw [core, Lib.trimRightB, List.length_reverse]
    have := (List.dropWhile_sublist (· == 48) (l := (lead l).reverse)).length_le
    simpa using this
  unfold tz; omega
theorem core_split (l a b z : Bs) (hl : l = a ++ (b ++ z)) (ha : ∀ c ∈ a, c = 48) (hz : ∀ c ∈ z, c = 48) (hb : b ≠ []) (h1 : ∀ c, b[0]? = some c → c ≠ 48) (h2 : ∀ c, b[b.length - 1]? = some c → c ≠ 48) :
    lead l = b ++ z ∧ core l = b := by
  have e1 : lead l = b ++ z := by
    rw [lead, Lib.trimLeftB, hl, dropWhile_all _ _ ha]
    refine dropWhile_head _ fun c hc => h1 c ?_
    have : 0 < b.length := List.length_pos_iff.2 hb
    rwa [List.getElem?_append_left this] at hc
  refine ⟨e1, ?_⟩
  rw [core, e1, Lib.trimRightB, List.reverse_append, dropWhile_all _ _ (fun c hc => hz c (by simpa using hc)), dropWhile_head, List.reverse_reverse]
  intro c hc
  refine h2 c ?_
  have : 0 < b.length := List.length_pos_iff.2 hb
  rwa [List.getElem?_reverse this] at hc
theorem core_zero (l : Bs) (h : ∀ c ∈ l, c = 48) : core l = [] := by
  have : lead l = [] := by
    rw [lead, Lib.trimLeftB]; have := dropWhile_all l [] h; simpa using this
  rw [core, this]; rfl
theorem lead_mem {l : Bs} {c : UInt8} (h : c ∈ lead l) : c ∈ l := by
  rw [lead, Lib.trimLeftB] at h
  exact (List.dropWhile_sublist _).mem h
theorem core_mem {l : Bs} {c : UInt8} (h : c ∈ core l) : c ∈ l := by
  rw [core, Lib.trimRightB, List.mem_reverse] at h
  have := (List.dropWhile_sublist _).mem h
  exact lead_mem (by simpa using this)
theorem core_len (l : Bs) : (core l).length ≤ (lead l).length := by
  rw [core, Lib.trimRightB, List.length_reverse]
  have := (List.dropWhile_sublist (· == 48) (l := (lead l).reverse)).length_le
  simpa using this
theorem lead_len (l : Bs) : (lead l).length ≤ l.length := by
  rw [lead, Lib.trimLeftB]
  exact (List.dropWhile_sublist _).length_le
theorem tz_le (l : Bs) : tz l ≤ l.length := by have := lead_len l; unfold tz; omega
theorem dropWhile_get0 (l : Bs) (c : UInt8) (h : (l.dropWhile (· == 48))[0]? = some c) : c ≠ 48 := by
  induction l with
  | nil => simp at h
  | cons a l ih =>
    by_cases ha : a = 48
    · rw [List.dropWhile_cons_of_pos (by simpa using ha)] at h; exact ih h
    · rw [List.dropWhile_cons_of_neg (by simpa using ha)] at h
      simp at h; rw [← h]; exact ha
theorem core_last (l : Bs) (c : UInt8) (h : (core l)[(core l).length - 1]? = some c) : c ≠ 48 := by
  rw [core, Lib.trimRightB] at h
  generalize hd : (lead l).reverse.dropWhile (· == 48) = d at h
  have hd0 := fun c => dropWhile_get0 (lead l).reverse c
  rw [hd] at hd0
  cases d with
  | nil => simp at h
  | cons a d =>
    rw [List.getElem?_reverse (by simp)] at h
    exact hd0 c (by simpa using h)
theorem lead_core (l : Bs) (h : core l ≠ []) : ∃ z, lead l = core l ++ z ∧ ∀ c ∈ z, c = 48 := by
  have hs := List.takeWhile_append_dropWhile (p := (· == 48)) (l := (lead l).reverse)
  refine ⟨((lead l).reverse.takeWhile (· == 48)).reverse, ?_, ?_⟩
  · rw [core, Lib.trimRightB, ← List.reverse_append, hs, List.reverse_reverse]
  · intro c hc
    rw [List.mem_reverse] at hc
    have := List.all_eq_true.1 (List.all_takeWhile (l := (lead l).reverse) (p := (· == 48))) c hc
    simpa using this
theorem core_first (l : Bs) (c : UInt8) (hne : core l ≠ []) (h : (core l)[0]? = some c) : c ≠ 48 := by
  obtain ⟨z, hz, _⟩ := lead_core l hne
  have h2 : (lead l)[0]? = some c := by
    rw [hz, List.getElem?_append_left (List.length_pos_iff.2 hne)]; exact h
  rw [lead, Lib.trimLeftB] at h2
  exact dropWhile_get0 _ _ h2
theorem core_dig {l : Bs} (h : allDig l = true) : allDig (core l) = true := by
  rw [allDig, List.all_eq_true] at *
  exact fun c hc => h c (core_mem hc)
theorem right_core {l : Bs} (x : Int) (h : allDig l = true) (hne : core l ≠ []) : right (core l) x = true ↔ ((core l).length ≤ 1100 ∧ -100000 ≤ x ∧ x ≤ 100000) := by
  constructor
  · intro hr; exact ⟨right_len hr, right_exp hr⟩
  · rintro ⟨a, b, c⟩
    exact right_true _ _ (List.length_pos_iff.2 hne) a b c (core_dig h) (fun e => core_first l _ hne e rfl) (fun e => core_last l _ e rfl)
theorem far_not {l : Bs} {x : Int} (hl : l.length ≤ 1000000000) (hne : core l ≠ []) (h : x < -1099511627776 ∨ 1099511627776 ≤ x) : ¬ right (core l) (x + tz l) = true ∧ ¬ right (core l) x = true := by
  have h1 := tz_le l
  exact ⟨fun hr => by have := right_exp hr; omega, fun hr => by have := right_exp hr; omega⟩
def is0 (c : UInt8) : Bool := c == 48
theorem is0_mem {l : Bs} (h : l.all is0 = true) : ∀ c ∈ l, c = 48 := by
  intro c hc
  have := List.all_eq_true.1 h c hc
  simpa [is0] using this
theorem is0_iff (c : UInt8) : is0 c = true ↔ (c.toNat : Int) = 48 := by
  constructor
  · intro h; have : c = 48 := by simpa [is0] using h
    rw [this]; rfl
  · intro h; have : c = 48 := u8_of_int (by simpa using h)
    rw [this]; rfl
theorem cut_core_zero (l : Bs) (f : Nat) (h1 : (l.take f).all is0 = true) (h2 : (l.drop f).all is0 = true) : core l = [] := by
  refine core_zero l fun c hc => ?_
  rw [← List.take_append_drop f l] at hc
  rcases List.mem_append.1 hc with h | h
  · exact is0_mem h1 c h
  · exact is0_mem h2 c h
theorem cut_core (s : ByteArray) (f t : Nat) (hft : f < t) (hts : t ≤ s.size) (h1 : (s.data.toList.take f).all is0 = true) (h2 : (s.data.toList.drop t).all is0 = true)
    (h3 : ¬ (s[f].toNat : Int) = 48) (h4 : ¬ (s[t - 1].toNat : Int) = 48) : core s.data.toList = (s.extract f t).data.toList ∧ (tz s.data.toList : Int) = s.size - t := by
  have hl : s.data.toList.length = s.size := by simp
  have hb : (s.extract f t).data.toList = (s.data.toList.drop f).take (t - f) := Lib.extract_data s f t
  have hlen : ((s.data.toList.drop f).take (t - f)).length = t - f := by rw [List.length_take, List.length_drop, hl]; omega
  have hsp : s.data.toList = s.data.toList.take f ++ ((s.data.toList.drop f).take (t - f) ++ s.data.toList.drop t) := by
    have e1 := List.take_append_drop f s.data.toList
    have e2 := List.take_append_drop (t - f) (s.data.toList.drop f)
    rw [List.drop_drop, show f + (t - f) = t by omega] at e2
    rw [e2, e1]
  have hg : ∀ i, i < t - f → ((s.data.toList.drop f).take (t - f))[i]? = s.data.toList[f + i]? := fun i hi => by
    rw [List.getElem?_take_of_lt hi, List.getElem?_drop]
  obtain ⟨c1, c2⟩ := core_split s.data.toList (s.data.toList.take f) ((s.data.toList.drop f).take (t - f)) (s.data.toList.drop t) hsp (is0_mem h1) (is0_mem h2)
    (by intro e; rw [e] at hlen; simp at hlen; omega)
    (fun c hc => by
      rw [hg 0 (by omega), Nat.add_zero, get?_bytes s f (by omega)] at hc
      intro e; exact h3 (by rw [Option.some.inj hc, e]; rfl))
    (fun c hc => by
      rw [hlen, hg (t - f - 1) (by omega), show f + (t - f - 1) = t - 1 by omega, get?_bytes s (t - 1) (by omega)] at hc
      intro e; exact h4 (by rw [Option.some.inj hc, e]; rfl))
  refine ⟨by rw [c2, hb], ?_⟩
  rw [tz_int, c1, c2, List.length_append, hlen, List.length_drop, hl]; omega
end Go.Proofs.YtiglekomfgfilaaGreatDoor.Dc

/- Plain Lean: rounding decimals, digit by digit. -/
namespace Go.Proofs.YtiglekomfgfilaaGreatDoor.Dc
set_option linter.all false
def odd (l : Bs) : Bool := match l.getLast? with
  | some c => c.toNat % 2 == 1
  | none => false
def half (rest : Bs) : Int := Lib.compareBytes rest [53]
def up (neg : Bool) (kept rest : Bs) (way : Int) : Bool :=
  if rest = [] then false
  else if way = 0 then decide (0 < half rest) || (decide (half rest = 0) && odd kept)
  else if way = 1 then decide (0 ≤ half rest)
  else if way = 3 then true
  else if way = 4 then neg
  else decide (way = 5) && !neg
def no9 (l : Bs) : Bs := Lib.trimRightB l 57
def more (l : Bs) : Bs :=
  match (no9 l).getLast? with
  | none => 49 :: Lib.repeatL [48] (l.length - (no9 l).length)
  | some c => (no9 l).dropLast ++ [c + 1] ++ Lib.repeatL [48] (l.length - (no9 l).length)
def cut (n : Bool) (l : Bs) (x k way : Int) : Res :=
  let kept := l.take k.toNat
  let rest := if k < 0 then 48 :: l else l.drop k.toNat
  mk n (if up n kept rest way then more kept else kept) (x + l.length - k)
theorem and_one (c : UInt8) : bits BinOp.and IntKind.u8 (c.toNat : Int) 1 = ((c.toNat % 2 : Nat) : Int) := by
  have h : ∀ n : Fin 256, bits BinOp.and IntKind.u8 ((n : Nat) : Int) 1 = (((n : Nat) % 2 : Nat) : Int) := by decide +kernel
  exact h ⟨c.toNat, c.toNat_lt⟩
theorem odd_nil {l : Bs} (h : l.length = 0) : odd l = false := by
  rw [List.length_eq_zero_iff.1 h]; rfl
theorem odd_last (s : ByteArray) (h : 0 < s.size) : odd s.data.toList = (((s[s.size - 1].toNat % 2 : Nat) : Int) == 1) := by
  have h1 := last?_bytes s h
  rw [odd, List.getLast?_eq_getElem?, h1]
  simp only []
  rw [Bool.eq_iff_iff]; simp; omega
theorem no9_len (l : Bs) : (no9 l).length ≤ l.length := by
  rw [no9, Lib.trimRightB, List.length_reverse]
  have := (List.dropWhile_sublist (· == 57) (l := l.reverse)).length_le
  simpa using this
theorem no9_mem {l : Bs} {c : UInt8} (h : c ∈ no9 l) : c ∈ l := by
  rw [no9, Lib.trimRightB, List.mem_reverse] at h
  have := (List.dropWhile_sublist _).mem h
  simpa using this
theorem more_nil {l : Bs} (h : no9 l = []) : more l = 49 :: Lib.repeatL [48] (l.length - (no9 l).length) := by
  unfold more
  split
  · rfl
  · rename_i c hc; rw [h] at hc; cases hc
theorem more_cons {l : Bs} {c : UInt8} (h : (no9 l).getLast? = some c) : more l = (no9 l).dropLast ++ [c + 1] ++ Lib.repeatL [48] (l.length - (no9 l).length) := by
  unfold more
  split
  · rename_i hc; rw [h] at hc; cases hc
  · rename_i d hc; rw [h] at hc; cases hc; rfl
theorem dig_mem {l : Bs} (h : allDig l = true) {c : UInt8} (hc : c ∈ l) : 48 ≤ c.toNat ∧ c.toNat ≤ 57 := by
  have := List.all_eq_true.1 h c hc
  simp [isDig] at this; omega
theorem more_parts (s : ByteArray) (hd : allDig s.data.toList = true) : ∃ T Z : ByteArray, T = ⟨(no9 s.data.toList).toArray⟩ ∧ Z = ⟨(Lib.repeatL [48] (s.size - T.size)).toArray⟩ ∧ T.size ≤ s.size ∧
    ((T.size = 0 ∧ (⟨#[49]⟩ : ByteArray) ++ Z = ⟨(more s.data.toList).toArray⟩) ∨
     (∃ (c : UInt8) (h : 0 < T.size), T[T.size - 1] = c ∧ 48 ≤ c.toNat ∧ c.toNat ≤ 57 ∧ T.extract 0 (T.size - 1) ++ ⟨#[c + 1]⟩ ++ Z = ⟨(more s.data.toList).toArray⟩)) := by
  have hl : s.data.toList.length = s.size := by simp
  have hsz : (⟨(no9 s.data.toList).toArray⟩ : ByteArray).size = (no9 s.data.toList).length := by simp [ByteArray.size]
  refine ⟨_, _, rfl, rfl, by rw [hsz, ← hl]; exact no9_len _, ?_⟩
  cases he : (no9 s.data.toList).getLast? with
  | none =>
    have hn : no9 s.data.toList = [] := by simpa using he
    refine .inl ⟨by rw [hsz, hn]; rfl, ?_⟩
    rw [hsz, more_nil hn, hl, show (⟨#[49]⟩ : ByteArray) = ⟨[49].toArray⟩ from rfl, ByteArray.mk_append_mk]; rfl
  | some c =>
    have hc := dig_mem hd (no9_mem (List.mem_of_getLast? he))
    have hpos : 0 < (no9 s.data.toList).length := by
      cases e : no9 s.data.toList with
      | nil => rw [e] at he; cases he
      | cons => simp
    refine .inr ⟨c, by rw [hsz]; exact hpos, ?_, hc.1, hc.2, ?_⟩
    · have h2 := get?_bytes (⟨(no9 s.data.toList).toArray⟩ : ByteArray) ((⟨(no9 s.data.toList).toArray⟩ : ByteArray).size - 1) (by rw [hsz]; omega)
      rw [List.getLast?_eq_getElem?] at he
      have h3 : (⟨(no9 s.data.toList).toArray⟩ : ByteArray).data.toList = no9 s.data.toList := rfl
      rw [h3] at h2
      have h4 : (no9 s.data.toList)[(⟨(no9 s.data.toList).toArray⟩ : ByteArray).size - 1]? = some c := by rw [hsz]; exact he
      rw [h4] at h2
      exact (Option.some.inj h2).symm
    · rw [more_cons he, ByteArray.extract_mk, show (⟨#[c + 1]⟩ : ByteArray) = ⟨[c + 1].toArray⟩ from rfl, ByteArray.mk_append_mk, ByteArray.mk_append_mk, hsz, List.drop_zero, Nat.sub_zero, List.dropLast_eq_take, hl]
def sig (n : Bool) (l : Bs) (x k way : Int) : Res :=
  if right l x = true ∧ 0 ≤ way ∧ way ≤ 5 ∧ 1 ≤ k then
    if l.length ≤ k then ⟨n, l, x, 0⟩ else cut n l x k way
  else ⟨false, [], 0, 1⟩
def place (n : Bool) (l : Bs) (x k way : Int) : Res :=
  if right l x = true ∧ 0 ≤ way ∧ way ≤ 5 ∧ -100000 ≤ k ∧ k ≤ 100000 then
    if l ≠ [] ∧ point l x + k < l.length then cut n l x (point l x + k) way else ⟨n, l, x, 0⟩
  else ⟨false, [], 0, 1⟩
theorem encode_next (c : UInt8) (h1 : 48 ≤ c.toNat) (h2 : c.toNat ≤ 57) : Utf8.encode ((c.toNat : Int) + 1) = ⟨#[c + 1]⟩ := by
  have h : ∀ n : Fin 256, (n : Nat) ≤ 57 → Utf8.encode (((n : Nat) : Int) + 1) = ⟨#[UInt8.ofNat n + 1]⟩ := by decide +kernel
  have := h ⟨c.toNat, c.toNat_lt⟩ h2
  simpa using this
theorem contains_digs (c : UInt8) : ([48, 49, 50, 51, 52, 53, 54, 55, 56, 57] : List UInt8).contains c = isDig c := by
  have h : ∀ n : Fin 256, ([48, 49, 50, 51, 52, 53, 54, 55, 56, 57] : List UInt8).contains (UInt8.ofNat n) = isDig (UInt8.ofNat n) := by decide +kernel
  have := h ⟨c.toNat, c.toNat_lt⟩
  simpa using this
theorem dropWhile_digs (l : Bs) : Lib.trimLeftS l ([48, 49, 50, 51, 52, 53, 54, 55, 56, 57] : List UInt8) = l.dropWhile isDig := by
  rw [Lib.trimLeftS]; congr 1; funext c; exact contains_digs c
theorem take_tw (l : Bs) (p : UInt8 → Bool) (k : Nat) (h : k + (l.dropWhile p).length = l.length) : l.take k = l.takeWhile p := by
  have e := congrArg List.length (List.takeWhile_append_dropWhile (p := p) (l := l))
  rw [List.length_append] at e
  have := List.take_left' (l₂ := l.dropWhile p) (show (l.takeWhile p).length = k by omega)
  rwa [List.takeWhile_append_dropWhile] at this
theorem dig_take {l : Bs} (h : allDig l = true) (k : Nat) : allDig (l.take k) = true := by
  rw [allDig, List.all_eq_true] at *
  exact fun c hc => h c (List.mem_of_mem_take hc)
theorem more_len (l : Bs) : (more l).length ≤ l.length + 1 := by
  have h := no9_len l
  unfold more
  split
  · rw [List.length_cons, Lib.repeatL_length]; simp
  · rename_i c hc
    have hp : 0 < (no9 l).length := by
      cases e : no9 l with
      | nil => rw [e] at hc; cases hc
      | cons => simp
    rw [List.length_append, List.length_append, List.length_dropLast, Lib.repeatL_length]; simp; omega
theorem cut_rest (s : ByteArray) (k : Int) (h : k ≤ 0) : (⟨(Lib.repeatL [48] (max 0 (min (-k) 1)).toNat).toArray⟩ : ByteArray) ++ s = ⟨(if k < 0 then 48 :: s.data.toList else s.data.toList.drop k.toNat).toArray⟩ := by
  have hs : s = ⟨s.data.toList.toArray⟩ := rfl
  by_cases hk : k < 0
  · rw [if_pos hk, show (max 0 (min (-k) 1)).toNat = 1 by omega]
    conv => lhs; rw [hs]
    rw [ByteArray.mk_append_mk]; rfl
  · rw [if_neg hk, show (max 0 (min (-k) 1)).toNat = 0 by omega, show k.toNat = 0 by omega]
    conv => lhs; rw [hs]
    rw [ByteArray.mk_append_mk]; rfl
end Go.Proofs.YtiglekomfgfilaaGreatDoor.Dc

/- Plain Lean: binary64 as bits: kind, sign, whole part, power of two; the decimal that n times a power of two is. -/
namespace Go.Proofs.YtiglekomfgfilaaGreatDoor.Fl
set_option linter.all false
open Go
def expo (x : Nat) : Nat := x / 4503599627370496 % 2048
def frac (x : Nat) : Nat := x % 4503599627370496
def kind (x : Nat) : Nat := if expo x = 2047 then (if frac x = 0 then 3 else 4) else if 0 < expo x then 2 else if 0 < frac x then 1 else 0
def neg (x : Nat) : Bool := decide (9223372036854775808 ≤ x)
def mant (x : Nat) : Nat := if kind x = 2 then 4503599627370496 + frac x else if kind x < 2 then frac x else 0
def expn (x : Nat) : Int := if kind x = 2 then (expo x : Int) - 1075 else if kind x < 2 then -1074 else 0
theorem expo_lt (x : Nat) : expo x < 2048 := Nat.mod_lt _ (by decide)
theorem frac_lt (x : Nat) : frac x < 4503599627370496 := Nat.mod_lt _ (by decide)
theorem mant_lt (x : Nat) : mant x < 9007199254740992 := by
  have := frac_lt x
  unfold mant; split
  · omega
  · split <;> omega
theorem expn_bound (x : Nat) : -1074 ≤ expn x ∧ expn x ≤ 971 := by
  unfold expn
  split
  · rename_i h
    unfold kind at h
    have := expo_lt x
    split at h
    · split at h <;> omega
    · split at h
      · omega
      · split at h <;> omega
  · split <;> omega
def halve : Nat → Nat → Nat × Nat
  | 0, n => (n, 0)
  | k + 1, n => if n ≠ 0 ∧ n % 2 = 0 then halve k (n / 2) else (n, k + 1)
theorem halve_yes {k n : Nat} (h0 : n ≠ 0) (h : n % 2 = 0) : halve (k + 1) n = halve k (n / 2) := if_pos ⟨h0, h⟩
theorem halve_no {k n : Nat} (h : n = 0 ∨ n % 2 ≠ 0) : halve (k + 1) n = (n, k + 1) := if_neg (by omega)
theorem halve_le (k : Nat) : ∀ n, (halve k n).1 ≤ n ∧ (halve k n).2 ≤ k := by
  induction k with
  | zero => intro n; exact ⟨Nat.le_refl _, Nat.le_refl _⟩
  | succ k ih =>
    intro n
    by_cases h : n ≠ 0 ∧ n % 2 = 0
    · rw [halve_yes h.1 h.2]
      have := ih (n / 2)
      exact ⟨by omega, by omega⟩
    · rw [halve_no (by omega)]; exact ⟨Nat.le_refl _, Nat.le_refl _⟩
theorem halve_eq (k : Nat) : ∀ n, (halve k n).1 * 2 ^ k = n * 2 ^ (halve k n).2 := by
  induction k with
  | zero => intro n; rfl
  | succ k ih =>
    intro n
    by_cases h : n ≠ 0 ∧ n % 2 = 0
    · rw [halve_yes h.1 h.2, Nat.pow_succ, ← Nat.mul_assoc, ih (n / 2), Nat.mul_right_comm, show n / 2 * 2 = n by omega]
    · rw [halve_no (by omega)]
def dv (r : Dc.Res) : Value := .agg #[.bool r.n, .string ⟨r.l.toArray⟩, .int .i64 r.x]
def of (s : Bool) (n : Nat) (e : Int) : Dc.Res :=
  if 0 ≤ e then Dc.mk s (Lib.decDigits (n * 2 ^ e.toNat)) 0 else Dc.mk s (Lib.decDigits ((halve (-e).toNat n).1 * 5 ^ (halve (-e).toNat n).2)) (-((halve (-e).toNat n).2 : Int))
def okd (r : Dc.Res) : Dc.Res := ⟨r.n, r.l, r.x, 0⟩
def dec (x : Nat) : Dc.Res := if 3 ≤ kind x then ⟨false, [], 0, 11⟩ else okd (of (neg x) (mant x) (expn x))
def sig (x : Nat) (k way : Int) : Dc.Res := if 3 ≤ kind x then ⟨false, [], 0, 11⟩ else Dc.sig (dec x).n (dec x).l (dec x).x k way
def place (x : Nat) (k way : Int) : Dc.Res := if 3 ≤ kind x then ⟨false, [], 0, 11⟩ else Dc.place (dec x).n (dec x).l (dec x).x k way
theorem pow_le_B (a k : Nat) (ha : a ≤ 8) (hk : k ≤ 1200) : a ^ k ≤ Na.B ^ 120 := by
  have h1 : a ^ k ≤ (2 ^ 3) ^ k := Nat.pow_le_pow_left (by omega) _
  rw [← Nat.pow_mul] at h1
  obtain ⟨c, hc⟩ : ∃ c, c = 120 := ⟨_, rfl⟩
  have h2 : (2 : Nat) ^ (3 * k) ≤ 2 ^ (32 * c) := Nat.pow_le_pow_right (by decide) (by omega)
  rw [Nat.pow_mul 2 32 c, hc] at h2
  exact Nat.le_trans h1 h2
theorem mul_pow_lt (n a k : Nat) (hn : n < Na.B ^ 2) (ha : a ≤ 8) (hk : k ≤ 1200) : n * a ^ k < Na.B ^ 122 := by
  have h1 := pow_le_B a k ha hk
  have h2 : 0 < Na.B ^ 120 := Nat.pow_pos (by decide)
  calc n * a ^ k ≤ n * Na.B ^ 120 := Nat.mul_le_mul_left _ h1
    _ < Na.B ^ 2 * Na.B ^ 120 := Nat.mul_lt_mul_of_pos_right hn h2
    _ = Na.B ^ 122 := by rw [← Nat.pow_add]
theorem len_mul_pow (n a k : Nat) (hn : n < Na.B ^ 2) (ha : a ≤ 8) (hk : k ≤ 1200) : (Na.limbs (n * a ^ k)).length ≤ 122 := Na.limbs_len_le _ _ (mul_pow_lt n a k hn ha hk)
end Go.Proofs.YtiglekomfgfilaaGreatDoor.Fl

/- Plain Lean: a number's digits are read as the number. -/
namespace Go.Proofs.YtiglekomfgfilaaGreatDoor.Na
set_option linter.all false
open Go
theorem dig_byte (r : Nat) (h : r < 10) : isD (UInt8.ofNat (48 + r)) = true ∧ (UInt8.ofNat (48 + r)).toNat - 48 = r ∧ (r ≠ 0 → UInt8.ofNat (48 + r) ≠ 48) := by
  have e : (UInt8.ofNat (48 + r)).toNat = 48 + r := by rw [UInt8.toNat_ofNat']; exact Nat.mod_eq_of_lt (by omega)
  refine ⟨by simp only [isD, e, Bool.and_eq_true, decide_eq_true_eq]; omega, by rw [e]; omega, fun h0 e2 => ?_⟩
  have := congrArg UInt8.toNat e2
  rw [e] at this
  have h48 : (48 : UInt8).toNat = 48 := rfl
  omega
theorem num_snoc (t : List UInt8) (c : UInt8) : num (t ++ [c]) = 10 * num t + (c.toNat - 48) := by rw [num, List.foldl_append]; rfl
theorem dec_spec (n : Nat) : (Lib.decDigits n).all isD = true ∧ num (Lib.decDigits n) = n ∧ 0 < (Lib.decDigits n).length ∧ (n ≠ 0 → (Lib.decDigits n)[0]? ≠ some 48) ∧ (n = 0 → (Lib.decDigits n).length = 1) := by
  induction n using Nat.strongRecOn with
  | _ n ih =>
    by_cases h : n < 10
    · rw [Lib.decDigits, dif_pos h]
      obtain ⟨h1, h2, h3⟩ := dig_byte n h
      obtain ⟨c, hc⟩ : ∃ c, c = UInt8.ofNat (48 + n) := ⟨_, rfl⟩
      rw [← hc] at h1 h2 h3 ⊢
      refine ⟨by simp [h1], by simp [num, h2], by simp, fun h0 e => h3 h0 ?_, fun _ => rfl⟩
      simpa using e
    · obtain ⟨i1, i2, i3, i4, _⟩ := ih (n / 10) (by omega)
      obtain ⟨h1, h2, _⟩ := dig_byte (n % 10) (by omega)
      rw [Lib.decDigits, dif_neg h]
      obtain ⟨c, hc⟩ : ∃ c, c = UInt8.ofNat (48 + n % 10) := ⟨_, rfl⟩
      rw [← hc] at h1 h2 ⊢
      refine ⟨by rw [List.all_append, i1]; simp [h1], by rw [num_snoc, i2, h2]; omega, by simp, fun _ => ?_, fun h0 => by omega⟩
      rw [List.getElem?_append_left i3]
      exact i4 (by omega)
theorem bitLen_half {y : Nat} (h : y ≠ 0) : bitLen y = bitLen (y / 2) + 1 := by
  rw [bitLen, if_neg h, bitLen]
  by_cases h1 : y / 2 = 0
  · have : y = 1 := by omega
    subst this; rfl
  · rw [if_neg h1, Nat.log2_def y, if_pos (by omega)]
theorem bitLen_pos' {y : Nat} (h : y ≠ 0) : 0 < bitLen y := by rw [bitLen, if_neg h]; exact Nat.succ_pos _
theorem bitLen_le' {n k : Nat} (h : n < 2 ^ k) : bitLen n ≤ k := by
  by_cases h0 : n = 0
  · subst h0; exact Nat.zero_le _
  · rw [bitLen, if_neg h0]
    exact (Nat.log2_lt h0).2 h
theorem val_drop_at (q : List Nat) (m : Nat) (h : m < q.length) : val (q.drop m) = q[m] + B * val (q.drop (m + 1)) := by
  rw [List.drop_eq_getElem_cons h]; rfl
end Go.Proofs.YtiglekomfgfilaaGreatDoor.Na

/- Plain Lean: the binary64 that is nearest: the values of the bits, in units of 2 to the power of -1074, and the rounding of n times 2^e. -/
namespace Go.Proofs.YtiglekomfgfilaaGreatDoor.Fl
set_option linter.all false
open Go
def low : Nat := 1074
def V (b : Nat) : Nat := (if b / 4503599627370496 = 0 then b % 4503599627370496 else 4503599627370496 + b % 4503599627370496) * 2 ^ (b / 4503599627370496 - 1)
theorem V_zero : V 0 = 0 := rfl
theorem V_form (j m : Nat) (h : j = 0 ∧ m ≤ 2 * 4503599627370496 ∨ 4503599627370496 ≤ m ∧ m ≤ 2 * 4503599627370496) : V (j * 4503599627370496 + m) = m * 2 ^ j := by
  by_cases h1 : m < 4503599627370496
  · have hj : j = 0 := by omega
    subst hj
    rw [V, Nat.zero_mul, Nat.zero_add, Nat.div_eq_of_lt h1, if_pos rfl, Nat.mod_eq_of_lt h1]
  · by_cases h2 : m = 2 * 4503599627370496
    · have e1 : (j * 4503599627370496 + m) / 4503599627370496 = j + 2 := by rw [h2, ← Nat.add_mul]; exact Nat.mul_div_cancel _ (by decide)
      have e2 : (j * 4503599627370496 + m) % 4503599627370496 = 0 := by rw [h2, ← Nat.add_mul]; exact Nat.mul_mod_left _ _
      rw [V, e1, e2, if_neg (by omega), h2, show j + 2 - 1 = j + 1 by omega, Nat.pow_succ, Nat.add_zero, Nat.mul_comm (2 ^ j) 2, ← Nat.mul_assoc, Nat.mul_comm 4503599627370496 2]
    · have e1 : (j * 4503599627370496 + m) / 4503599627370496 = j + 1 := by
        rw [Nat.mul_comm, Nat.mul_add_div (by decide)]
        congr 1
        exact Nat.div_eq_of_lt_le (by omega) (by omega)
      have e2 : (j * 4503599627370496 + m) % 4503599627370496 = m - 4503599627370496 := by
        rw [Nat.mul_comm, Nat.mul_add_mod, Nat.mod_eq_sub_mod (by omega), Nat.mod_eq_of_lt (by omega)]
      rw [V, e1, e2, if_neg (by omega), show 4503599627370496 + (m - 4503599627370496) = m by omega, Nat.add_sub_cancel]
theorem V_split (b : Nat) : ∃ j m, b = j * 4503599627370496 + m ∧ (j = 0 ∧ m < 4503599627370496 ∨ 4503599627370496 ≤ m ∧ m < 2 * 4503599627370496) ∧ V b = m * 2 ^ j ∧ V (b + 1) = (m + 1) * 2 ^ j ∧ j = b / 4503599627370496 - 1 := by
  have h := Nat.div_add_mod b 4503599627370496
  have hm := Nat.mod_lt b (show 0 < 4503599627370496 by decide)
  by_cases h0 : b / 4503599627370496 = 0
  · rw [h0, Nat.mul_zero, Nat.zero_add] at h
    refine ⟨0, b, by omega, Or.inl ⟨rfl, by omega⟩, ?_, ?_, by omega⟩
    · have := V_form 0 b (Or.inl ⟨rfl, by omega⟩); rwa [Nat.zero_mul, Nat.zero_add] at this
    · have := V_form 0 (b + 1) (Or.inl ⟨rfl, by omega⟩); rwa [Nat.zero_mul, Nat.zero_add] at this
  · obtain ⟨j, hj⟩ : ∃ j, b / 4503599627370496 = j + 1 := ⟨b / 4503599627370496 - 1, by omega⟩
    rw [hj, Nat.mul_add, Nat.mul_one] at h
    have hb : b = j * 4503599627370496 + (4503599627370496 + b % 4503599627370496) := by rw [Nat.mul_comm j]; omega
    refine ⟨j, 4503599627370496 + b % 4503599627370496, hb, Or.inr ⟨by omega, by omega⟩, ?_, ?_, by omega⟩
    · have := V_form j (4503599627370496 + b % 4503599627370496) (Or.inr ⟨by omega, by omega⟩); rwa [← hb] at this
    · have := V_form j (4503599627370496 + b % 4503599627370496 + 1) (Or.inr ⟨by omega, by omega⟩); rwa [← Nat.add_assoc, ← hb] at this
theorem V_succ (b : Nat) : V b < V (b + 1) := by
  obtain ⟨j, m, _, _, h1, h2, _⟩ := V_split b
  rw [h1, h2]
  exact Nat.mul_lt_mul_of_pos_right (by omega) (Nat.pow_pos (by decide))
theorem V_lt {a b : Nat} (h : a < b) : V a < V b := by
  induction b with
  | zero => omega
  | succ b ih =>
    by_cases e : a = b
    · subst e; exact V_succ a
    · exact Nat.lt_trans (ih (by omega)) (V_succ b)
theorem V_le {a b : Nat} (h : a ≤ b) : V a ≤ V b := by
  rcases Nat.eq_or_lt_of_le h with e | e
  · rw [e]; exact Nat.le_refl _
  · exact Nat.le_of_lt (V_lt e)
def Near (X D b : Nat) : Prop := b ≤ 9218868437227405312 ∧ (b = 0 ∨ (V (b - 1) + V b) * D < 2 * X ∨ (V (b - 1) + V b) * D = 2 * X ∧ b % 2 = 0) ∧ (b = 9218868437227405312 ∨ 2 * X < (V b + V (b + 1)) * D ∨ 2 * X = (V b + V (b + 1)) * D ∧ b % 2 = 0)
theorem near_lt {X D X' D' b b' : Nat} (hD : 0 < D) (hD' : 0 < D') (h : Near X D b) (h' : Near X' D' b') (hlt : b < b') : X * D' < X' * D ∨ X * D' = X' * D ∧ b + 1 = b' ∧ b % 2 = 0 ∧ b' % 2 = 0 := by
  obtain ⟨h1, -, h3⟩ := h
  obtain ⟨h1', h2', -⟩ := h'
  have hb : b ≠ 9218868437227405312 := by omega
  have hb' : b' ≠ 0 := by omega
  have hm : V b + V (b + 1) ≤ V (b' - 1) + V b' := Nat.add_le_add (V_le (by omega)) (V_le (by omega))
  have e1 : 2 * (X * D') ≤ (V b + V (b + 1)) * D * D' := by rw [← Nat.mul_assoc]; exact Nat.mul_le_mul_right _ (by rcases h3 with h | h | h <;> omega)
  have e2 : (V (b' - 1) + V b') * D' * D ≤ 2 * (X' * D) := by rw [← Nat.mul_assoc]; exact Nat.mul_le_mul_right _ (by rcases h2' with h | h | h <;> omega)
  have e3 : (V b + V (b + 1)) * D * D' ≤ (V (b' - 1) + V b') * D' * D := by
    rw [Nat.mul_right_comm (V (b' - 1) + V b'), Nat.mul_assoc, Nat.mul_assoc]; exact Nat.mul_le_mul_right _ hm
  by_cases hlt2 : X * D' < X' * D
  · exact Or.inl hlt2
  · right
    have heq : X * D' = X' * D := by omega
    have e1' : 2 * (X * D') = (V b + V (b + 1)) * D * D' := by omega
    have e2' : (V (b' - 1) + V b') * D' * D = 2 * (X' * D) := by omega
    have hDD : 0 < D * D' := Nat.mul_pos hD hD'
    have hmm : V b + V (b + 1) = V (b' - 1) + V b' := by
      have : (V b + V (b + 1)) * (D * D') = (V (b' - 1) + V b') * (D * D') := by
        rw [← Nat.mul_assoc, ← Nat.mul_assoc, Nat.mul_right_comm (V (b' - 1) + V b')]; omega
      exact Nat.eq_of_mul_eq_mul_right hDD this
    have hbb : b + 1 = b' := by
      rcases Nat.lt_or_ge (b + 1) b' with h | h
      · have k1 : V b < V (b' - 1) := V_lt (by omega)
        have k2 : V (b + 1) < V b' := V_lt h
        omega
      · omega
    refine ⟨heq, hbb, ?_, ?_⟩
    · rcases h3 with h | h | h
      · omega
      · exfalso
        have := Nat.mul_lt_mul_of_pos_right h hD'
        rw [Nat.mul_assoc] at this; omega
      · exact h.2
    · rcases h2' with h | h | h
      · omega
      · exfalso
        have := Nat.mul_lt_mul_of_pos_right h hD
        rw [Nat.mul_assoc 2] at this; omega
      · exact h.2
theorem near_eq {X D X' D' b b' : Nat} (hD : 0 < D) (hD' : 0 < D') (he : X * D' = X' * D) (h : Near X D b) (h' : Near X' D' b') : b = b' := by
  rcases Nat.lt_trichotomy b b' with e | e | e
  · rcases near_lt hD hD' h h' e with k | k <;> omega
  · exact e
  · rcases near_lt hD' hD h' h e with k | k <;> omega
theorem near_mono {X D X' D' b b' : Nat} (hD : 0 < D) (hD' : 0 < D') (he : X * D' ≤ X' * D) (h : Near X D b) (h' : Near X' D' b') : b ≤ b' := by
  rcases Nat.lt_or_ge b' b with e | e
  · rcases near_lt hD' hD h' h e with k | k <;> omega
  · exact e
theorem near_self {b D : Nat} (hb : b ≤ 9218868437227405312) (hD : 0 < D) : Near (V b * D) D b := by
  refine ⟨hb, ?_, Or.inr (Or.inl ?_)⟩
  · by_cases h : b = 0
    · exact Or.inl h
    · right; left
      have := Nat.mul_lt_mul_of_pos_right (V_lt (show b - 1 < b by omega)) hD
      rw [Nat.add_mul]; omega
  · have := Nat.mul_lt_mul_of_pos_right (V_succ b) hD
    rw [Nat.add_mul]; omega
theorem near_of {X D b : Nat} (hD : 0 < D) (h1 : V b * D ≤ X) (h2 : X < V (b + 1) * D) (up : Bool) (hup : up = decide ((V b + V (b + 1)) * D < 2 * X ∨ (V b + V (b + 1)) * D = 2 * X ∧ b % 2 = 1)) : Near X D (min (b + up.toNat) 9218868437227405312) := by
  by_cases hb : 9218868437227405312 ≤ b
  · rw [Nat.min_eq_right (by omega)]
    refine ⟨Nat.le_refl _, Or.inr (Or.inl ?_), Or.inl rfl⟩
    have k1 : V (9218868437227405312 - 1) < V 9218868437227405312 := V_lt (by decide)
    have k2 : V 9218868437227405312 ≤ V b := V_le hb
    have := Nat.mul_lt_mul_of_pos_right (show V (9218868437227405312 - 1) + V 9218868437227405312 < 2 * V b by omega) hD
    rw [Nat.mul_assoc] at this; omega
  · rw [Nat.min_eq_left (by cases up <;> simp <;> omega)]
    cases up with
    | true =>
      have hup' := of_decide_eq_true hup.symm
      refine ⟨by simp; omega, Or.inr ?_, ?_⟩
      · show (V (b + 1 - 1) + V (b + 1)) * D < 2 * X ∨ _
        rw [Nat.add_sub_cancel]
        rcases hup' with h | h
        · exact Or.inl h
        · exact Or.inr ⟨h.1, by show (b + 1) % 2 = 0; omega⟩
      · by_cases e : b + 1 = 9218868437227405312
        · exact Or.inl e
        · right; left
          show 2 * X < (V (b + 1) + V (b + 1 + 1)) * D
          have := Nat.mul_lt_mul_of_pos_right (V_succ (b + 1)) hD
          rw [Nat.add_mul]; omega
    | false =>
      have hup' := of_decide_eq_false hup.symm
      refine ⟨by simp; omega, ?_, Or.inr ?_⟩
      · by_cases e : b = 0
        · exact Or.inl e
        · right; left
          show (V (b - 1) + V b) * D < 2 * X
          have := Nat.mul_lt_mul_of_pos_right (V_lt (show b - 1 < b by omega)) hD
          rw [Nat.add_mul]; omega
      · show 2 * X < (V b + V (b + 1)) * D ∨ 2 * X = (V b + V (b + 1)) * D ∧ b % 2 = 0
        rcases Nat.lt_trichotomy (2 * X) ((V b + V (b + 1)) * D) with e | e | e
        · exact Or.inl e
        · exact Or.inr ⟨e, by rcases Nat.mod_two_eq_zero_or_one b with k | k; exact k; exact absurd (Or.inr ⟨e.symm, k⟩) hup'⟩
        · exact absurd (Or.inl e) hup'
end Go.Proofs.YtiglekomfgfilaaGreatDoor.Fl

/- Plain Lean: n times 2^e (and perhaps a little more), rounded to the nearest binary64. -/
namespace Go.Proofs.YtiglekomfgfilaaGreatDoor.Fl
set_option linter.all false
open Go
def ulp (n : Nat) (e : Int) : Int := max (e + (Na.bitLen n : Int) - 53) (-1074)
def upw (n k : Nat) (more : Bool) : Bool := decide (n / 2 ^ (k - 1) % 2 = 1) && (decide (n % 2 ^ (k - 1) ≠ 0) || more || decide (n / 2 ^ k % 2 = 1))
def rdm (n : Nat) (k : Int) (more : Bool) : Nat := if k ≤ 0 then n * 2 ^ (-k).toNat else n / 2 ^ k.toNat + (upw n k.toNat more).toNat
def rd (n : Nat) (e : Int) (more : Bool) : Nat := if n = 0 then 0 else min ((ulp n e + 1074).toNat * 4503599627370496 + rdm n (ulp n e - e) more) 9218868437227405312
theorem bitLen_ge {n : Nat} (h : n ≠ 0) : 2 ^ (Na.bitLen n - 1) ≤ n ∧ n < 2 ^ Na.bitLen n ∧ 0 < Na.bitLen n := by
  rw [Na.bitLen, if_neg h]
  exact ⟨by rw [Nat.add_sub_cancel]; exact Nat.log2_self_le h, Nat.lt_log2_self, Nat.succ_pos _⟩
theorem cancel_le {a b c : Nat} (hc : 0 < c) (h : a * c ≤ b * c) : a ≤ b := Nat.le_of_mul_le_mul_right h hc
theorem cancel_lt {a b c : Nat} (h : a * c < b * c) : a < b := Nat.lt_of_mul_lt_mul_right h
theorem mid_cmp {M n W Y : Nat} {more : Bool} (hW : 0 < W) (h0 : more = false → Y = n * W) (h1 : more = true → n * W < Y ∧ Y < (n + 1) * W) :
    (M * W < Y ↔ (if more then M ≤ n else M < n)) ∧ (M * W = Y ↔ more = false ∧ M = n) := by
  cases more with
  | false =>
    have e := h0 rfl
    subst e
    refine ⟨?_, ?_⟩
    · show M * W < n * W ↔ M < n
      exact ⟨fun h => Nat.lt_of_mul_lt_mul_right h, fun h => Nat.mul_lt_mul_of_pos_right h hW⟩
    · exact ⟨fun h => ⟨rfl, Nat.eq_of_mul_eq_mul_right hW h⟩, fun h => by rw [h.2]⟩
  | true =>
    obtain ⟨e1, e2⟩ := h1 rfl
    refine ⟨?_, ?_⟩
    · show M * W < Y ↔ M ≤ n
      constructor
      · intro h
        have := Nat.lt_of_mul_lt_mul_right (Nat.lt_trans h e2)
        omega
      · intro h
        exact Nat.lt_of_le_of_lt (Nat.mul_le_mul_right W h) e1
    · constructor
      · intro h
        exfalso
        rw [← h] at e1 e2
        have k1 := Nat.lt_of_mul_lt_mul_right e1
        have k2 := Nat.lt_of_mul_lt_mul_right e2
        omega
      · rintro ⟨h, _⟩; cases h
theorem upw_spec (n k m0 M : Nat) (more : Bool) (hk : 0 < k) (hm : m0 = n / 2 ^ k) (hM : M = (2 * m0 + 1) * 2 ^ (k - 1)) :
    upw n k more = decide ((if more then M ≤ n else M < n) ∨ (more = false ∧ M = n) ∧ m0 % 2 = 1) := by
  obtain ⟨c, rfl⟩ : ∃ c, k = c + 1 := ⟨k - 1, by omega⟩
  rw [Nat.add_sub_cancel] at hM
  unfold upw
  rw [Nat.add_sub_cancel, ← hm]
  have hp : 0 < 2 ^ c := Nat.pow_pos (by decide)
  have hm' : m0 = n / 2 ^ c / 2 := by rw [hm, Nat.pow_succ, Nat.div_div_eq_div_mul]
  have h1 := Nat.div_add_mod n (2 ^ c)
  have h2 := Nat.div_add_mod (n / 2 ^ c) 2
  have h3 := Nat.mod_lt n hp
  obtain ⟨t, ht⟩ : ∃ t, t = n / 2 ^ c := ⟨_, rfl⟩
  obtain ⟨r, hr⟩ : ∃ t, t = n % 2 ^ c := ⟨_, rfl⟩
  rw [← ht] at hm' h1 h2
  rw [← hr] at h1 h3
  rw [← ht, ← hr]
  by_cases hb : t % 2 = 1
  · have ht2 : t = 2 * m0 + 1 := by omega
    have hMn : M + r = n := by rw [hM, ← ht2, Nat.mul_comm]; exact h1
    rw [decide_eq_true hb, Bool.true_and]
    cases more with
    | true => simp; omega
    | false =>
      rw [Bool.or_false]
      by_cases hr0 : r = 0
      · have e1 : ¬ M < n := by omega
        have e2 : M = n := by omega
        simp [hr0, e1, e2]
      · have e1 : M < n := by omega
        simp [hr0, e1]
  · have ht2 : t = 2 * m0 := by omega
    have hMn : n < M := by
      rw [hM, Nat.add_mul, Nat.one_mul, ← ht2, Nat.mul_comm t]
      omega
    rw [decide_eq_false hb, Bool.false_and]
    symm
    apply decide_eq_false
    rintro (h | h)
    · cases more <;> simp at h <;> omega
    · omega
theorem rd_near {n : Nat} {e : Int} {more : Bool} {X D p q : Nat} (hD : 0 < D) (hpq : (p : Int) - q = e + 1074) (hmore : more = true → 54 ≤ Na.bitLen n)
    (h0 : more = false → X * 2 ^ q = n * 2 ^ p * D) (h1 : more = true → n * 2 ^ p * D < X * 2 ^ q ∧ X * 2 ^ q < (n + 1) * 2 ^ p * D) : Near X D (rd n e more) := by
  by_cases hn : n = 0
  · subst hn
    have hm : more = false := by
      cases more with
      | false => rfl
      | true => have := hmore rfl; simp [Na.bitLen] at this
    have hx := h0 hm
    rw [Nat.zero_mul, Nat.zero_mul] at hx
    have hX : X = 0 := (Nat.mul_eq_zero.1 hx).resolve_right (Nat.ne_of_gt (Nat.pow_pos (by decide)))
    rw [rd, if_pos rfl, hX]
    have := near_self (b := 0) (Nat.zero_le _) hD
    rwa [V_zero, Nat.zero_mul] at this
  · rw [rd, if_neg hn]
    obtain ⟨b1, b2, b3⟩ := bitLen_ge hn
    obtain ⟨L, hL⟩ : ∃ L, L = Na.bitLen n := ⟨_, rfl⟩
    rw [← hL] at b1 b2 b3 hmore
    obtain ⟨u, hu⟩ : ∃ u, u = ulp n e := ⟨_, rfl⟩
    have hu2 : u = max (e + (L : Int) - 53) (-1074) := by rw [hu, ulp, hL]
    rw [← hu]
    obtain ⟨j, hj⟩ : ∃ j : Nat, j = (u + 1074).toNat := ⟨_, rfl⟩
    rw [← hj]
    have hju : (j : Int) = u + 1074 := by omega
    have hq0 : 0 < 2 ^ q := Nat.pow_pos (by decide)
    have hp0 : 0 < 2 ^ p := Nat.pow_pos (by decide)
    have hW : 0 < 2 ^ p * D := Nat.mul_pos hp0 hD
    by_cases hk : u - e ≤ 0
    · have hm : more = false := by
        cases more with
        | false => rfl
        | true => have := hmore rfl; omega
      have hx := h0 hm
      obtain ⟨t, ht⟩ : ∃ t : Nat, t = (-(u - e)).toNat := ⟨_, rfl⟩
      rw [rdm, if_pos hk, ← ht]
      have hv : V (j * 4503599627370496 + n * 2 ^ t) = n * 2 ^ t * 2 ^ j := V_form _ _ (by
        have hlt : n * 2 ^ t < 2 ^ 53 := by
          have : n * 2 ^ t < 2 ^ L * 2 ^ t := Nat.mul_lt_mul_of_pos_right b2 (Nat.pow_pos (by decide))
          rw [← Nat.pow_add] at this
          exact Nat.lt_of_lt_of_le this (Nat.pow_le_pow_right (by decide) (by omega))
        by_cases hj0 : j = 0
        · exact Or.inl ⟨hj0, by omega⟩
        · right
          have hge : 2 ^ 52 ≤ n * 2 ^ t := by
            have : 2 ^ (L - 1) * 2 ^ t ≤ n * 2 ^ t := Nat.mul_le_mul_right _ b1
            rw [← Nat.pow_add] at this
            exact Nat.le_trans (Nat.pow_le_pow_right (by decide) (by omega)) this
          omega)
      obtain ⟨b, hb⟩ : ∃ b, b = j * 4503599627370496 + n * 2 ^ t := ⟨_, rfl⟩
      rw [← hb] at hv ⊢
      have hX : X = V b * D := by
        refine Nat.eq_of_mul_eq_mul_right hq0 ?_
        rw [hx, hv, Nat.mul_right_comm (n * 2 ^ t * 2 ^ j) D, Nat.mul_assoc n (2 ^ t), ← Nat.pow_add, Nat.mul_assoc n (2 ^ (t + j)), ← Nat.pow_add, show t + j + q = p by omega]
      have hs := V_succ b
      have hlt : V b * D < V (b + 1) * D := Nat.mul_lt_mul_of_pos_right hs hD
      have := near_of (X := X) hD (b := b) (by rw [hX]; exact Nat.le_refl _) (by rw [hX]; exact hlt) false (by
        symm; apply decide_eq_false
        rw [hX, Nat.add_mul]
        rintro (h | h)
        · omega
        · omega)
      exact this
    · obtain ⟨k, hk2⟩ : ∃ k : Nat, k = (u - e).toNat := ⟨_, rfl⟩
      rw [rdm, if_neg hk, ← hk2]
      have hk0 : 0 < k := by omega
      obtain ⟨m0, hm0⟩ : ∃ m, m = n / 2 ^ k := ⟨_, rfl⟩
      rw [← hm0]
      have hkp : 0 < 2 ^ k := Nat.pow_pos (by decide)
      have hform : j = 0 ∧ m0 < 4503599627370496 * 2 ∨ 4503599627370496 ≤ m0 ∧ m0 < 4503599627370496 * 2 := by
        have hlt : m0 < 2 ^ 53 := by
          rw [hm0, Nat.div_lt_iff_lt_mul hkp, ← Nat.pow_add]
          exact Nat.lt_of_lt_of_le b2 (Nat.pow_le_pow_right (by decide) (by omega))
        by_cases hj0 : j = 0
        · exact Or.inl ⟨hj0, by omega⟩
        · right
          have hge : 2 ^ 52 ≤ m0 := by
            rw [hm0, Nat.le_div_iff_mul_le hkp, ← Nat.pow_add]
            exact Nat.le_trans (Nat.pow_le_pow_right (by decide) (by omega)) b1
          omega
      have hv : V (j * 4503599627370496 + m0) = m0 * 2 ^ j := V_form _ _ (by omega)
      have hv1 : V (j * 4503599627370496 + m0 + 1) = (m0 + 1) * 2 ^ j := by rw [Nat.add_assoc]; exact V_form _ _ (by omega)
      have hjq : 2 ^ j * 2 ^ q = 2 ^ k * 2 ^ p := by rw [← Nat.pow_add, ← Nat.pow_add]; congr 1; omega
      obtain ⟨b, hb⟩ : ∃ b, b = j * 4503599627370496 + m0 := ⟨_, rfl⟩
      have hbo : b % 2 = m0 % 2 := by rw [hb]; omega
      rw [← hb] at hv hv1
      rw [← Nat.add_assoc, ← hb]
      have hle : m0 * 2 ^ k ≤ n := by rw [hm0]; exact Nat.div_mul_le_self _ _
      have hgt : n + 1 ≤ (m0 + 1) * 2 ^ k := by
        have := Nat.lt_div_mul_add (a := n) hkp
        rw [← hm0] at this
        rw [Nat.add_mul, Nat.one_mul]; omega
      have hY0 : n * (2 ^ p * D) ≤ X * 2 ^ q := by
        cases more with
        | false => rw [h0 rfl, Nat.mul_assoc]; exact Nat.le_refl _
        | true => have := (h1 rfl).1; rw [Nat.mul_assoc] at this; omega
      have hY1 : X * 2 ^ q < (n + 1) * (2 ^ p * D) := by
        cases more with
        | false => rw [h0 rfl, Nat.mul_assoc]; exact Nat.mul_lt_mul_of_pos_right (by omega) hW
        | true => have := (h1 rfl).2; rw [Nat.mul_assoc (n + 1)] at this; exact this
      have sc : ∀ z : Nat, z * 2 ^ j * D * 2 ^ q = z * 2 ^ k * (2 ^ p * D) := fun z => by
        rw [Nat.mul_right_comm _ D, Nat.mul_assoc z, hjq, ← Nat.mul_assoc, Nat.mul_assoc (z * 2 ^ k)]
      refine near_of hD ?_ ?_ _ ?_
      · rw [hv]
        refine cancel_le hq0 ?_
        rw [sc]
        exact Nat.le_trans (Nat.mul_le_mul_right _ hle) hY0
      · rw [hv1]
        refine cancel_lt (c := 2 ^ q) ?_
        rw [sc]
        exact Nat.lt_of_lt_of_le hY1 (Nat.mul_le_mul_right _ hgt)
      · obtain ⟨M, hM⟩ : ∃ M, M = (2 * m0 + 1) * 2 ^ (k - 1) := ⟨_, rfl⟩
        rw [upw_spec n k m0 M more hk0 hm0 hM]
        have hmid := mid_cmp (M := M) (n := n) (W := 2 ^ p * D) (Y := X * 2 ^ q) (more := more) hW (fun h => by rw [h0 h, Nat.mul_assoc]) (fun h => by
          have := h1 h; rwa [Nat.mul_assoc, Nat.mul_assoc] at this)
        have hVM : (V b + V (b + 1)) * D * 2 ^ q = 2 * (M * (2 ^ p * D)) := by
          rw [hv, hv1, ← Nat.add_mul, sc, hM, show m0 + (m0 + 1) = 2 * m0 + 1 by omega]
          rw [← Nat.mul_assoc 2, Nat.mul_comm 2 ((2 * m0 + 1) * 2 ^ (k - 1)), Nat.mul_assoc (2 * m0 + 1) (2 ^ (k - 1)), show 2 ^ (k - 1) * 2 = 2 ^ k by rw [← Nat.pow_succ]; congr 1; omega]
        apply decide_eq_decide.2
        rw [← hmid.1, ← hmid.2, ← hbo]
        have c1 : M * (2 ^ p * D) < X * 2 ^ q ↔ (V b + V (b + 1)) * D < 2 * X := by
          constructor
          · intro h
            refine cancel_lt (c := 2 ^ q) ?_
            rw [hVM, Nat.mul_assoc]; omega
          · intro h
            have := Nat.mul_lt_mul_of_pos_right h hq0
            rw [hVM, Nat.mul_assoc] at this; omega
        have c2 : M * (2 ^ p * D) = X * 2 ^ q ↔ (V b + V (b + 1)) * D = 2 * X := by
          constructor
          · intro h
            refine Nat.eq_of_mul_eq_mul_right hq0 ?_
            rw [hVM, Nat.mul_assoc, h]
          · intro h
            have := congrArg (· * 2 ^ q) h
            simp only [hVM, Nat.mul_assoc] at this
            rw [Nat.mul_assoc] at hVM
            omega
        rw [c1, c2]
end Go.Proofs.YtiglekomfgfilaaGreatDoor.Fl
