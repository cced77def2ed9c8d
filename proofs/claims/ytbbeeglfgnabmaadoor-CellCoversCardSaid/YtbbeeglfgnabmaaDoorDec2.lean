/- Plain Lean: what is made of digits. -/
import Derived.Test.YtbbeeglfgnabmaaDoorDec
import Derived.Lib.TrimByte
import Derived.Lib.SlTrimSet
namespace Go.Proofs.YtbbeeglfgnabmaaDoor.Dc
set_option linter.all false

/-- What a decimal's call returns: a decimal, and an error's number. -/
structure Res where
  n : Bool
  l : Bs
  x : Int
  e : Int

def Res.val (r : Res) : Value := .tuple #[.agg #[.bool r.n, .string ⟨r.l.toArray⟩, .int .i64 r.x], .int .i64 r.e]

def lead (l : Bs) : Bs := Lib.trimLeftB l 48
def core (l : Bs) : Bs := Lib.trimRightB (lead l) 48
def tz (l : Bs) : Nat := (lead l).length - (core l).length

def mk (n : Bool) (l : Bs) (x : Int) : Res :=
  if allDig l = true then
    if core l = [] then ⟨n, [], 0, 0⟩
    else if right (core l) (x + tz l) = true then ⟨n, core l, x + tz l, 0⟩
    else ⟨false, [], 0, 2⟩
  else ⟨false, [], 0, 3⟩

theorem mk_bad {n : Bool} {l : Bs} {x : Int} (h : ¬ allDig l = true) : mk n l x = ⟨false, [], 0, 3⟩ := by rw [mk, if_neg h]
theorem mk_zero {n : Bool} {l : Bs} {x : Int} (h : allDig l = true) (h1 : core l = []) : mk n l x = ⟨n, [], 0, 0⟩ := by rw [mk, if_pos h, if_pos h1]
theorem mk_ok {n : Bool} {l : Bs} {x : Int} (h : allDig l = true) (h1 : core l ≠ []) (h2 : right (core l) (x + tz l) = true) : mk n l x = ⟨n, core l, x + tz l, 0⟩ := by rw [mk, if_pos h, if_neg h1, if_pos h2]
theorem mk_over {n : Bool} {l : Bs} {x : Int} (h : allDig l = true) (h1 : core l ≠ []) (h2 : ¬ right (core l) (x + tz l) = true) : mk n l x = ⟨false, [], 0, 2⟩ := by rw [mk, if_pos h, if_neg h1, if_neg h2]

theorem dropWhile_all (a r : Bs) (h : ∀ c ∈ a, c = 48) : (a ++ r).dropWhile (· == 48) = r.dropWhile (· == 48) :=
  List.dropWhile_append_of_pos (fun c hc => by simp [h c hc])
theorem dropWhile_head (b : Bs) (h : ∀ c, b[0]? = some c → c ≠ 48) : b.dropWhile (· == 48) = b := by
  cases b with
  | nil => rfl
  | cons c b => rw [List.dropWhile_cons_of_neg]; simpa using h c rfl

theorem core_def (l : Bs) : Lib.trimRightB (lead l) 48 = core l := rfl
theorem tz_int (l : Bs) : (tz l : Int) = (lead l).length - (core l).length := by
  have : (core l).length ≤ (lead l).length := by
    rw [core, Lib.trimRightB, List.length_reverse]
    have := (List.dropWhile_sublist (· == 48) (l := (lead l).reverse)).length_le
    simpa using this
  unfold tz; omega

theorem core_split (l a b z : Bs) (hl : l = a ++ (b ++ z)) (ha : ∀ c ∈ a, c = 48) (hz : ∀ c ∈ z, c = 48) (hb : b ≠ []) (h1 : ∀ c, b[0]? = some c → c ≠ 48) (h2 : ∀ c, b[b.length - 1]? = some c → c ≠ 48) :
    lead l = b ++ z ∧ core l = b := by
  have e1 : lead l = b ++ z := by
    rw [lead, Lib.trimLeftB, hl, dropWhile_all _ _ ha]
    refine dropWhile_head _ fun c hc => h1 c ?_
    have : 0 < b.length := List.length_pos_iff.2 hb
    rwa [List.getElem?_append_left this] at hc
  refine ⟨e1, ?_⟩
  rw [core, e1, Lib.trimRightB, List.reverse_append, dropWhile_all _ _ (fun c hc => hz c (by simpa using hc)), dropWhile_head, List.reverse_reverse]
  intro c hc
  refine h2 c ?_
  have : 0 < b.length := List.length_pos_iff.2 hb
  rwa [List.getElem?_reverse this] at hc

theorem core_zero (l : Bs) (h : ∀ c ∈ l, c = 48) : core l = [] := by
  have : lead l = [] := by
    rw [lead, Lib.trimLeftB]; have := dropWhile_all l [] h; simpa using this
  rw [core, this]; rfl

theorem lead_mem {l : Bs} {c : UInt8} (h : c ∈ lead l) : c ∈ l := by
  rw [lead, Lib.trimLeftB] at h
  exact (List.dropWhile_sublist _).mem h
theorem core_mem {l : Bs} {c : UInt8} (h : c ∈ core l) : c ∈ l := by
  rw [core, Lib.trimRightB, List.mem_reverse] at h
  have := (List.dropWhile_sublist _).mem h
  exact lead_mem (by simpa using this)
theorem core_len (l : Bs) : (core l).length ≤ (lead l).length := by
  rw [core, Lib.trimRightB, List.length_reverse]
  have := (List.dropWhile_sublist (· == 48) (l := (lead l).reverse)).length_le
  simpa using this
theorem lead_len (l : Bs) : (lead l).length ≤ l.length := by
  rw [lead, Lib.trimLeftB]
  exact (List.dropWhile_sublist _).length_le
theorem tz_le (l : Bs) : tz l ≤ l.length := by have := lead_len l; unfold tz; omega

/-- The last sign of the core is no nought, nor is the first. -/
theorem dropWhile_get0 (l : Bs) (c : UInt8) (h : (l.dropWhile (· == 48))[0]? = some c) : c ≠ 48 := by
  induction l with
  | nil => simp at h
  | cons a l ih =>
    by_cases ha : a = 48
    · rw [List.dropWhile_cons_of_pos (by simpa using ha)] at h; exact ih h
    · rw [List.dropWhile_cons_of_neg (by simpa using ha)] at h
      simp at h; rw [← h]; exact ha
theorem core_last (l : Bs) (c : UInt8) (h : (core l)[(core l).length - 1]? = some c) : c ≠ 48 := by
  rw [core, Lib.trimRightB] at h
  generalize hd : (lead l).reverse.dropWhile (· == 48) = d at h
  have hd0 := fun c => dropWhile_get0 (lead l).reverse c
  rw [hd] at hd0
  cases d with
  | nil => simp at h
  | cons a d =>
    rw [List.getElem?_reverse (by simp)] at h
    exact hd0 c (by simpa using h)
theorem lead_core (l : Bs) (h : core l ≠ []) : ∃ z, lead l = core l ++ z ∧ ∀ c ∈ z, c = 48 := by
  have hs := List.takeWhile_append_dropWhile (p := (· == 48)) (l := (lead l).reverse)
  refine ⟨((lead l).reverse.takeWhile (· == 48)).reverse, ?_, ?_⟩
  · rw [core, Lib.trimRightB, ← List.reverse_append, hs, List.reverse_reverse]
  · intro c hc
    rw [List.mem_reverse] at hc
    have := List.all_eq_true.1 (List.all_takeWhile (l := (lead l).reverse) (p := (· == 48))) c hc
    simpa using this
theorem core_first (l : Bs) (c : UInt8) (hne : core l ≠ []) (h : (core l)[0]? = some c) : c ≠ 48 := by
  obtain ⟨z, hz, _⟩ := lead_core l hne
  have h2 : (lead l)[0]? = some c := by
    rw [hz, List.getElem?_append_left (List.length_pos_iff.2 hne)]; exact h
  rw [lead, Lib.trimLeftB] at h2
  exact dropWhile_get0 _ _ h2
theorem core_dig {l : Bs} (h : allDig l = true) : allDig (core l) = true := by
  rw [allDig, List.all_eq_true] at *
  exact fun c hc => h c (core_mem hc)

/-- Rightness of a core: the bounds alone. -/
theorem right_core {l : Bs} (x : Int) (h : allDig l = true) (hne : core l ≠ []) : right (core l) x = true ↔ ((core l).length ≤ 1100 ∧ -100000 ≤ x ∧ x ≤ 100000) := by
  constructor
  · intro hr; exact ⟨right_len hr, right_exp hr⟩
  · rintro ⟨a, b, c⟩
    exact right_true _ _ (List.length_pos_iff.2 hne) a b c (core_dig h) (fun e => core_first l _ hne e rfl) (fun e => core_last l _ e rfl)

/-- Far off: not right, whatever noughts are cut off. -/
theorem far_not {l : Bs} {x : Int} (hl : l.length ≤ 1000000000) (hne : core l ≠ []) (h : x < -1099511627776 ∨ 1099511627776 ≤ x) : ¬ right (core l) (x + tz l) = true ∧ ¬ right (core l) x = true := by
  have h1 := tz_le l
  exact ⟨fun hr => by have := right_exp hr; omega, fun hr => by have := right_exp hr; omega⟩

/-- Is it a nought's sign? -/
def is0 (c : UInt8) : Bool := c == 48
theorem is0_mem {l : Bs} (h : l.all is0 = true) : ∀ c ∈ l, c = 48 := by
  intro c hc
  have := List.all_eq_true.1 h c hc
  simpa [is0] using this
theorem is0_iff (c : UInt8) : is0 c = true ↔ (c.toNat : Int) = 48 := by
  constructor
  · intro h; have : c = 48 := by simpa [is0] using h
    rw [this]; rfl
  · intro h; have : c = 48 := u8_of_int (by simpa using h)
    rw [this]; rfl

theorem cut_core_zero (l : Bs) (f : Nat) (h1 : (l.take f).all is0 = true) (h2 : (l.drop f).all is0 = true) : core l = [] := by
  refine core_zero l fun c hc => ?_
  rw [← List.take_append_drop f l] at hc
  rcases List.mem_append.1 hc with h | h
  · exact is0_mem h1 c h
  · exact is0_mem h2 c h

theorem cut_core (s : ByteArray) (f t : Nat) (hft : f < t) (hts : t ≤ s.size) (h1 : (s.data.toList.take f).all is0 = true) (h2 : (s.data.toList.drop t).all is0 = true)
    (h3 : ¬ (s[f].toNat : Int) = 48) (h4 : ¬ (s[t - 1].toNat : Int) = 48) : core s.data.toList = (s.extract f t).data.toList ∧ (tz s.data.toList : Int) = s.size - t := by
  have hl : s.data.toList.length = s.size := by simp
  have hb : (s.extract f t).data.toList = (s.data.toList.drop f).take (t - f) := Lib.extract_data s f t
  have hlen : ((s.data.toList.drop f).take (t - f)).length = t - f := by rw [List.length_take, List.length_drop, hl]; omega
  have hsp : s.data.toList = s.data.toList.take f ++ ((s.data.toList.drop f).take (t - f) ++ s.data.toList.drop t) := by
    have e1 := List.take_append_drop f s.data.toList
    have e2 := List.take_append_drop (t - f) (s.data.toList.drop f)
    rw [List.drop_drop, show f + (t - f) = t by omega] at e2
    rw [e2, e1]
  have hg : ∀ i, i < t - f → ((s.data.toList.drop f).take (t - f))[i]? = s.data.toList[f + i]? := fun i hi => by
    rw [List.getElem?_take_of_lt hi, List.getElem?_drop]
  obtain ⟨c1, c2⟩ := core_split s.data.toList (s.data.toList.take f) ((s.data.toList.drop f).take (t - f)) (s.data.toList.drop t) hsp (is0_mem h1) (is0_mem h2)
    (by intro e; rw [e] at hlen; simp at hlen; omega)
    (fun c hc => by
      rw [hg 0 (by omega), Nat.add_zero, get?_bytes s f (by omega)] at hc
      intro e; exact h3 (by rw [Option.some.inj hc, e]; rfl))
    (fun c hc => by
      rw [hlen, hg (t - f - 1) (by omega), show f + (t - f - 1) = t - 1 by omega, get?_bytes s (t - 1) (by omega)] at hc
      intro e; exact h4 (by rw [Option.some.inj hc, e]; rfl))
  refine ⟨by rw [c2, hb], ?_⟩
  rw [tz_int, c1, c2, List.length_append, hlen, List.length_drop, hl]; omega

end Go.Proofs.YtbbeeglfgnabmaaDoor.Dc
