/- Plain Lean: a text that is read as a decimal. -/
import Derived.Test.YtlhahbniigjkkaaGreatDoorZ7
import Derived.Lib.AtoiAll
import Derived.Lib.IndexBytes
namespace Go.Proofs.YtlhahbniigjkkaaGreatDoor.Dc
set_option linter.all false

/-- The number that digits are. -/
def numOf (l : Bs) : Int := l.foldl (fun a c => 10 * a + ((c.toNat : Int) - 48)) 0

/-- What is read behind the digits: nothing, or an exponent. -/
def tail (neg : Bool) (ds : Bs) (places : Nat) (r : Bs) : Res :=
  match r with
  | [] => mk neg ds (-places)
  | c :: t =>
    if c = 101 ∨ c = 69 then
      let t1 := match t with | d :: t' => if d = 43 ∨ d = 45 then t' else t | [] => []
      let n := t1.takeWhile isDig
      if n = [] ∨ 9 < n.length ∨ t1.dropWhile isDig ≠ [] then ⟨false, [], 0, 3⟩
      else mk neg ds ((if t[0]? = some 45 then - numOf n else numOf n) - places)
    else ⟨false, [], 0, 3⟩

/-- A text is read. -/
def parse (l : Bs) : Res :=
  let s1 := Lib.trimPrefix l [45]
  let f := s1.takeWhile isDig
  let s2 := s1.dropWhile isDig
  let g := if Lib.hasPrefix s2 [46] then (Lib.trimPrefix s2 [46]).takeWhile isDig else []
  let s4 := if Lib.hasPrefix s2 [46] then (Lib.trimPrefix s2 [46]).dropWhile isDig else s2
  if f ++ g = [] then ⟨false, [], 0, 3⟩ else tail (Lib.hasPrefix l [45]) (f ++ g) g.length s4

/-- A numeral of at most nine digits: what Atoi makes of it. -/
theorem parseUint_digs (l : Bs) : ∀ (a : Nat), allDig l = true → a * 10 ^ l.length + 10 ^ l.length ≤ 1000000000000000000 → ∃ u : Nat, Lib.parseUint10 a l = .ok u ∧ (u : Int) = l.foldl (fun (a : Int) c => 10 * a + ((c.toNat : Int) - 48)) (a : Int) ∧ u < a * 10 ^ l.length + 10 ^ l.length := by
  induction l with
  | nil => intro a _ _; exact ⟨a, rfl, rfl, by simp⟩
  | cons c l ih =>
    intro a hd hb
    have hc := dig_mem hd (List.mem_cons_self (a := c) (l := l))
    have hd' : allDig l = true := by rw [allDig, List.all_cons, Bool.and_eq_true] at hd; exact hd.2
    have hp : 1 ≤ 10 ^ l.length := Nat.one_le_pow _ _ (by decide)
    rw [List.length_cons, Nat.pow_succ] at hb
    have hb2 : a * (10 ^ l.length * 10) = (a * 10) * 10 ^ l.length := by rw [Nat.mul_comm (10 ^ l.length) 10, Nat.mul_assoc]
    have hstep : (a * 10 + (c.toNat - 48)) * 10 ^ l.length + 10 ^ l.length ≤ a * (10 ^ l.length * 10) + 10 ^ l.length * 10 := by
      rw [hb2, Nat.add_mul]
      have : (c.toNat - 48) * 10 ^ l.length ≤ 9 * 10 ^ l.length := Nat.mul_le_mul_right _ (by omega)
      omega
    obtain ⟨u, h1, h2, h3⟩ := ih (a * 10 + (c.toNat - 48)) hd' (by omega)
    have ha : a ≤ 100000000000000000 := by
      have : a * 10 ≤ a * 10 * 10 ^ l.length := Nat.le_mul_of_pos_right _ hp
      omega
    refine ⟨u, ?_, ?_, by rw [List.length_cons, Nat.pow_succ]; omega⟩
    · rw [Lib.parseUint10, if_pos ⟨hc.1, hc.2⟩, if_neg (by omega), if_neg (by omega), h1]
    · rw [List.foldl_cons, h2]
      congr 1
      omega

theorem atoi_digs (l : Bs) (hd : allDig l = true) (hne : l ≠ []) (hl : l.length ≤ 9) : Lib.atoiAll l = .ok (numOf l) ∧ 0 ≤ numOf l ∧ numOf l < 1000000000 := by
  obtain ⟨u, h1, h2, h3⟩ := parseUint_digs l 0 hd (by
    have : 10 ^ l.length ≤ 10 ^ 9 := Nat.pow_le_pow_right (by decide) hl
    omega)
  have h4 : 10 ^ l.length ≤ 10 ^ 9 := Nat.pow_le_pow_right (by decide) hl
  have hn : numOf l = u := h2.symm
  rw [hn]
  refine ⟨?_, by omega, by omega⟩
  cases l with
  | nil => exact absurd rfl hne
  | cons c r =>
    have hc := dig_mem hd (List.mem_cons_self (a := c) (l := r))
    have h43 : ¬ (c.toNat = 43 ∨ c.toNat = 45) := by omega
    have h45 : ¬ c.toNat = 45 := by omega
    have h5 : Lib.parseMag (if c.toNat = 43 ∨ c.toNat = 45 then r else c :: r) = .ok u := by
      rw [if_neg h43, Lib.parseMag, if_neg (by simp), h1]
    unfold Lib.atoiAll
    simp only []
    rw [h5]
    simp [h45]; omega

def bad : Res := ⟨false, [], 0, 3⟩

theorem cons_of_bytes (s : ByteArray) (h : 0 < s.size) : s.data.toList = s[0] :: (s.extract 1 s.size).data.toList := by
  rw [Lib.extract_to_end]
  have h1 := get?_bytes s 0 h
  cases e : s.data.toList with
  | nil => rw [e] at h1; cases h1
  | cons a l => rw [e] at h1; simp at h1; rw [← h1]; rfl
theorem nil_of_bytes (s : ByteArray) (h : s.size = 0) : s.data.toList = [] := List.length_eq_zero_iff.1 (by simpa using h)
theorem ne_nil_of_bytes (s : ByteArray) (h : 0 < s.size) : s.data.toList ≠ [] := by rw [cons_of_bytes s h]; simp

theorem tail_nil (neg : Bool) (ds : Bs) (k : Nat) (s : ByteArray) (h : s.size = 0) : tail neg ds k s.data.toList = mk neg ds (-k) := by rw [nil_of_bytes s h]; rfl
theorem tail_bad (neg : Bool) (ds : Bs) (k : Nat) (s : ByteArray) (h : 0 < s.size) (h1 : ¬ (s[0].toNat : Int) = 101) (h2 : ¬ (s[0].toNat : Int) = 69) : tail neg ds k s.data.toList = bad := by
  rw [cons_of_bytes s h]
  unfold tail
  simp only []
  rw [if_neg]; · rfl
  rintro (e | e) <;> rw [e] at h1 h2 <;> simp at h1 h2

/-- The sign of an exponent is cut off. -/
def unsign (t : Bs) : Bs := match t with | d :: t' => if d = 43 ∨ d = 45 then t' else t | [] => []
theorem unsign_sign (t : ByteArray) (h : 0 < t.size) (h1 : (t[0].toNat : Int) = 43 ∨ (t[0].toNat : Int) = 45) : unsign t.data.toList = (t.extract 1 t.size).data.toList := by
  rw [cons_of_bytes t h]
  unfold unsign
  simp only []
  rw [if_pos]
  rcases h1 with e | e
  · exact .inl (u8_of_int (by simpa using e))
  · exact .inr (u8_of_int (by simpa using e))
theorem unsign_none (t : ByteArray) (h1 : ∀ h : 0 < t.size, ¬ ((t[0].toNat : Int) = 43 ∨ (t[0].toNat : Int) = 45)) : unsign t.data.toList = t.data.toList := by
  by_cases h : 0 < t.size
  · have h2 := h1 h
    rw [cons_of_bytes t h]
    unfold unsign
    simp only []
    rw [if_neg]
    rintro (e | e) <;> rw [e] at h2 <;> simp at h2
  · rw [nil_of_bytes t (by omega)]; rfl

theorem tail_exp (neg : Bool) (ds : Bs) (k : Nat) (s t : ByteArray) (h : 0 < s.size) (h1 : (s[0].toNat : Int) = 101 ∨ (s[0].toNat : Int) = 69) (ht : t = s.extract 1 s.size) :
    tail neg ds k s.data.toList = if (unsign t.data.toList).takeWhile isDig = [] ∨ 9 < ((unsign t.data.toList).takeWhile isDig).length ∨ (unsign t.data.toList).dropWhile isDig ≠ [] then bad
      else mk neg ds ((if t.data.toList[0]? = some 45 then - numOf ((unsign t.data.toList).takeWhile isDig) else numOf ((unsign t.data.toList).takeWhile isDig)) - k) := by
  rw [cons_of_bytes s h, ← ht]
  have hc : s[0] = 101 ∨ s[0] = 69 := by
    rcases h1 with e | e
    · exact .inl (u8_of_int (by simpa using e))
    · exact .inr (u8_of_int (by simpa using e))
  show (if s[0] = 101 ∨ s[0] = 69 then _ else _) = _
  rw [if_pos hc]
  rfl

theorem first_45 (t : ByteArray) (h : 0 < t.size) : (t.data.toList[0]? = some 45) = ((t[0].toNat : Int) = 45) := by
  rw [get?_bytes t 0 h]
  apply propext
  constructor
  · intro e; rw [Option.some.inj e]; rfl
  · intro e; exact congrArg some (u8_of_int (by simpa using e))

theorem tail_exp_bad (neg : Bool) (ds : Bs) (k : Nat) (s t t1 n q : ByteArray) (h : 0 < s.size) (h1 : (s[0].toNat : Int) = 101 ∨ (s[0].toNat : Int) = 69) (ht : t = s.extract 1 s.size)
    (hu : unsign t.data.toList = t1.data.toList) (hn : n.data.toList = t1.data.toList.takeWhile isDig) (hq : q.data.toList = t1.data.toList.dropWhile isDig) (hb : n.size = 0 ∨ 9 < n.size ∨ 0 < q.size) :
    tail neg ds k s.data.toList = bad := by
  rw [tail_exp neg ds k s t h h1 ht, hu, ← hn, ← hq, if_pos]
  rcases hb with e | e | e
  · exact .inl (nil_of_bytes n e)
  · exact .inr (.inl (by simpa using e))
  · exact .inr (.inr (ne_nil_of_bytes q e))
theorem tail_exp_ok (neg : Bool) (ds : Bs) (k : Nat) (s t t1 n q : ByteArray) (h : 0 < s.size) (h1 : (s[0].toNat : Int) = 101 ∨ (s[0].toNat : Int) = 69) (ht : t = s.extract 1 s.size)
    (hu : unsign t.data.toList = t1.data.toList) (hn : n.data.toList = t1.data.toList.takeWhile isDig) (hq : q.data.toList = t1.data.toList.dropWhile isDig) (hb : 0 < n.size ∧ n.size ≤ 9 ∧ q.size = 0) (hts : 1 < s.size) :
    tail neg ds k s.data.toList = mk neg ds ((if (s[1].toNat : Int) = 45 then - numOf n.data.toList else numOf n.data.toList) - k) := by
  have hlen : n.data.toList.length = n.size := by simp
  have h0 : t.data.toList[0]? = some s[1] := by
    rw [ht, Lib.extract_to_end, List.getElem?_drop, get?_bytes s 1 hts]
  have h45 : (s[1] = 45) = ((s[1].toNat : Int) = 45) := by
    apply propext
    exact ⟨fun e => by rw [e]; rfl, fun e => u8_of_int (by simpa using e)⟩
  rw [tail_exp neg ds k s t h h1 ht, hu, ← hn, ← hq, if_neg, h0]
  · simp only [Option.some.injEq, h45]
  · rintro (e | e | e)
    · exact ne_nil_of_bytes n hb.1 e
    · omega
    · exact e (nil_of_bytes q hb.2.2)

theorem trimPrefix_len (l p : Bs) : (Lib.trimPrefix l p).length ≤ l.length := by
  rw [Lib.trimPrefix]
  split
  · rw [List.length_drop]; omega
  · exact Nat.le_refl _

/-- Where a run of digits ends. -/
theorem run_spec (s : ByteArray) (i k : Nat) (hik : i ≤ k) (hk : k ≤ s.size) (h : ((s.data.toList.drop i).take (k - i)).all isDig = true) (hs : ∀ h : k < s.size, isDig s[k] = false) :
    (s.data.toList.drop i).takeWhile isDig = (s.data.toList.drop i).take (k - i) ∧ (s.data.toList.drop i).dropWhile isDig = s.data.toList.drop k := by
  have hl : s.data.toList.length = s.size := by simp
  have e : s.data.toList.drop i = (s.data.toList.drop i).take (k - i) ++ s.data.toList.drop k := by
    have := List.take_append_drop (k - i) (s.data.toList.drop i)
    rw [List.drop_drop, show i + (k - i) = k by omega] at this
    exact this.symm
  have h2 : (s.data.toList.drop k).takeWhile isDig = [] ∧ (s.data.toList.drop k).dropWhile isDig = s.data.toList.drop k := by
    by_cases hlt : k < s.size
    · have hg := get?_bytes s k hlt
      rw [List.drop_eq_getElem_cons (by omega)]
      rw [List.getElem?_eq_getElem (by omega)] at hg
      rw [Option.some.inj hg]
      exact ⟨List.takeWhile_cons_of_neg (by rw [hs hlt]; simp), List.dropWhile_cons_of_neg (by rw [hs hlt]; simp)⟩
    · rw [List.drop_of_length_le (by omega)]; exact ⟨rfl, rfl⟩
  have ha := List.all_eq_true.1 h
  constructor
  · conv => lhs; rw [e]
    rw [List.takeWhile_append_of_pos ha, h2.1, List.append_nil]
  · conv => lhs; rw [e]
    rw [List.dropWhile_append_of_pos ha, h2.2]

theorem hasPrefix_one (s : ByteArray) (k : Nat) (c : UInt8) : Lib.hasPrefix (s.data.toList.drop k) [c] = decide (∃ h : k < s.size, (s[k].toNat : Int) = c.toNat) := by
  rw [Lib.hasPrefix, Bool.eq_iff_iff, List.isPrefixOf_iff_prefix, decide_eq_true_iff]
  have hl : s.data.toList.length = s.size := by simp
  constructor
  · rintro ⟨r, hr⟩
    have hlt : k < s.size := by
      have := congrArg List.length hr
      rw [List.length_append, List.length_drop, hl] at this; simp at this; omega
    refine ⟨hlt, ?_⟩
    have hg := get?_bytes s k hlt
    have h2 : (s.data.toList.drop k)[0]? = some c := by rw [← hr]; rfl
    rw [List.getElem?_drop, Nat.add_zero, hg] at h2
    rw [Option.some.inj h2]
  · rintro ⟨hlt, h⟩
    have hg := get?_bytes s k hlt
    rw [List.drop_eq_getElem_cons (by omega)]
    rw [List.getElem?_eq_getElem (by omega)] at hg
    rw [Option.some.inj hg, u8_of_int h]
    exact ⟨_, rfl⟩
theorem trimPrefix_one (s : ByteArray) (k : Nat) (c : UInt8) : Lib.trimPrefix (s.data.toList.drop k) [c] = if Lib.hasPrefix (s.data.toList.drop k) [c] then s.data.toList.drop (k + 1) else s.data.toList.drop k := by
  rw [Lib.trimPrefix]
  split
  · rw [List.drop_drop]; rfl
  · rfl

theorem ite_val (f g : Bs) (a b : Res) : (if f ++ g = [] then a else b).val = if f.length + g.length = 0 then a.val else b.val := by
  have h : (f ++ g = []) ↔ (f.length + g.length = 0) := by
    rw [← List.length_append, List.length_eq_zero_iff]
  by_cases e : f ++ g = []
  · rw [if_pos e, if_pos (h.1 e)]
  · rw [if_neg e, if_neg (fun x => e (h.2 x))]
theorem parse_dot (l : Bs) (h : Lib.hasPrefix ((Lib.trimPrefix l [45]).dropWhile isDig) [46] = true) : (parse l).val =
    if ((Lib.trimPrefix l [45]).takeWhile isDig).length + ((Lib.trimPrefix ((Lib.trimPrefix l [45]).dropWhile isDig) [46]).takeWhile isDig).length = 0 then (⟨false, [], 0, 3⟩ : Res).val
    else (tail (Lib.hasPrefix l [45]) ((Lib.trimPrefix l [45]).takeWhile isDig ++ (Lib.trimPrefix ((Lib.trimPrefix l [45]).dropWhile isDig) [46]).takeWhile isDig) ((Lib.trimPrefix ((Lib.trimPrefix l [45]).dropWhile isDig) [46]).takeWhile isDig).length ((Lib.trimPrefix ((Lib.trimPrefix l [45]).dropWhile isDig) [46]).dropWhile isDig)).val := by
  unfold parse
  simp only [h, if_true]
  exact ite_val _ _ _ _
theorem parse_plain (l : Bs) (h : Lib.hasPrefix ((Lib.trimPrefix l [45]).dropWhile isDig) [46] = false) : (parse l).val =
    if ((Lib.trimPrefix l [45]).takeWhile isDig).length + ([] : Bs).length = 0 then (⟨false, [], 0, 3⟩ : Res).val
    else (tail (Lib.hasPrefix l [45]) ((Lib.trimPrefix l [45]).takeWhile isDig ++ []) 0 ((Lib.trimPrefix l [45]).dropWhile isDig)).val := by
  unfold parse
  simp only [h]
  exact ite_val _ _ _ _

theorem parse_at (s : ByteArray) (neg dot : Bool) (p0 k : Nat) (f g s4 : Bs) (hneg : neg = Lib.hasPrefix s.data.toList [45]) (hp0 : p0 = if neg then 1 else 0)
    (hf : f = (s.data.toList.drop p0).takeWhile isDig) (hrest : (s.data.toList.drop p0).dropWhile isDig = s.data.toList.drop k) (hdot : dot = Lib.hasPrefix (s.data.toList.drop k) [46])
    (hg : g = if dot then (s.data.toList.drop (k + 1)).takeWhile isDig else []) (hs4 : s4 = if dot then (s.data.toList.drop (k + 1)).dropWhile isDig else s.data.toList.drop k) :
    parse s.data.toList = if f ++ g = [] then bad else tail neg (f ++ g) g.length s4 := by
  have h1 : Lib.trimPrefix s.data.toList [45] = s.data.toList.drop p0 := by
    have := trimPrefix_one s 0 45
    rw [List.drop_zero, ← hneg] at this
    rw [this, hp0]
    cases neg <;> rfl
  have h2 := trimPrefix_one s k 46
  unfold parse
  simp only [h1, hrest, ← hdot, ← hf, h2]
  cases dot
  · simp only [Bool.false_eq_true, if_false] at hg hs4 ⊢
    rw [hg, hs4, ← hneg]; rfl
  · simp only [if_true] at hg hs4 ⊢
    rw [← hg, ← hs4, ← hneg]; rfl

theorem drop_cons (s : ByteArray) (q : Nat) (h : q < s.size) : s.data.toList.drop q = s[q] :: s.data.toList.drop (q + 1) := by
  have hg := get?_bytes s q h
  have hl : s.data.toList.length = s.size := by simp
  rw [List.drop_eq_getElem_cons (by omega)]
  rw [List.getElem?_eq_getElem (by omega)] at hg
  rw [Option.some.inj hg]
theorem tail_at_end (neg : Bool) (ds : Bs) (n : Nat) (s : ByteArray) (q : Nat) (h : s.size ≤ q) : tail neg ds n (s.data.toList.drop q) = mk neg ds (-n) := by
  rw [List.drop_of_length_le (by simpa using h)]; rfl
theorem tail_at_bad (neg : Bool) (ds : Bs) (n : Nat) (s : ByteArray) (q : Nat) (h : q < s.size) (h1 : ¬ (s[q].toNat : Int) = 101) (h2 : ¬ (s[q].toNat : Int) = 69) : tail neg ds n (s.data.toList.drop q) = bad := by
  rw [drop_cons s q h]
  unfold tail
  simp only []
  rw [if_neg]; · rfl
  rintro (e | e) <;> rw [e] at h1 h2 <;> simp at h1 h2
theorem tail_at_exp (neg : Bool) (ds : Bs) (n : Nat) (s : ByteArray) (q : Nat) (h : q < s.size) (h1 : (s[q].toNat : Int) = 101 ∨ (s[q].toNat : Int) = 69) :
    tail neg ds n (s.data.toList.drop q) = if (unsign (s.data.toList.drop (q + 1))).takeWhile isDig = [] ∨ 9 < ((unsign (s.data.toList.drop (q + 1))).takeWhile isDig).length ∨ (unsign (s.data.toList.drop (q + 1))).dropWhile isDig ≠ [] then bad
      else mk neg ds ((if (s.data.toList.drop (q + 1))[0]? = some 45 then - numOf ((unsign (s.data.toList.drop (q + 1))).takeWhile isDig) else numOf ((unsign (s.data.toList.drop (q + 1))).takeWhile isDig)) - n) := by
  rw [drop_cons s q h]
  have hc : s[q] = 101 ∨ s[q] = 69 := by
    rcases h1 with e | e
    · exact .inl (u8_of_int (by simpa using e))
    · exact .inr (u8_of_int (by simpa using e))
  show (if s[q] = 101 ∨ s[q] = 69 then _ else _) = _
  rw [if_pos hc]
  rfl

/-- The sign of an exponent at a place: where the digits begin, and whether it is a minus. -/
theorem unsign_at (s : ByteArray) (i : Nat) (hi : i ≤ s.size) :
    (∃ h : i < s.size, (s[i].toNat : Int) = 43 ∧ unsign (s.data.toList.drop i) = s.data.toList.drop (i + 1) ∧ ¬ (s.data.toList.drop i)[0]? = some 45) ∨
    (∃ h : i < s.size, (s[i].toNat : Int) = 45 ∧ unsign (s.data.toList.drop i) = s.data.toList.drop (i + 1) ∧ (s.data.toList.drop i)[0]? = some 45) ∨
    ((∀ h : i < s.size, ¬ (s[i].toNat : Int) = 43 ∧ ¬ (s[i].toNat : Int) = 45) ∧ unsign (s.data.toList.drop i) = s.data.toList.drop i ∧ ¬ (s.data.toList.drop i)[0]? = some 45) := by
  by_cases h : i < s.size
  · rw [drop_cons s i h]
    have h0 : ((s[i] :: s.data.toList.drop (i + 1))[0]? = some 45) ↔ s[i] = 45 := by simp
    rw [h0]
    by_cases h43 : (s[i].toNat : Int) = 43
    · have e : s[i] = 43 := u8_of_int (by simpa using h43)
      refine .inl ⟨h, h43, ?_, by rw [e]; decide⟩
      unfold unsign; simp only []; rw [if_pos (.inl e)]
    · by_cases h45 : (s[i].toNat : Int) = 45
      · have e : s[i] = 45 := u8_of_int (by simpa using h45)
        refine .inr (.inl ⟨h, h45, ?_, e⟩)
        unfold unsign; simp only []; rw [if_pos (.inr e)]
      · refine .inr (.inr ⟨fun _ => ⟨h43, h45⟩, ?_, fun e => h45 (by rw [e]; rfl)⟩)
        unfold unsign; simp only []; rw [if_neg]
        rintro (e | e)
        · exact h43 (by rw [e]; rfl)
        · exact h45 (by rw [e]; rfl)
  · rw [List.drop_of_length_le (by simp; omega)]
    exact .inr (.inr ⟨fun x => absurd x h, rfl, by simp⟩)

/-- Where the loop over an exponent's digits stops: what the text's form says. -/
theorem exp_stop (s : ByteArray) (i j : Nat) (hij : i ≤ j) (hj : j ≤ s.size) (h9 : j ≤ i + 9) (h : ((s.data.toList.drop i).take (j - i)).all isDig = true) (hs : ∀ h : j < s.size, isDig s[j] = false ∨ j = i + 9) :
    ((s.data.toList.drop i).takeWhile isDig = [] ∨ 9 < ((s.data.toList.drop i).takeWhile isDig).length ∨ (s.data.toList.drop i).dropWhile isDig ≠ []) ↔ (j = i ∨ j < s.size) := by
  have hl : s.data.toList.length = s.size := by simp
  have hlen : ((s.data.toList.drop i).take (j - i)).length = j - i := by rw [List.length_take, List.length_drop, hl]; omega
  by_cases hlt : j < s.size
  · refine ⟨fun _ => .inr hlt, fun _ => ?_⟩
    rcases hs hlt with e | e
    · have := (run_spec s i j hij hj h (fun _ => e)).2
      exact .inr (.inr (by rw [this, drop_cons s j hlt]; simp))
    · by_cases hd : isDig s[j] = true
      · refine .inr (.inl ?_)
        have e2 : s.data.toList.drop i = ((s.data.toList.drop i).take (j - i)) ++ s[j] :: s.data.toList.drop (j + 1) := by
          have := List.take_append_drop (j - i) (s.data.toList.drop i)
          rw [List.drop_drop, show i + (j - i) = j by omega, drop_cons s j hlt] at this
          exact this.symm
        rw [e2, List.takeWhile_append_of_pos (List.all_eq_true.1 h), List.takeWhile_cons_of_pos hd, List.length_append, hlen]
        simp; omega
      · have := (run_spec s i j hij hj h (fun _ => by simpa using hd)).2
        exact .inr (.inr (by rw [this, drop_cons s j hlt]; simp))
  · have hr := run_spec s i j hij hj h (fun x => absurd x hlt)
    have hd : s.data.toList.drop j = [] := List.drop_of_length_le (by omega)
    rw [hr.1, hr.2, hlen, hd]
    constructor
    · rintro (e | e | e)
      · have := congrArg List.length e; rw [hlen] at this; simp at this; exact .inl (by omega)
      · omega
      · exact absurd rfl e
    · rintro (e | e)
      · exact .inl (List.length_eq_zero_iff.1 (by rw [hlen]; omega))
      · omega

theorem numOf_snoc (l : Bs) (c : UInt8) : numOf (l ++ [c]) = 10 * numOf l + ((c.toNat : Int) - 48) := by
  unfold numOf; rw [List.foldl_append]; rfl
theorem numOf_bound (l : Bs) (h : l.all isDig = true) (hl : l.length ≤ 9) : 0 ≤ numOf l ∧ numOf l < 1000000000 := by
  cases l with
  | nil => exact ⟨by decide, by decide⟩
  | cons c r => exact (atoi_digs (c :: r) h (by simp) hl).2

end Go.Proofs.YtlhahbniigjkkaaGreatDoor.Dc
