/- Plain Lean: a text that is read as a decimal. -/
import Derived.Test.YtjnkbifafbjckaaGreatDoorZ6
import Derived.Lib.AtoiAll
import Derived.Lib.IndexBytes
import Derived.Lib.ItoaNum
namespace Go.Proofs.YtjnkbifafbjckaaGreatDoor.Dc
set_option linter.all false

/-- The number that digits are. -/
def numOf (l : Bs) : Int := l.foldl (fun a c => 10 * a + ((c.toNat : Int) - 48)) 0

/-- What is read behind the digits: nothing, or an exponent. -/
def tail (neg : Bool) (ds : Bs) (places : Nat) (r : Bs) : Res :=
  match r with
  | [] => mk neg ds (-places)
  | c :: t =>
    if c = 101 ∨ c = 69 then
      let t1 := match t with | d :: t' => if d = 43 ∨ d = 45 then t' else t | [] => []
      let n := t1.takeWhile isDig
      if n = [] ∨ 9 < n.length ∨ t1.dropWhile isDig ≠ [] then ⟨false, [], 0, 3⟩
      else mk neg ds ((if t[0]? = some 45 then - numOf n else numOf n) - places)
    else ⟨false, [], 0, 3⟩

/-- A text is read. -/
def parse (l : Bs) : Res :=
  let s1 := Lib.trimPrefix l [45]
  let f := s1.takeWhile isDig
  let s2 := s1.dropWhile isDig
  let g := if Lib.hasPrefix s2 [46] then (Lib.trimPrefix s2 [46]).takeWhile isDig else []
  let s4 := if Lib.hasPrefix s2 [46] then (Lib.trimPrefix s2 [46]).dropWhile isDig else s2
  if f ++ g = [] then ⟨false, [], 0, 3⟩ else tail (Lib.hasPrefix l [45]) (f ++ g) g.length s4

/-- A numeral of at most nine digits: what Atoi makes of it. -/
theorem parseUint_digs (l : Bs) : ∀ (a : Nat), allDig l = true → a * 10 ^ l.length + 10 ^ l.length ≤ 1000000000000000000 → ∃ u : Nat, Lib.parseUint10 a l = .ok u ∧ (u : Int) = l.foldl (fun (a : Int) c => 10 * a + ((c.toNat : Int) - 48)) (a : Int) ∧ u < a * 10 ^ l.length + 10 ^ l.length := by
  induction l with
  | nil => intro a _ _; exact ⟨a, rfl, rfl, by simp⟩
  | cons c l ih =>
    intro a hd hb
    have hc := dig_mem hd (List.mem_cons_self (a := c) (l := l))
    have hd' : allDig l = true := by rw [allDig, List.all_cons, Bool.and_eq_true] at hd; exact hd.2
    have hp : 1 ≤ 10 ^ l.length := Nat.one_le_pow _ _ (by decide)
    rw [List.length_cons, Nat.pow_succ] at hb
    have hb2 : a * (10 ^ l.length * 10) = (a * 10) * 10 ^ l.length := by rw [Nat.mul_comm (10 ^ l.length) 10, Nat.mul_assoc]
    have hstep : (a * 10 + (c.toNat - 48)) * 10 ^ l.length + 10 ^ l.length ≤ a * (10 ^ l.length * 10) + 10 ^ l.length * 10 := by
      rw [hb2, Nat.add_mul]
      have : (c.toNat - 48) * 10 ^ l.length ≤ 9 * 10 ^ l.length := Nat.mul_le_mul_right _ (by omega)
      omega
    obtain ⟨u, h1, h2, h3⟩ := ih (a * 10 + (c.toNat - 48)) hd' (by omega)
    have ha : a ≤ 100000000000000000 := by
      have : a * 10 ≤ a * 10 * 10 ^ l.length := Nat.le_mul_of_pos_right _ hp
      omega
    refine ⟨u, ?_, ?_, by rw [List.length_cons, Nat.pow_succ]; omega⟩
    · rw [Lib.parseUint10, if_pos ⟨hc.1, hc.2⟩, if_neg (by omega), if_neg (by omega), h1]
    · rw [List.foldl_cons, h2]
      congr 1
      omega

theorem atoi_digs (l : Bs) (hd : allDig l = true) (hne : l ≠ []) (hl : l.length ≤ 9) : Lib.atoiAll l = .ok (numOf l) ∧ 0 ≤ numOf l ∧ numOf l < 1000000000 := by
  obtain ⟨u, h1, h2, h3⟩ := parseUint_digs l 0 hd (by
    have : 10 ^ l.length ≤ 10 ^ 9 := Nat.pow_le_pow_right (by decide) hl
    omega)
  have h4 : 10 ^ l.length ≤ 10 ^ 9 := Nat.pow_le_pow_right (by decide) hl
  have hn : numOf l = u := h2.symm
  rw [hn]
  refine ⟨?_, by omega, by omega⟩
  cases l with
  | nil => exact absurd rfl hne
  | cons c r =>
    have hc := dig_mem hd (List.mem_cons_self (a := c) (l := r))
    have h43 : ¬ (c.toNat = 43 ∨ c.toNat = 45) := by omega
    have h45 : ¬ c.toNat = 45 := by omega
    have h5 : Lib.parseMag (if c.toNat = 43 ∨ c.toNat = 45 then r else c :: r) = .ok u := by
      rw [if_neg h43, Lib.parseMag, if_neg (by simp), h1]
    unfold Lib.atoiAll
    simp only []
    rw [h5]
    simp [h45]; omega

def bad : Res := ⟨false, [], 0, 3⟩

theorem cons_of_bytes (s : ByteArray) (h : 0 < s.size) : s.data.toList = s[0] :: (s.extract 1 s.size).data.toList := by
  rw [Lib.extract_to_end]
  have h1 := get?_bytes s 0 h
  cases e : s.data.toList with
  | nil => rw [e] at h1; cases h1
  | cons a l => rw [e] at h1; simp at h1; rw [← h1]; rfl
theorem nil_of_bytes (s : ByteArray) (h : s.size = 0) : s.data.toList = [] := List.length_eq_zero_iff.1 (by simpa using h)
theorem ne_nil_of_bytes (s : ByteArray) (h : 0 < s.size) : s.data.toList ≠ [] := by rw [cons_of_bytes s h]; simp

theorem tail_nil (neg : Bool) (ds : Bs) (k : Nat) (s : ByteArray) (h : s.size = 0) : tail neg ds k s.data.toList = mk neg ds (-k) := by rw [nil_of_bytes s h]; rfl
theorem tail_bad (neg : Bool) (ds : Bs) (k : Nat) (s : ByteArray) (h : 0 < s.size) (h1 : ¬ (s[0].toNat : Int) = 101) (h2 : ¬ (s[0].toNat : Int) = 69) : tail neg ds k s.data.toList = bad := by
  rw [cons_of_bytes s h]
  unfold tail
  simp only []
  rw [if_neg]; · rfl
  rintro (e | e) <;> rw [e] at h1 h2 <;> simp at h1 h2

/-- The sign of an exponent is cut off. -/
def unsign (t : Bs) : Bs := match t with | d :: t' => if d = 43 ∨ d = 45 then t' else t | [] => []
theorem unsign_sign (t : ByteArray) (h : 0 < t.size) (h1 : (t[0].toNat : Int) = 43 ∨ (t[0].toNat : Int) = 45) : unsign t.data.toList = (t.extract 1 t.size).data.toList := by
  rw [cons_of_bytes t h]
  unfold unsign
  simp only []
  rw [if_pos]
  rcases h1 with e | e
  · exact .inl (u8_of_int (by simpa using e))
  · exact .inr (u8_of_int (by simpa using e))
theorem unsign_none (t : ByteArray) (h1 : ∀ h : 0 < t.size, ¬ ((t[0].toNat : Int) = 43 ∨ (t[0].toNat : Int) = 45)) : unsign t.data.toList = t.data.toList := by
  by_cases h : 0 < t.size
  · have h2 := h1 h
    rw [cons_of_bytes t h]
    unfold unsign
    simp only []
    rw [if_neg]
    rintro (e | e) <;> rw [e] at h2 <;> simp at h2
  · rw [nil_of_bytes t (by omega)]; rfl

theorem tail_exp (neg : Bool) (ds : Bs) (k : Nat) (s t : ByteArray) (h : 0 < s.size) (h1 : (s[0].toNat : Int) = 101 ∨ (s[0].toNat : Int) = 69) (ht : t = s.extract 1 s.size) :
    tail neg ds k s.data.toList = if (unsign t.data.toList).takeWhile isDig = [] ∨ 9 < ((unsign t.data.toList).takeWhile isDig).length ∨ (unsign t.data.toList).dropWhile isDig ≠ [] then bad
      else mk neg ds ((if t.data.toList[0]? = some 45 then - numOf ((unsign t.data.toList).takeWhile isDig) else numOf ((unsign t.data.toList).takeWhile isDig)) - k) := by
  rw [cons_of_bytes s h, ← ht]
  have hc : s[0] = 101 ∨ s[0] = 69 := by
    rcases h1 with e | e
    · exact .inl (u8_of_int (by simpa using e))
    · exact .inr (u8_of_int (by simpa using e))
  show (if s[0] = 101 ∨ s[0] = 69 then _ else _) = _
  rw [if_pos hc]
  rfl

theorem tail_exp_bad (neg : Bool) (ds : Bs) (k : Nat) (s t t1 n q : ByteArray) (h : 0 < s.size) (h1 : (s[0].toNat : Int) = 101 ∨ (s[0].toNat : Int) = 69) (ht : t = s.extract 1 s.size)
    (hu : unsign t.data.toList = t1.data.toList) (hn : n.data.toList = t1.data.toList.takeWhile isDig) (hq : q.data.toList = t1.data.toList.dropWhile isDig) (hb : n.size = 0 ∨ 9 < n.size ∨ 0 < q.size) :
    tail neg ds k s.data.toList = bad := by
  rw [tail_exp neg ds k s t h h1 ht, hu, ← hn, ← hq, if_pos]
  rcases hb with e | e | e
  · exact .inl (nil_of_bytes n e)
  · exact .inr (.inl (by simpa using e))
  · exact .inr (.inr (ne_nil_of_bytes q e))
theorem tail_exp_ok (neg : Bool) (ds : Bs) (k : Nat) (s t t1 n q : ByteArray) (h : 0 < s.size) (h1 : (s[0].toNat : Int) = 101 ∨ (s[0].toNat : Int) = 69) (ht : t = s.extract 1 s.size)
    (hu : unsign t.data.toList = t1.data.toList) (hn : n.data.toList = t1.data.toList.takeWhile isDig) (hq : q.data.toList = t1.data.toList.dropWhile isDig) (hb : 0 < n.size ∧ n.size ≤ 9 ∧ q.size = 0) (hts : 1 < s.size) :
    tail neg ds k s.data.toList = mk neg ds ((if (s[1].toNat : Int) = 45 then - numOf n.data.toList else numOf n.data.toList) - k) := by
  have hlen : n.data.toList.length = n.size := by simp
  have h0 : t.data.toList[0]? = some s[1] := by
    rw [ht, Lib.extract_to_end, List.getElem?_drop, get?_bytes s 1 hts]
  have h45 : (s[1] = 45) = ((s[1].toNat : Int) = 45) := by
    apply propext
    exact ⟨fun e => by rw [e]; rfl, fun e => u8_of_int (by simpa using e)⟩
  rw [tail_exp neg ds k s t h h1 ht, hu, ← hn, ← hq, if_neg, h0]
  · simp only [Option.some.injEq, h45]
  · rintro (e | e | e)
    · exact ne_nil_of_bytes n hb.1 e
    · omega
    · exact e (nil_of_bytes q hb.2.2)

theorem trimPrefix_len (l p : Bs) : (Lib.trimPrefix l p).length ≤ l.length := by
  rw [Lib.trimPrefix]
  split
  · rw [List.length_drop]; omega
  · exact Nat.le_refl _

/-- Where a run of digits ends. -/
theorem run_spec (s : ByteArray) (i k : Nat) (hik : i ≤ k) (hk : k ≤ s.size) (h : ((s.data.toList.drop i).take (k - i)).all isDig = true) (hs : ∀ h : k < s.size, isDig s[k] = false) :
    (s.data.toList.drop i).takeWhile isDig = (s.data.toList.drop i).take (k - i) ∧ (s.data.toList.drop i).dropWhile isDig = s.data.toList.drop k := by
  have hl : s.data.toList.length = s.size := by simp
  have e : s.data.toList.drop i = (s.data.toList.drop i).take (k - i) ++ s.data.toList.drop k := by
    have := List.take_append_drop (k - i) (s.data.toList.drop i)
    rw [List.drop_drop, show i + (k - i) = k by omega] at this
    exact this.symm
  have h2 : (s.data.toList.drop k).takeWhile isDig = [] ∧ (s.data.toList.drop k).dropWhile isDig = s.data.toList.drop k := by
    by_cases hlt : k < s.size
    · have hg := get?_bytes s k hlt
      rw [List.drop_eq_getElem_cons (by omega)]
      rw [List.getElem?_eq_getElem (by omega)] at hg
      rw [Option.some.inj hg]
      exact ⟨List.takeWhile_cons_of_neg (by rw [hs hlt]; simp), List.dropWhile_cons_of_neg (by rw [hs hlt]; simp)⟩
    · rw [List.drop_of_length_le (by omega)]; exact ⟨rfl, rfl⟩
  have ha := List.all_eq_true.1 h
  constructor
  · conv => lhs; rw [e]
    rw [List.takeWhile_append_of_pos ha, h2.1, List.append_nil]
  · conv => lhs; rw [e]
    rw [List.dropWhile_append_of_pos ha, h2.2]

theorem hasPrefix_one (s : ByteArray) (k : Nat) (c : UInt8) : Lib.hasPrefix (s.data.toList.drop k) [c] = decide (∃ h : k < s.size, (s[k].toNat : Int) = c.toNat) := by
  rw [Lib.hasPrefix, Bool.eq_iff_iff, List.isPrefixOf_iff_prefix, decide_eq_true_iff]
  have hl : s.data.toList.length = s.size := by simp
  constructor
  · rintro ⟨r, hr⟩
    have hlt : k < s.size := by
      have := congrArg List.length hr
      rw [List.length_append, List.length_drop, hl] at this; simp at this; omega
    refine ⟨hlt, ?_⟩
    have hg := get?_bytes s k hlt
    have h2 : (s.data.toList.drop k)[0]? = some c := by rw [← hr]; rfl
    rw [List.getElem?_drop, Nat.add_zero, hg] at h2
    rw [Option.some.inj h2]
  · rintro ⟨hlt, h⟩
    have hg := get?_bytes s k hlt
    rw [List.drop_eq_getElem_cons (by omega)]
    rw [List.getElem?_eq_getElem (by omega)] at hg
    rw [Option.some.inj hg, u8_of_int h]
    exact ⟨_, rfl⟩
theorem trimPrefix_one (s : ByteArray) (k : Nat) (c : UInt8) : Lib.trimPrefix (s.data.toList.drop k) [c] = if Lib.hasPrefix (s.data.toList.drop k) [c] then s.data.toList.drop (k + 1) else s.data.toList.drop k := by
  rw [Lib.trimPrefix]
  split
  · rw [List.drop_drop]; rfl
  · rfl

theorem ite_val (f g : Bs) (a b : Res) : (if f ++ g = [] then a else b).val = if f.length + g.length = 0 then a.val else b.val := by
  have h : (f ++ g = []) ↔ (f.length + g.length = 0) := by
    rw [← List.length_append, List.length_eq_zero_iff]
  by_cases e : f ++ g = []
  · rw [if_pos e, if_pos (h.1 e)]
  · rw [if_neg e, if_neg (fun x => e (h.2 x))]
theorem parse_dot (l : Bs) (h : Lib.hasPrefix ((Lib.trimPrefix l [45]).dropWhile isDig) [46] = true) : (parse l).val =
    if ((Lib.trimPrefix l [45]).takeWhile isDig).length + ((Lib.trimPrefix ((Lib.trimPrefix l [45]).dropWhile isDig) [46]).takeWhile isDig).length = 0 then (⟨false, [], 0, 3⟩ : Res).val
    else (tail (Lib.hasPrefix l [45]) ((Lib.trimPrefix l [45]).takeWhile isDig ++ (Lib.trimPrefix ((Lib.trimPrefix l [45]).dropWhile isDig) [46]).takeWhile isDig) ((Lib.trimPrefix ((Lib.trimPrefix l [45]).dropWhile isDig) [46]).takeWhile isDig).length ((Lib.trimPrefix ((Lib.trimPrefix l [45]).dropWhile isDig) [46]).dropWhile isDig)).val := by
  unfold parse
  simp only [h, if_true]
  exact ite_val _ _ _ _
theorem parse_plain (l : Bs) (h : Lib.hasPrefix ((Lib.trimPrefix l [45]).dropWhile isDig) [46] = false) : (parse l).val =
    if ((Lib.trimPrefix l [45]).takeWhile isDig).length + ([] : Bs).length = 0 then (⟨false, [], 0, 3⟩ : Res).val
    else (tail (Lib.hasPrefix l [45]) ((Lib.trimPrefix l [45]).takeWhile isDig ++ []) 0 ((Lib.trimPrefix l [45]).dropWhile isDig)).val := by
  unfold parse
  simp only [h]
  exact ite_val _ _ _ _

theorem parse_at (s : ByteArray) (neg dot : Bool) (p0 k : Nat) (f g s4 : Bs) (hneg : neg = Lib.hasPrefix s.data.toList [45]) (hp0 : p0 = if neg then 1 else 0)
    (hf : f = (s.data.toList.drop p0).takeWhile isDig) (hrest : (s.data.toList.drop p0).dropWhile isDig = s.data.toList.drop k) (hdot : dot = Lib.hasPrefix (s.data.toList.drop k) [46])
    (hg : g = if dot then (s.data.toList.drop (k + 1)).takeWhile isDig else []) (hs4 : s4 = if dot then (s.data.toList.drop (k + 1)).dropWhile isDig else s.data.toList.drop k) :
    parse s.data.toList = if f ++ g = [] then bad else tail neg (f ++ g) g.length s4 := by
  have h1 : Lib.trimPrefix s.data.toList [45] = s.data.toList.drop p0 := by
    have := trimPrefix_one s 0 45
    rw [List.drop_zero, ← hneg] at this
    rw [this, hp0]
    cases neg <;> rfl
  have h2 := trimPrefix_one s k 46
  unfold parse
  simp only [h1, hrest, ← hdot, ← hf, h2]
  cases dot
  · simp only [Bool.false_eq_true, if_false] at hg hs4 ⊢
    rw [hg, hs4, ← hneg]; rfl
  · simp only [if_true] at hg hs4 ⊢
    rw [← hg, ← hs4, ← hneg]; rfl

theorem drop_cons (s : ByteArray) (q : Nat) (h : q < s.size) : s.data.toList.drop q = s[q] :: s.data.toList.drop (q + 1) := by
  have hg := get?_bytes s q h
  have hl : s.data.toList.length = s.size := by simp
  rw [List.drop_eq_getElem_cons (by omega)]
  rw [List.getElem?_eq_getElem (by omega)] at hg
  rw [Option.some.inj hg]
theorem tail_at_end (neg : Bool) (ds : Bs) (n : Nat) (s : ByteArray) (q : Nat) (h : s.size ≤ q) : tail neg ds n (s.data.toList.drop q) = mk neg ds (-n) := by
  rw [List.drop_of_length_le (by simpa using h)]; rfl
theorem tail_at_bad (neg : Bool) (ds : Bs) (n : Nat) (s : ByteArray) (q : Nat) (h : q < s.size) (h1 : ¬ (s[q].toNat : Int) = 101) (h2 : ¬ (s[q].toNat : Int) = 69) : tail neg ds n (s.data.toList.drop q) = bad := by
  rw [drop_cons s q h]
  unfold tail
  simp only []
  rw [if_neg]; · rfl
  rintro (e | e) <;> rw [e] at h1 h2 <;> simp at h1 h2
theorem tail_at_exp (neg : Bool) (ds : Bs) (n : Nat) (s : ByteArray) (q : Nat) (h : q < s.size) (h1 : (s[q].toNat : Int) = 101 ∨ (s[q].toNat : Int) = 69) :
    tail neg ds n (s.data.toList.drop q) = if (unsign (s.data.toList.drop (q + 1))).takeWhile isDig = [] ∨ 9 < ((unsign (s.data.toList.drop (q + 1))).takeWhile isDig).length ∨ (unsign (s.data.toList.drop (q + 1))).dropWhile isDig ≠ [] then bad
      else mk neg ds ((if (s.data.toList.drop (q + 1))[0]? = some 45 then - numOf ((unsign (s.data.toList.drop (q + 1))).takeWhile isDig) else numOf ((unsign (s.data.toList.drop (q + 1))).takeWhile isDig)) - n) := by
  rw [drop_cons s q h]
  have hc : s[q] = 101 ∨ s[q] = 69 := by
    rcases h1 with e | e
    · exact .inl (u8_of_int (by simpa using e))
    · exact .inr (u8_of_int (by simpa using e))
  show (if s[q] = 101 ∨ s[q] = 69 then _ else _) = _
  rw [if_pos hc]
  rfl

/-- The sign of an exponent at a place: where the digits begin, and whether it is a minus. -/
theorem unsign_at (s : ByteArray) (i : Nat) (hi : i ≤ s.size) :
    (∃ h : i < s.size, (s[i].toNat : Int) = 43 ∧ unsign (s.data.toList.drop i) = s.data.toList.drop (i + 1) ∧ ¬ (s.data.toList.drop i)[0]? = some 45) ∨
    (∃ h : i < s.size, (s[i].toNat : Int) = 45 ∧ unsign (s.data.toList.drop i) = s.data.toList.drop (i + 1) ∧ (s.data.toList.drop i)[0]? = some 45) ∨
    ((∀ h : i < s.size, ¬ (s[i].toNat : Int) = 43 ∧ ¬ (s[i].toNat : Int) = 45) ∧ unsign (s.data.toList.drop i) = s.data.toList.drop i ∧ ¬ (s.data.toList.drop i)[0]? = some 45) := by
  by_cases h : i < s.size
  · rw [drop_cons s i h]
    have h0 : ((s[i] :: s.data.toList.drop (i + 1))[0]? = some 45) ↔ s[i] = 45 := by simp
    rw [h0]
    by_cases h43 : (s[i].toNat : Int) = 43
    · have e : s[i] = 43 := u8_of_int (by simpa using h43)
      refine .inl ⟨h, h43, ?_, by rw [e]; decide⟩
      unfold unsign; simp only []; rw [if_pos (.inl e)]
    · by_cases h45 : (s[i].toNat : Int) = 45
      · have e : s[i] = 45 := u8_of_int (by simpa using h45)
        refine .inr (.inl ⟨h, h45, ?_, e⟩)
        unfold unsign; simp only []; rw [if_pos (.inr e)]
      · refine .inr (.inr ⟨fun _ => ⟨h43, h45⟩, ?_, fun e => h45 (by rw [e]; rfl)⟩)
        unfold unsign; simp only []; rw [if_neg]
        rintro (e | e)
        · exact h43 (by rw [e]; rfl)
        · exact h45 (by rw [e]; rfl)
  · rw [List.drop_of_length_le (by simp; omega)]
    exact .inr (.inr ⟨fun x => absurd x h, rfl, by simp⟩)

/-- Where the loop over an exponent's digits stops: what the text's form says. -/
theorem exp_stop (s : ByteArray) (i j : Nat) (hij : i ≤ j) (hj : j ≤ s.size) (h9 : j ≤ i + 9) (h : ((s.data.toList.drop i).take (j - i)).all isDig = true) (hs : ∀ h : j < s.size, isDig s[j] = false ∨ j = i + 9) :
    ((s.data.toList.drop i).takeWhile isDig = [] ∨ 9 < ((s.data.toList.drop i).takeWhile isDig).length ∨ (s.data.toList.drop i).dropWhile isDig ≠ []) ↔ (j = i ∨ j < s.size) := by
  have hl : s.data.toList.length = s.size := by simp
  have hlen : ((s.data.toList.drop i).take (j - i)).length = j - i := by rw [List.length_take, List.length_drop, hl]; omega
  by_cases hlt : j < s.size
  · refine ⟨fun _ => .inr hlt, fun _ => ?_⟩
    rcases hs hlt with e | e
    · have := (run_spec s i j hij hj h (fun _ => e)).2
      exact .inr (.inr (by rw [this, drop_cons s j hlt]; simp))
    · by_cases hd : isDig s[j] = true
      · refine .inr (.inl ?_)
        have e2 : s.data.toList.drop i = ((s.data.toList.drop i).take (j - i)) ++ s[j] :: s.data.toList.drop (j + 1) := by
          have := List.take_append_drop (j - i) (s.data.toList.drop i)
          rw [List.drop_drop, show i + (j - i) = j by omega, drop_cons s j hlt] at this
          exact this.symm
        rw [e2, List.takeWhile_append_of_pos (List.all_eq_true.1 h), List.takeWhile_cons_of_pos hd, List.length_append, hlen]
        simp; omega
      · have := (run_spec s i j hij hj h (fun _ => by simpa using hd)).2
        exact .inr (.inr (by rw [this, drop_cons s j hlt]; simp))
  · have hr := run_spec s i j hij hj h (fun x => absurd x hlt)
    have hd : s.data.toList.drop j = [] := List.drop_of_length_le (by omega)
    rw [hr.1, hr.2, hlen, hd]
    constructor
    · rintro (e | e | e)
      · have := congrArg List.length e; rw [hlen] at this; simp at this; exact .inl (by omega)
      · omega
      · exact absurd rfl e
    · rintro (e | e)
      · exact .inl (List.length_eq_zero_iff.1 (by rw [hlen]; omega))
      · omega

theorem numOf_snoc (l : Bs) (c : UInt8) : numOf (l ++ [c]) = 10 * numOf l + ((c.toNat : Int) - 48) := by
  unfold numOf; rw [List.foldl_append]; rfl
theorem numOf_bound (l : Bs) (h : l.all isDig = true) (hl : l.length ≤ 9) : 0 ≤ numOf l ∧ numOf l < 1000000000 := by
  cases l with
  | nil => exact ⟨by decide, by decide⟩
  | cons c r => exact (atoi_digs (c :: r) h (by simp) hl).2

end Go.Proofs.YtjnkbifafbjckaaGreatDoor.Dc

/- Plain Lean: a decimal that is written. -/
namespace Go.Proofs.YtjnkbifafbjckaaGreatDoor.Dc
set_option linter.all false

theorem ba_app (a b : ByteArray) : (a ++ b).data.toList = a.data.toList ++ b.data.toList := by simp
end Go.Proofs.YtjnkbifafbjckaaGreatDoor.Dc

/- Plain Lean: what is written of a right decimal is read as it. -/
namespace Go.Proofs.YtjnkbifafbjckaaGreatDoor.Dc
set_option linter.all false

theorem takeWhile_app (f r : Bs) (hf : allDig f = true) (hr : ∀ c, r[0]? = some c → isDig c = false) : (f ++ r).takeWhile isDig = f := by
  rw [List.takeWhile_append_of_pos (fun c hc => List.all_eq_true.1 hf c hc)]
  cases r with
  | nil => simp
  | cons c r => rw [List.takeWhile_cons_of_neg (by simp [hr c rfl])]; simp
theorem dropWhile_app (f r : Bs) (hf : allDig f = true) (hr : ∀ c, r[0]? = some c → isDig c = false) : (f ++ r).dropWhile isDig = r := by
  rw [List.dropWhile_append_of_pos (fun c hc => List.all_eq_true.1 hf c hc)]
  cases r with
  | nil => rfl
  | cons c r => rw [List.dropWhile_cons_of_neg (by simp [hr c rfl])]

theorem dig_ne {c : UInt8} (h : isDig c = true) (k : UInt8) (hk : k.toNat < 48 ∨ 57 < k.toNat) : c ≠ k := by
  intro e; subst e; simp [isDig] at h; omega

theorem neg_strip (n : Bool) (t : Bs) (ht : ∀ c, t[0]? = some c → c ≠ 45) : Lib.hasPrefix ((if n then [45] else []) ++ t) [45] = n ∧ Lib.trimPrefix ((if n then [45] else []) ++ t) [45] = t := by
  cases n
  · have h : Lib.hasPrefix t [45] = false := by
      cases t with
      | nil => rfl
      | cons c t => have := ht c rfl; simp [Lib.hasPrefix, List.isPrefixOf]; exact fun e => this e.symm
    simp [Lib.trimPrefix, h]
  · simp [Lib.trimPrefix, Lib.hasPrefix, List.isPrefixOf]

theorem first_dig {f t : Bs} (hf : allDig f = true) (hne : f ≠ []) (c : UInt8) (h : (f ++ t)[0]? = some c) : c ≠ 45 := by
  cases f with
  | nil => exact absurd rfl hne
  | cons d f =>
    simp at h; subst h
    rw [allDig, List.all_cons, Bool.and_eq_true] at hf
    exact dig_ne hf.1 _ (by decide)

theorem parse_form (n : Bool) (f r : Bs) (hf : allDig f = true) (hne : f ≠ []) (hr : ∀ c, r[0]? = some c → isDig c = false ∧ c ≠ 46) : parse ((if n then [45] else []) ++ (f ++ r)) = tail n f 0 r := by
  obtain ⟨h1, h2⟩ := neg_strip n (f ++ r) (fun c h => first_dig hf hne c h)
  have h3 : Lib.hasPrefix r [46] = false := by
    cases r with
    | nil => rfl
    | cons c r => have := (hr c rfl).2; simp [Lib.hasPrefix, List.isPrefixOf]; exact fun e => this e.symm
  unfold parse
  simp only [h1, h2, takeWhile_app f r hf (fun c h => (hr c h).1), dropWhile_app f r hf (fun c h => (hr c h).1), h3]
  simp [hne]

theorem app_dig {a b : Bs} (ha : allDig a = true) (hb : allDig b = true) : allDig (a ++ b) = true := by
  rw [allDig, List.all_append]; unfold allDig at ha hb; rw [ha, hb]; rfl

theorem decDigits_dig (u : Nat) : allDig (Lib.decDigits u) = true ∧ numOf (Lib.decDigits u) = u ∧ Lib.decDigits u ≠ [] := by
  induction u using Nat.strongRecOn with
  | _ u ih =>
    have hd : ∀ k : Nat, k < 10 → isDig (UInt8.ofNat (48 + k)) = true ∧ ((UInt8.ofNat (48 + k)).toNat : Int) - 48 = k := by
      have : ∀ k : Fin 10, isDig (UInt8.ofNat (48 + k.val)) = true ∧ ((UInt8.ofNat (48 + k.val)).toNat : Int) - 48 = k.val := by decide
      exact fun k hk => this ⟨k, hk⟩
    by_cases h : u < 10
    · rw [Lib.decDigits, dif_pos h]
      obtain ⟨a, b⟩ := hd u h
      refine ⟨by rw [allDig, List.all_cons, a]; rfl, ?_, by simp⟩
      simp only [numOf, List.foldl_cons, List.foldl_nil]; omega
    · rw [Lib.decDigits, dif_neg h]
      obtain ⟨a, b⟩ := hd (u % 10) (Nat.mod_lt _ (by decide))
      obtain ⟨i1, i2, i3⟩ := ih (u / 10) (by omega)
      refine ⟨app_dig i1 (by rw [allDig, List.all_cons, a]; rfl), ?_, by simp⟩
      have e : numOf (Lib.decDigits (u / 10) ++ [UInt8.ofNat (48 + u % 10)]) = 10 * numOf (Lib.decDigits (u / 10)) + (((UInt8.ofNat (48 + u % 10)).toNat : Int) - 48) := by
        simp [numOf, List.foldl_append]
      rw [e, i2]; omega

theorem nDigits_le9 (u : Nat) (h : u ≤ 1000000) : (Lib.decDigits u).length ≤ 9 := by
  rw [Lib.decDigits_length]
  by_cases h0 : u = 0
  · subst h0; rw [Lib.nDigits_small (by decide)]; decide
  · by_cases hb : Lib.nDigits u ≤ 9
    · exact hb
    · exfalso
      have : ∀ k u : Nat, u < 10 ^ (k + 1) → Lib.nDigits u ≤ k + 1 := by
        intro k
        induction k with
        | zero => intro u hu; rw [Lib.nDigits_small (by simpa using hu)]; omega
        | succ k ih =>
          intro u hu
          by_cases h : u < 10
          · rw [Lib.nDigits_small h]; omega
          · rw [Lib.nDigits_big h]
            have := ih (u / 10) (by rw [Nat.pow_succ] at hu; omega)
            omega
      have := this 6 u (by omega)
      omega

theorem tail_e (n : Bool) (ds : Bs) (k : Nat) (c : UInt8) (u : Nat) (hc : c = 43 ∨ c = 45) (hu : u ≤ 1000000) : tail n ds k (101 :: c :: Lib.decDigits u) = mk n ds ((if c = 45 then -(u : Int) else u) - k) := by
  obtain ⟨h1, h2, h3⟩ := decDigits_dig u
  have h4 := takeWhile_app (Lib.decDigits u) [] h1 (by simp)
  have h5 := dropWhile_app (Lib.decDigits u) [] h1 (by simp)
  rw [List.append_nil] at h4 h5
  have h6 := nDigits_le9 u hu
  unfold tail
  simp only [if_pos hc, h4, h5, h2]
  rw [if_pos (by decide), if_neg (by simp [h3]; omega)]
  simp

end Go.Proofs.YtjnkbifafbjckaaGreatDoor.Dc

/- Plain Lean: rounding to places, as a number: what is rounded is the quotient by the unit, or one more. -/
namespace Go.Proofs.YtjnkbifafbjckaaGreatDoor.Dc
set_option linter.all false

theorem nv_rep (k : Nat) : nv (List.replicate k 48) = 0 := by
  induction k with
  | zero => rfl
  | succ k ih => rw [List.replicate_succ, nv_cons, ih]; simp
theorem nv_zeros {a : Bs} (h : ∀ c ∈ a, c = 48) : nv a = 0 := by
  have : a = List.replicate a.length 48 := List.eq_replicate_iff.2 ⟨rfl, h⟩
  rw [this, nv_rep]
theorem nv_front {a : Bs} (h : ∀ c ∈ a, c = 48) (l : Bs) : nv (a ++ l) = nv l := by rw [nv_app, nv_zeros h]; simp
theorem nv_back {z : Bs} (h : ∀ c ∈ z, c = 48) (l : Bs) : nv (l ++ z) = nv l * 10 ^ z.length := by rw [nv_app, nv_zeros h]; simp

theorem lead_split (l : Bs) : ∃ a, l = a ++ lead l ∧ ∀ c ∈ a, c = 48 := by
  refine ⟨l.takeWhile (· == 48), ?_, ?_⟩
  · rw [lead, Lib.trimLeftB, List.takeWhile_append_dropWhile]
  · intro c hc
    have := List.all_eq_true.1 (List.all_takeWhile (l := l) (p := (· == 48))) c hc
    simpa using this
theorem lead_core' (l : Bs) : ∃ z, lead l = core l ++ z ∧ ∀ c ∈ z, c = 48 := by
  by_cases h : core l = []
  · refine ⟨lead l, by rw [h]; rfl, ?_⟩
    have hs := List.takeWhile_append_dropWhile (p := (· == 48)) (l := (lead l).reverse)
    have h2 : (lead l).reverse.dropWhile (· == 48) = [] := by
      have := h; rw [core, Lib.trimRightB] at this; simpa using this
    rw [h2, List.append_nil] at hs
    intro c hc
    have := List.all_eq_true.1 (List.all_takeWhile (l := (lead l).reverse) (p := (· == 48))) c (by rw [hs]; simpa using hc)
    simpa using this
  · exact lead_core l h

/-- What is made of digits is their number. -/
theorem nv_core (l : Bs) : nv l = nv (core l) * 10 ^ tz l := by
  obtain ⟨a, h1, h2⟩ := lead_split l
  obtain ⟨z, h3, h4⟩ := lead_core' l
  have ht : tz l = z.length := by unfold tz; rw [h3, List.length_append]; omega
  conv => lhs; rw [h1, nv_front h2, h3, nv_back h4]
  rw [ht]

theorem mk_vv (n : Bool) (ds : Bs) (y : Int) (hd : allDig ds = true) (hy : -200000 ≤ y) (he : (mk n ds y).e = 0) :
    (mk n ds y).n = n ∧ right (mk n ds y).l (mk n ds y).x = true ∧ vv (mk n ds y).l (mk n ds y).x = nv ds * 10 ^ (y + lift).toNat := by
  by_cases h1 : core ds = []
  · rw [mk_zero hd h1]
    refine ⟨rfl, by simp [right], ?_⟩
    rw [nv_core, h1, nv_nil, vv_zero]; simp
  · by_cases h2 : right (core ds) (y + tz ds) = true
    · rw [mk_ok hd h1 h2]
      refine ⟨rfl, h2, ?_⟩
      show nv (core ds) * 10 ^ (y + tz ds + lift).toNat = _
      have e : nv ds * 10 ^ (y + lift).toNat = nv (core ds) * 10 ^ tz ds * 10 ^ (y + lift).toNat := by conv => lhs; rw [nv_core]
      rw [e, Nat.mul_assoc, ← Nat.pow_add]
      congr 2; unfold lift; omega
    · rw [mk_over hd h1 h2] at he; cases he

end Go.Proofs.YtjnkbifafbjckaaGreatDoor.Dc

/- Plain Lean: the decimal that a number is: it is right, has at most 767 digits, and is worth what the bits are worth. -/
namespace Go.Proofs.YtjnkbifafbjckaaGreatDoor.Fl
set_option linter.all false
open Go

theorem nv_dec (N : Nat) : Dc.nv (Lib.decDigits N) = N := (Na.dec_spec N).2.1
theorem dig_dec (N : Nat) : Dc.allDig (Lib.decDigits N) = true := (Dc.decDigits_dig N).1
theorem len_dec {N k : Nat} (h : N < 10 ^ (k + 1)) : (Lib.decDigits N).length ≤ k + 1 := (Na.padk_eq k N h).2

/-- The bits' worth, by their parts. -/
theorem V_parts (x : Nat) (h : kind x < 3) : V (x % 9223372036854775808) = mant x * 2 ^ (expn x + 1074).toNat ∧ x % 9223372036854775808 < 9218868437227405312 := by
  have hE : x % 9223372036854775808 / 4503599627370496 = expo x := by rw [expo]; omega
  have hF : x % 9223372036854775808 % 4503599627370496 = frac x := by rw [frac]; omega
  have hlt := frac_lt x
  have hE2 : expo x ≠ 2047 := by
    intro e; unfold kind at h; rw [if_pos e] at h; split at h <;> omega
  have hdm := Nat.div_add_mod (x % 9223372036854775808) 4503599627370496
  rw [hE, hF] at hdm
  have hE3 := expo_lt x
  refine ⟨?_, by omega⟩
  rw [V, hE, hF]
  by_cases h0 : expo x = 0
  · have hk : kind x < 2 := by unfold kind; rw [if_neg hE2, if_neg (by omega)]; split <;> omega
    rw [if_pos h0, mant, if_neg (by omega), if_pos hk, expn, if_neg (by omega), if_pos hk, h0]; rfl
  · have hk : kind x = 2 := by unfold kind; rw [if_neg hE2, if_pos (by omega)]
    rw [if_neg h0, mant, if_pos hk, expn, if_pos hk]
    congr 2; omega

/-- How many digits the decimal may have: bounds that are told by numbers without great exponents. -/
def n309 : Nat := 309
def n800 : Nat := 800
def n971 : Nat := 971
theorem bound_up : 2 ^ 54 * 2 ^ n971 ≤ 10 ^ n309 := by decide +kernel
theorem bound_mid : 2 ^ 54 * 5 ^ (low + 1) ≤ 10 ^ n800 := by decide +kernel
theorem dec_short {N c k : Nat} (h : N < c) (hc : c ≤ 10 ^ k) (hk : 0 < k) : (Lib.decDigits N).length ≤ k := by
  obtain ⟨d, rfl⟩ : ∃ d, k = d + 1 := ⟨k - 1, by omega⟩
  exact len_dec (Nat.lt_of_lt_of_le h hc)
theorem mid_len {m k K : Nat} (hm : m < 2 ^ 54) (hk : k ≤ K) (hK : K = low + 1) : (Lib.decDigits (m * 5 ^ k)).length ≤ 800 := by
  subst hK
  have h1 : m * 5 ^ k < 2 ^ 54 * 5 ^ (low + 1) := Nat.lt_of_lt_of_le (Nat.mul_lt_mul_of_pos_right hm (Nat.pow_pos (by decide))) (Nat.mul_le_mul_left _ (Nat.pow_le_pow_right (by decide) hk))
  exact dec_short (k := n800) h1 bound_mid (by decide)
theorem up_len {n k : Nat} (hn : n < 2 ^ 54) (hk : k ≤ n971) : (Lib.decDigits (n * 2 ^ k)).length ≤ 309 := by
  have h1 : n * 2 ^ k < 2 ^ 54 * 2 ^ n971 := Nat.lt_of_lt_of_le (Nat.mul_lt_mul_of_pos_right hn (Nat.pow_pos (by decide))) (Nat.mul_le_mul_left _ (Nat.pow_le_pow_right (by decide) hk))
  exact dec_short (k := n309) h1 bound_up (by decide)

/-- What is made of so many digits is no error. -/
theorem mk_fine (s : Bool) (l : Dc.Bs) (y : Int) (hd : Dc.allDig l = true) (hl : l.length ≤ 1000) (hy : -50000 ≤ y ∧ y ≤ 50000) : (Dc.mk s l y).e = 0 ∧ (Dc.mk s l y).l.length ≤ l.length := by
  have h1 := Dc.core_len l
  have h2 := Dc.lead_len l
  have h3 := Dc.tz_le l
  by_cases hc : Dc.core l = []
  · rw [Dc.mk_zero hd hc]; exact ⟨rfl, Nat.zero_le _⟩
  · rw [Dc.mk_ok hd hc ((Dc.right_core (y + Dc.tz l) hd hc).2 ⟨by omega, by omega, by omega⟩)]
    exact ⟨rfl, by show (Dc.core l).length ≤ l.length; omega⟩

/-- The nearest binary64 to a decimal, without the sign. -/
def bits (l : Dc.Bs) (x : Int) : Nat :=
  if 0 ≤ x then rd (Dc.nv l * 10 ^ x.toNat) 0 false
  else rd (Dc.nv l * 2 ^ (Na.bitLen (10 ^ (-x).toNat) + 70) / 10 ^ (-x).toNat) (-((Na.bitLen (10 ^ (-x).toNat) + 70 : Nat) : Int)) (decide (Dc.nv l * 2 ^ (Na.bitLen (10 ^ (-x).toNat) + 70) % 10 ^ (-x).toNat ≠ 0))

/-- A quotient, and whether anything is left, rounded: the nearest to n / b. -/
theorem quot_near {n b k : Nat} (hb : 0 < b) (hlong : n = 0 ∨ 54 ≤ Na.bitLen (n * 2 ^ k / b)) : Near (n * 2 ^ low) b (rd (n * 2 ^ k / b) (-(k : Int)) (decide (n * 2 ^ k % b ≠ 0))) := by
  have hdm := Nat.div_add_mod (n * 2 ^ k) b
  have hml := Nat.mod_lt (n * 2 ^ k) hb
  have hlow : low = 1074 := rfl
  refine rd_near (p := low) (q := k) hb (by omega) (fun h => ?_) (fun h => ?_) (fun h => ?_)
  · rcases hlong with h0 | h0
    · rw [h0, Nat.zero_mul] at h; simp at h
    · exact h0
  · have h0 : n * 2 ^ k % b = 0 := by have := of_decide_eq_false h; simpa using this
    rw [h0, Nat.add_zero] at hdm
    calc n * 2 ^ low * 2 ^ k = n * 2 ^ k * 2 ^ low := Nat.mul_right_comm _ _ _
      _ = b * (n * 2 ^ k / b) * 2 ^ low := by rw [hdm]
      _ = n * 2 ^ k / b * 2 ^ low * b := by rw [Nat.mul_comm b, Nat.mul_right_comm]
  · have h0 : n * 2 ^ k % b ≠ 0 := of_decide_eq_true h
    obtain ⟨t, ht⟩ : ∃ t, t = n * 2 ^ k / b := ⟨_, rfl⟩
    rw [← ht] at hdm ⊢
    have hp : 0 < 2 ^ low := Nat.pow_pos (by decide)
    rw [Nat.mul_right_comm n, Nat.mul_right_comm t, Nat.mul_right_comm (t + 1)]
    constructor
    · exact Nat.mul_lt_mul_of_pos_right (by rw [Nat.mul_comm]; omega) hp
    · refine Nat.mul_lt_mul_of_pos_right ?_ hp
      rw [Nat.add_mul, Nat.one_mul, Nat.mul_comm t]; omega
theorem quot_long {n b k : Nat} (hn : 0 < n) (hb : 0 < b) (hk : Na.bitLen b + 54 ≤ k + Na.bitLen n) : 54 ≤ Na.bitLen (n * 2 ^ k / b) := by
  obtain ⟨b1, b2, b3⟩ := bitLen_ge (n := b) (by omega)
  obtain ⟨n1, n2, n3⟩ := bitLen_ge (n := n) (by omega)
  have hq : 2 ^ 53 ≤ n * 2 ^ k / b := by
    rw [Nat.le_div_iff_mul_le hb]
    have e1 : 2 ^ 53 * b ≤ 2 ^ 53 * 2 ^ Na.bitLen b := Nat.mul_le_mul_left _ (Nat.le_of_lt b2)
    have e2 : 2 ^ (Na.bitLen n - 1) * 2 ^ k ≤ n * 2 ^ k := Nat.mul_le_mul_right _ n1
    rw [← Nat.pow_add] at e1 e2
    exact Nat.le_trans e1 (Nat.le_trans (Nat.pow_le_pow_right (by decide) (by omega)) e2)
  obtain ⟨q1, q2, q3⟩ := bitLen_ge (n := n * 2 ^ k / b) (by have : 0 < 2 ^ 53 := by decide
                                                            omega)
  have := (Nat.pow_lt_pow_iff_right (a := 2) (by decide)).1 (Nat.lt_of_le_of_lt hq q2)
  omega
/-- One scale for all decimals: the value in units of 2^-1074 is vv 2^1074 / 10^lift. -/
theorem near_scale {l : Dc.Bs} {x : Int} {b : Nat} (hx : -100000 ≤ x) : Near (Dc.vv l x * 2 ^ low) (10 ^ Dc.lift) b ↔ (if 0 ≤ x then Near (Dc.nv l * 10 ^ x.toNat * 2 ^ low) 1 b else Near (Dc.nv l * 2 ^ low) (10 ^ (-x).toNat) b) := by
  have sc : ∀ X D c : Nat, 0 < c → (Near (X * c) (D * c) b ↔ Near X D b) := fun X D c hc => by
    have e1 : ∀ z : Nat, z * (D * c) < 2 * (X * c) ↔ z * D < 2 * X := fun z => by
      rw [← Nat.mul_assoc, ← Nat.mul_assoc]; exact ⟨fun h => Nat.lt_of_mul_lt_mul_right h, fun h => Nat.mul_lt_mul_of_pos_right h hc⟩
    have e2 : ∀ z : Nat, z * (D * c) = 2 * (X * c) ↔ z * D = 2 * X := fun z => by
      rw [← Nat.mul_assoc, ← Nat.mul_assoc]; exact ⟨fun h => Nat.eq_of_mul_eq_mul_right hc h, fun h => by rw [h]⟩
    have e3 : ∀ z : Nat, 2 * (X * c) < z * (D * c) ↔ 2 * X < z * D := fun z => by
      rw [← Nat.mul_assoc, ← Nat.mul_assoc]; exact ⟨fun h => Nat.lt_of_mul_lt_mul_right h, fun h => Nat.mul_lt_mul_of_pos_right h hc⟩
    have e4 : ∀ z : Nat, 2 * (X * c) = z * (D * c) ↔ 2 * X = z * D := fun z => by
      rw [← Nat.mul_assoc, ← Nat.mul_assoc]; exact ⟨fun h => Nat.eq_of_mul_eq_mul_right hc h, fun h => by rw [h]⟩
    unfold Near
    rw [e1, e2, e3, e4]
  have hlift : Dc.lift = 200000 := rfl
  by_cases h0 : 0 ≤ x
  · rw [if_pos h0, ← sc (Dc.nv l * 10 ^ x.toNat * 2 ^ low) 1 (10 ^ Dc.lift) (Nat.pow_pos (by decide)), Nat.one_mul, Dc.vv, show (x + (Dc.lift : Int)).toNat = x.toNat + Dc.lift by omega, Nat.pow_add, ← Nat.mul_assoc, Nat.mul_right_comm _ (10 ^ Dc.lift)]
  · obtain ⟨k, hk⟩ : ∃ k : Nat, k = (-x).toNat := ⟨_, rfl⟩
    obtain ⟨c, hc⟩ : ∃ c, Dc.lift = k + c := ⟨Dc.lift - k, by omega⟩
    rw [if_neg h0, ← hk, ← sc (Dc.nv l * 2 ^ low) (10 ^ k) (10 ^ c) (Nat.pow_pos (by decide)), ← Nat.pow_add, ← hc, Dc.vv, show (x + (Dc.lift : Int)).toNat = c by omega, Nat.mul_right_comm]
theorem bits_near (l : Dc.Bs) (x : Int) (hx : -100000 ≤ x) : Near (Dc.vv l x * 2 ^ low) (10 ^ Dc.lift) (bits l x) := by
  rw [near_scale hx]
  have hlow : low = 1074 := rfl
  by_cases h0 : 0 ≤ x
  · rw [if_pos h0, bits, if_pos h0]
    exact rd_near (p := low) (q := 0) (by decide) (by omega) (fun h => by cases h) (fun _ => by rw [Nat.pow_zero, Nat.mul_one]) (fun h => by cases h)
  · rw [if_neg h0, bits, if_neg h0]
    refine quot_near (Nat.pow_pos (by decide)) ?_
    by_cases hn : Dc.nv l = 0
    · exact Or.inl hn
    · refine Or.inr (quot_long (by omega) (Nat.pow_pos (by decide)) ?_)
      have := (bitLen_ge hn).2.2
      omega
/-- A nearest is the bits. -/
theorem bits_eq {l : Dc.Bs} {x : Int} {b : Nat} (hx : -100000 ≤ x) (h : Near (Dc.vv l x * 2 ^ low) (10 ^ Dc.lift) b) : b = bits l x :=
  near_eq (Nat.pow_pos (by decide)) (Nat.pow_pos (by decide)) rfl h (bits_near l x hx)
end Go.Proofs.YtjnkbifafbjckaaGreatDoor.Fl

/- Plain Lean: how the reference reads a right decimal: the ends, and the quotient to any length. -/
namespace Go.Proofs.YtjnkbifafbjckaaGreatDoor.Fl
set_option linter.all false

theorem bits_nil : bits [] 0 = 0 := by
  rw [bits, if_pos (by omega), Dc.nv_nil, Nat.zero_mul, rd, if_pos rfl]

def n400 : Nat := 400
def n401 : Nat := 401
def n2046 : Nat := 2046
theorem bound_small : 2 * 2 ^ low ≤ 10 ^ n401 := by decide +kernel
theorem bound_big : 4503599627370496 * 2 ^ n2046 ≤ 10 ^ n400 * 2 ^ low := by decide +kernel
theorem V_inf : V 9218868437227405312 = 4503599627370496 * 2 ^ n2046 := V_form n2046 4503599627370496 (Or.inr ⟨Nat.le_refl _, by decide⟩)
theorem V_one : V 1 = 1 := by
  have := V_form 0 1 (Or.inl ⟨rfl, by decide⟩)
  simpa using this

theorem bits_small {l : Dc.Bs} {x : Int} (h : Dc.right l x = true) (hne : l ≠ []) (hp : (l.length : Int) + x < -400) : bits l x = 0 := by
  have hx := (Dc.right_exp h).1
  refine (bits_eq hx ⟨by decide, Or.inl rfl, Or.inr (Or.inl ?_)⟩).symm
  have hv := (Dc.vv_bounds h hne).2
  have hl : Dc.lift = 200000 := rfl
  obtain ⟨c, hc⟩ : ∃ c, Dc.lift = c + n401 := ⟨Dc.lift - n401, by unfold n401; omega⟩
  have h4 : n401 = 401 := rfl
  have hv2 : Dc.vv l x < 10 ^ c := Nat.lt_of_lt_of_le hv (Nat.pow_le_pow_right (by decide) (by omega))
  rw [Nat.zero_add, V_zero, V_one, Nat.zero_add, Nat.one_mul, hc, Nat.pow_add]
  have h1 : 2 * (Dc.vv l x * 2 ^ low) = Dc.vv l x * (2 * 2 ^ low) := by rw [Nat.mul_left_comm]
  rw [h1]
  exact Nat.lt_of_le_of_lt (Nat.mul_le_mul_left _ bound_small) (Nat.mul_lt_mul_of_pos_right hv2 (Nat.pow_pos (by decide)))

theorem bits_big {l : Dc.Bs} {x : Int} (h : Dc.right l x = true) (hne : l ≠ []) (hp : 400 < (l.length : Int) + x) : bits l x = 9218868437227405312 := by
  have hx := (Dc.right_exp h).1
  refine (bits_eq hx ⟨Nat.le_refl _, Or.inr (Or.inl ?_), Or.inl rfl⟩).symm
  have hv := (Dc.vv_bounds h hne).1
  have hl : Dc.lift = 200000 := rfl
  have h4 : n400 = 400 := rfl
  have hv2 : 10 ^ n400 * 10 ^ Dc.lift ≤ Dc.vv l x := by
    rw [← Nat.pow_add]
    exact Nat.le_trans (Nat.pow_le_pow_right (by decide) (by omega)) hv
  have hlt : V (9218868437227405312 - 1) < V 9218868437227405312 := V_lt (by decide)
  have hD : 0 < 10 ^ Dc.lift := Nat.pow_pos (by decide)
  have h1 : (V (9218868437227405312 - 1) + V 9218868437227405312) * 10 ^ Dc.lift < 2 * (V 9218868437227405312) * 10 ^ Dc.lift := Nat.mul_lt_mul_of_pos_right (by omega) hD
  refine Nat.lt_of_lt_of_le h1 ?_
  rw [Nat.mul_assoc]
  refine Nat.mul_le_mul_left _ ?_
  rw [V_inf]
  refine Nat.le_trans (Nat.mul_le_mul_right _ bound_big) ?_
  rw [Nat.mul_right_comm]
  exact Nat.mul_le_mul_right _ hv2

theorem bits_quot {l : Dc.Bs} {x : Int} {k : Nat} (hx : -100000 ≤ x) (h0 : x < 0) (hn : 0 < Dc.nv l) (hk : Na.bitLen (10 ^ (-x).toNat) + 54 ≤ k + Na.bitLen (Dc.nv l)) :
    rd (Dc.nv l * 2 ^ k / 10 ^ (-x).toNat) (-(k : Int)) (decide (Dc.nv l * 2 ^ k % 10 ^ (-x).toNat ≠ 0)) = bits l x := by
  refine bits_eq hx ?_
  rw [near_scale hx, if_neg (by omega)]
  exact quot_near (Nat.pow_pos (by decide)) (Or.inr (quot_long hn (Nat.pow_pos (by decide)) hk))
theorem bits_whole {l : Dc.Bs} {x : Int} (h0 : 0 ≤ x) : rd (Dc.nv l * 10 ^ x.toNat) 0 false = bits l x := by
  rw [bits, if_pos h0]

/-- A number's sign and its bits. -/
def wsign (s : Bool) : Nat := if s then 9223372036854775808 else 0
end Go.Proofs.YtjnkbifafbjckaaGreatDoor.Fl

/- Plain Lean: the other sign of a number. -/
namespace Go.Proofs.YtjnkbifafbjckaaGreatDoor.Fl
set_option linter.all false

end Go.Proofs.YtjnkbifafbjckaaGreatDoor.Fl

/- Plain Lean: the decimals of numbers, and of middles, by their size. -/
namespace Go.Proofs.YtjnkbifafbjckaaGreatDoor.Fl
set_option linter.all false
open Go

theorem expn_j (x : Nat) (h : kind x < 3) : (expn x + 1074).toNat = x % 9223372036854775808 / 4503599627370496 - 1 := by
  have hE : x % 9223372036854775808 / 4503599627370496 = expo x := by rw [expo]; omega
  have hE2 : expo x ≠ 2047 := by
    intro e; unfold kind at h; rw [if_pos e] at h; split at h <;> omega
  rw [hE]
  by_cases h0 : expo x = 0
  · have hk : kind x < 2 := by unfold kind; rw [if_neg hE2, if_neg (by omega)]; split <;> omega
    rw [expn, if_neg (by omega), if_pos hk, h0]; rfl
  · have hk : kind x = 2 := by unfold kind; rw [if_neg hE2, if_pos (by omega)]
    rw [expn, if_pos hk]; omega
theorem V_next (x : Nat) (h : kind x < 3) : V (x % 9223372036854775808 + 1) = (mant x + 1) * 2 ^ (expn x + 1074).toNat := by
  obtain ⟨j, m, -, -, h1, h2, hj⟩ := V_split (x % 9223372036854775808)
  obtain ⟨hp, -⟩ := V_parts x h
  rw [← expn_j x h] at hj
  rw [h1, ← hj] at hp
  rw [h2, ← hj, Nat.eq_of_mul_eq_mul_right (Nat.pow_pos (by decide)) hp]

end Go.Proofs.YtjnkbifafbjckaaGreatDoor.Fl

/- Plain Lean: the nearest fraction of all denominators up to a bound. -/
namespace Go.Proofs.YtjnkbifafbjckaaGreatDoor.Fl
set_option linter.all false
open Go

/-- How far p / q is from r / u, times q and u. -/
def gap (r u p q : Nat) : Nat := if r * q < u * p then u * p - r * q else r * q - u * p
/-- Is p / q nearer than b? -/
def nearer (r u p q : Nat) (b : Nat × Nat) : Bool := decide (gap r u p q * b.2 < gap r u b.1 b.2 * q)
def pick (r u p q : Nat) (b : Nat × Nat) : Nat × Nat := if nearer r u p q b = true then (p, q) else b
/-- The two fractions with q for a denominator are tried. -/
def turn (r u : Nat) (b : Nat × Nat) (q : Nat) : Nat × Nat := pick r u (r * q / u + 1) q (pick r u (r * q / u) q b)
/-- A fraction, and an error. -/
structure Frac where
  d : Dc.Res
  p : Int
  q : Int
  e : Int
end Go.Proofs.YtjnkbifafbjckaaGreatDoor.Fl

/- Plain Lean: a number of eighths is told as it is; naturals of 53 bits. -/
namespace Go.Proofs.YtjnkbifafbjckaaGreatDoor.Fl
set_option linter.all false
open Go

/-- A normal number's parts. -/
theorem form_parts (j m : Nat) (hj : j ≤ 2045) (h1 : 4503599627370496 ≤ m) (h2 : m < 9007199254740992) : kind (j * 4503599627370496 + m) = 2 ∧ mant (j * 4503599627370496 + m) = m ∧ expn (j * 4503599627370496 + m) = (j : Int) - 1074 ∧
    neg (j * 4503599627370496 + m) = false ∧ V (j * 4503599627370496 + m) = m * 2 ^ j ∧ j * 4503599627370496 + m < 9218868437227405312 := by
  have hE : expo (j * 4503599627370496 + m) = j + 1 := by unfold expo; omega
  have hF : frac (j * 4503599627370496 + m) = m - 4503599627370496 := by unfold frac; omega
  have hk : kind (j * 4503599627370496 + m) = 2 := by unfold kind; rw [hE, if_neg (by omega), if_pos (by omega)]
  refine ⟨hk, by rw [mant, if_pos hk, hF]; omega, by rw [expn, if_pos hk, hE]; omega, decide_eq_false (by omega), V_form j m (Or.inr ⟨h1, by omega⟩), by omega⟩
/-- A natural of 53 bits, shifted up to its full length. -/
theorem nat_full (D : Nat) (h0 : 0 < D) (hD : D < 9007199254740992) : ∃ t : Nat, t ≤ 52 ∧ 4503599627370496 ≤ D * 2 ^ t ∧ D * 2 ^ t < 9007199254740992 := by
  obtain ⟨a1, a2, a3⟩ := bitLen_ge (n := D) (by omega)
  have hl : Na.bitLen D ≤ 53 := by
    rcases Nat.lt_or_ge 53 (Na.bitLen D) with h | h
    · have : 2 ^ 53 ≤ 2 ^ (Na.bitLen D - 1) := Nat.pow_le_pow_right (by decide) (by omega)
      omega
    · exact h
  refine ⟨53 - Na.bitLen D, by omega, ?_, ?_⟩
  · have := Nat.mul_le_mul_right (2 ^ (53 - Na.bitLen D)) a1
    rw [← Nat.pow_add, show Na.bitLen D - 1 + (53 - Na.bitLen D) = 52 by omega] at this
    exact this
  · have := Nat.mul_lt_mul_of_pos_right a2 (show 0 < 2 ^ (53 - Na.bitLen D) from Nat.pow_pos (by decide))
    rw [← Nat.pow_add, show Na.bitLen D + (53 - Na.bitLen D) = 53 by omega] at this
    exact this
end Go.Proofs.YtjnkbifafbjckaaGreatDoor.Fl
