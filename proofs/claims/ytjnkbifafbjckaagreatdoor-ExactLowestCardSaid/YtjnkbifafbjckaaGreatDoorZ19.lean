/- Plain Lean: a decimal that is written. -/
import Derived.Test.YtjnkbifafbjckaaGreatDoorZ8
import Derived.Lib.ItoaNum
import Derived.Lib.IndexBytes
import Derived.Test.YtjnkbifafbjckaaGreatDoorZ1
import Derived.Test.YtjnkbifafbjckaaGreatDoorZ16
import Derived.Lib.AtoiAll
namespace Go.Proofs.YtjnkbifafbjckaaGreatDoor.Dc
set_option linter.all false

/-- A decimal's text behind its sign. -/
def body (s l : Bs) (p : Int) : Bs :=
  if l = [] then s ++ [48]
  else if 1 ≤ p ∧ p ≤ 21 ∧ (l.length : Int) ≤ p then s ++ l ++ Lib.repeatL [48] (p - l.length).toNat
  else if 1 ≤ p ∧ p ≤ 21 then s ++ l.take p.toNat ++ [46] ++ l.drop p.toNat
  else if -5 ≤ p ∧ p ≤ 0 then s ++ [48, 46] ++ Lib.repeatL [48] (-p).toNat ++ l
  else
    let t := if 1 < l.length then s ++ l.take 1 ++ ([46] ++ l.drop 1) else s ++ l.take 1
    if p < 1 then t ++ [101, 45] ++ Lib.itoa (1 - p) else t ++ [101, 43] ++ Lib.itoa (p - 1)

def print (n : Bool) (l : Bs) (x : Int) : Bs :=
  if right l x = true then body (if n then [45] else []) l (l.length + x) else []

theorem ba_eq (s : ByteArray) (l : Bs) (h : s.data.toList = l) : s = ⟨l.toArray⟩ := by rw [← h]
theorem ba_app (a b : ByteArray) : (a ++ b).data.toList = a.data.toList ++ b.data.toList := by simp
theorem itoa_len (n : Int) (h : -1000000 ≤ n ∧ n ≤ 1000000) : (Lib.itoa n).length ≤ 30 := by
  have hd : ∀ u : Nat, u ≤ 1000000 → (Lib.decDigits u).length ≤ 29 := fun u hu => by
    rw [Lib.decDigits_length]
    have : ∀ k u : Nat, u < 10 ^ k → Lib.nDigits u ≤ k + 1 := by
      intro k
      induction k with
      | zero => intro u hu; rw [Lib.nDigits_small (by simp at hu; omega)]; omega
      | succ k ih =>
        intro u hu
        by_cases h : u < 10
        · rw [Lib.nDigits_small h]; omega
        · rw [Lib.nDigits_big h]
          have := ih (u / 10) (by rw [Nat.pow_succ] at hu; omega)
          omega
    have := this 7 u (by omega)
    omega
  unfold Lib.itoa
  split
  · rw [List.length_cons]; have := hd n.natAbs (by omega); omega
  · have := hd n.toNat (by omega); omega

end Go.Proofs.YtjnkbifafbjckaaGreatDoor.Dc

namespace Go.Proofs.YtjnkbifafbjckaaGreatDoor
set_option linter.all false
open Go.RowKit

/-- The digit at a place: a nought outside. -/
def digAt (s : ByteArray) (i : Int) : UInt8 := if h : 0 ≤ i ∧ i < s.size then s[i.toNat]'(by omega) else 48
theorem digAt_in (s : ByteArray) (i : Int) (k : Nat) (hk : k < s.size) (e : (k : Int) = i) : s[k] = digAt s i := by
  subst e
  rw [digAt, dif_pos ⟨by omega, by omega⟩]
  simp
theorem digAt_out (s : ByteArray) (i : Int) (h : i < 0 ∨ s.size ≤ i) : digAt s i = 48 := by
  rw [digAt, dif_neg (by omega)]

set_option maxHeartbeats 400000 in
theorem r7_at_any (n : Bool) (s : ByteArray) (x pl i : Int) (w : World) (hs : s.size ≤ 1000000) (hx : -1000000 ≤ x ∧ x ≤ 1000000) (hi : -10000000 ≤ i ∧ i ≤ 10000000) (hpl : pl = (s.size : Int) - 1 + x - i) :
    Calls Tryz.prog 92 #[.agg #[.bool n, .string s, .int .i64 x], .int .i64 pl] w (RetB (.int .u8 (digAt s i).toNat) w) := by
  obtain ⟨hx1, hx2⟩ := hx
  obtain ⟨hi1, hi2⟩ := hi
  have he : (s.size : Int) - 1 + x - pl = i := by omega
  have hp1 : -20000000 ≤ pl ∧ pl ≤ 20000000 := by omega
  obtain ⟨hp1, hp2⟩ := hp1
  obtain ⟨r, hr⟩ : ∃ r, r = digAt s i := ⟨_, rfl⟩
  rw [← hr]
  have HR := Lib.hid hr; have HE := Lib.hid he; clear hr hpl he
  go_enter Tryz.func92, Tryz.ntmps92
  go_wp2_with fail
  all_goals go_ret
  · have h1 : (s.size : Int) - 1 + x - pl < 0 ∨ (s.size : Int) ≤ s.size - 1 + x - pl := by assumption
    exact RetB.of (by rw [HR.out, digAt_out s i (by have := HE.out; omega)]; rfl) (by (repeat (first | exact Below.refl _ _ | assumption | refine Below.setCell ?_ (by first | omega | (simp <;> omega)) _ | refine Below.alloc ?_ (by first | omega | (simp <;> omega)) _ | refine Below.drew ?_ | refine below_drewN' ?_ _)))
  · have h1 : 0 ≤ (s.size : Int) - 1 + x - pl ∧ (s.size : Int) - 1 + x - pl < s.size := by assumption
    exact RetB.of (by rw [HR.out, ← digAt_in s i ((s.size : Int) - 1 + x - pl).toNat (by omega) (by rw [← HE.out]; omega)]; rfl) (by (repeat (first | exact Below.refl _ _ | assumption | refine Below.setCell ?_ (by first | omega | (simp <;> omega)) _ | refine Below.alloc ?_ (by first | omega | (simp <;> omega)) _ | refine Below.drew ?_ | refine below_drewN' ?_ _)))
  · exact RetB.of (by rw [HR.out, digAt_out s i (by have := HE.out; omega)]; rfl) (by (repeat (first | exact Below.refl _ _ | assumption | refine Below.setCell ?_ (by first | omega | (simp <;> omega)) _ | refine Below.alloc ?_ (by first | omega | (simp <;> omega)) _ | refine Below.drew ?_ | refine below_drewN' ?_ _)))

end Go.Proofs.YtjnkbifafbjckaaGreatDoor

namespace Go.Proofs.YtjnkbifafbjckaaGreatDoor
set_option linter.all false
open Go.RowKit
attribute [local go_sem] Dc.Res.val

theorem dec_one (k : Nat) (h : k < 10) : ((⟨#[48, 49, 50, 51, 52, 53, 54, 55, 56, 57]⟩ : ByteArray).extract k (k + 1)) = ⟨(Lib.itoa k).toArray⟩ := by
  have h1 : ∀ k : Fin 10, ((⟨#[48, 49, 50, 51, 52, 53, 54, 55, 56, 57]⟩ : ByteArray).extract k.val (k.val + 1)) = ⟨[UInt8.ofNat (48 + k.val)].toArray⟩ := by decide +kernel
  rw [h1 ⟨k, h⟩, Lib.itoa, if_neg (by omega), Int.toNat_natCast, Lib.decDigits, dif_pos h]
theorem dec_more (k : Nat) (h : ¬ k < 10) : (⟨(Lib.itoa ((k / 10 : Nat) : Int)).toArray⟩ : ByteArray) ++ ⟨(Lib.itoa ((k % 10 : Nat) : Int)).toArray⟩ = ⟨(Lib.itoa k).toArray⟩ := by
  rw [Lib.itoa, if_neg (by omega), Lib.itoa, if_neg (by omega), Lib.itoa, if_neg (by omega), Int.toNat_natCast, Int.toNat_natCast, Int.toNat_natCast]
  conv => rhs; rw [Lib.decDigits, dif_neg h]
  rw [ByteArray.mk_append_mk, Lib.decDigits_one (i := k % 10) (by omega)]

theorem r7_number_small (k : Nat) (w : World) (h : k < 10) : Calls Tryz.prog 93 #[.int .i64 k] w (Ret0 (.string ⟨(Lib.itoa k).toArray⟩) w) := by
  have h1 := dec_one k h
  have H1 := Lib.hid h1; clear h1
  go_enter Tryz.func93, Tryz.ntmps93
  go_wp2_with fail
  go_ret
  exact Ret0.of (by rw [← H1.out]; rfl)
set_option maxHeartbeats 400000 in
theorem r7_number_any (k : Nat) : ∀ (w : World), k ≤ 1000000 → Calls Tryz.prog 93 #[.int .i64 k] w (RetB (.string ⟨(Lib.itoa k).toArray⟩) w) := by
  induction k using Nat.strongRecOn with
  | _ k ih =>
    intro w hb
    by_cases h : k < 10
    · exact (r7_number_small k w h).mono fun _ _ e => ⟨e.1, by rw [← e.2]; exact Below.refl _ _⟩
    · have h1 := dec_more k h
      have h2 := fun w => ih (k / 10) (by omega) w (by omega)
      have h3 := fun w => r7_number_small (k % 10) w (by omega)
      have hl1 : (⟨(Lib.itoa ((k / 10 : Nat) : Int)).toArray⟩ : ByteArray).size ≤ 30 := by rw [size_mk]; exact Dc.itoa_len _ (by omega)
      have hl2 : (⟨(Lib.itoa ((k % 10 : Nat) : Int)).toArray⟩ : ByteArray).size ≤ 30 := by rw [size_mk]; exact Dc.itoa_len _ (by omega)
      obtain ⟨a, ha⟩ : ∃ a : ByteArray, a = ⟨(Lib.itoa ((k / 10 : Nat) : Int)).toArray⟩ := ⟨_, rfl⟩
      obtain ⟨b, hb'⟩ : ∃ b : ByteArray, b = ⟨(Lib.itoa ((k % 10 : Nat) : Int)).toArray⟩ := ⟨_, rfl⟩
      rw [← ha] at h1 h2 hl1
      rw [← hb'] at h1 h3 hl2
      rw [show ((k / 10 : Nat) : Int) = (k : Int) / 10 by omega] at h2
      rw [show ((k % 10 : Nat) : Int) = (k : Int) % 10 by omega] at h3
      have H1 := Lib.hid h1; have H2 := Lib.hid h2; have H3 := Lib.hid h3; clear h1 h2 h3 ih ha hb'
      go_enter Tryz.func93, Tryz.ntmps93
      go_wp2_with (first
        | (go_at_call 93; (with_reducible refine (H2.out _).mono ?_); rintro e w1 ⟨rfl, hb_w1⟩; have hB_w1 : Below (w).heap.size (w) w1 := Below.trans (by (repeat (first | exact Below.refl _ _ | assumption | refine Below.setCell ?_ (by first | omega | (simp <;> omega)) _ | refine Below.alloc ?_ (by first | omega | (simp <;> omega)) _ | refine Below.drew ?_ | refine below_drewN' ?_ _))) (hb_w1.mono (by first | omega | (simp <;> omega))); obtain ⟨hc_w1, hf_w1⟩ := bcell hb_w1; have hz_w1 := hb_w1.size; (try simp only [size_drew', size_drewN', World.size_alloc, World.size_setCell] at hz_w1))
        | (go_at_call 93; (with_reducible refine (H3.out _).mono ?_); rintro e w' ⟨rfl, rfl⟩))
      go_ret
      exact RetB.of (by rw [← H1.out]; rfl) (by (repeat (first | exact Below.refl _ _ | assumption | refine Below.setCell ?_ (by first | omega | (simp <;> omega)) _ | refine Below.alloc ?_ (by first | omega | (simp <;> omega)) _ | refine Below.drew ?_ | refine below_drewN' ?_ _)))

end Go.Proofs.YtjnkbifafbjckaaGreatDoor

/- Plain Lean: digits and one, place for place from behind. -/
namespace Go.Proofs.YtjnkbifafbjckaaGreatDoor.Dc
set_option linter.all false

theorem rep_replicate (m : Nat) : Lib.repeatL [48] m = List.replicate m 48 := by
  induction m with
  | zero => rfl
  | succ m ih => rw [Lib.repeatL, ih, List.replicate_succ]; rfl

/-- The first j digits as they were, noughts behind them. -/
def rowAt (K : Bs) (j : Nat) : Bs := K.take j ++ List.replicate (K.length - j) 48
theorem rowAt_len (K : Bs) (j : Nat) (h : j ≤ K.length) : (rowAt K j).length = K.length := by simp [rowAt]; omega
theorem rowAt_all (K : Bs) : rowAt K K.length = K := by simp [rowAt]
theorem rowAt_get (K : Bs) (j i : Nat) (h : j ≤ K.length) (hi : i < j) : (rowAt K j)[i]? = K[i]? := by
  rw [rowAt, List.getElem?_append_left (by rw [List.length_take]; omega), List.getElem?_take_of_lt hi]
theorem rowAt_inc (K : Bs) (j : Nat) (h : 0 < j) (hj : j ≤ K.length) (c : UInt8) : (rowAt K j).set (j - 1) c = K.take (j - 1) ++ [c] ++ List.replicate (K.length - j) 48 := by
  have hs : K.take j = K.take (j - 1) ++ [K[j - 1]'(by omega)] := by
    conv => lhs; rw [show j = j - 1 + 1 by omega]
    rw [List.take_succ_eq_append_getElem (by omega)]
  have hl : (K.take (j - 1)).length = j - 1 := by rw [List.length_take]; omega
  rw [rowAt, hs, List.append_assoc, List.set_append_right _ _ (by omega), hl, Nat.sub_self]
  simp
theorem rowAt_set (K : Bs) (j : Nat) (h : 0 < j) (hj : j ≤ K.length) : (rowAt K j).set (j - 1) 48 = rowAt K (j - 1) := by
  rw [rowAt_inc K j h hj, rowAt, List.append_assoc, show K.length - (j - 1) = K.length - j + 1 by omega, List.replicate_succ]
  rfl

theorem no9_at (K : Bs) (j : Nat) (h : ∀ c ∈ K.drop j, c = 57) (h2 : ∀ c, (K.take j).getLast? = some c → c ≠ 57) : no9 K = K.take j := by
  rw [no9, Lib.trimRightB]
  conv => lhs; rw [← List.take_append_drop j K]
  rw [List.reverse_append, List.dropWhile_append_of_pos (fun c hc => by rw [h c (List.mem_reverse.1 hc)]; rfl)]
  cases hr : (K.take j).reverse with
  | nil => rw [List.dropWhile_nil]; have := List.reverse_eq_nil_iff.1 hr; rw [this]; rfl
  | cons c r =>
    have hh : (K.take j).getLast? = some c := by rw [List.getLast?_eq_head?_reverse, hr]; rfl
    rw [List.dropWhile_cons_of_neg (by simpa using h2 c hh), ← hr, List.reverse_reverse]

theorem more_nines (K : Bs) (h : ∀ c ∈ K, c = 57) : more K = 49 :: List.replicate K.length 48 := by
  have h1 := no9_at K 0 h (by simp)
  rw [List.take_zero] at h1
  rw [more_nil h1, h1, rep_replicate]; rfl
theorem more_at (K : Bs) (j : Nat) (h0 : 0 < j) (hj : j ≤ K.length) (h : ∀ c ∈ K.drop j, c = 57) (c : UInt8) (hc : K[j - 1]? = some c) (hne : c ≠ 57) : more K = (rowAt K j).set (j - 1) (c + 1) := by
  have hlast : (K.take j).getLast? = some c := by
    rw [List.getLast?_eq_getElem?, List.length_take, Nat.min_eq_left hj, List.getElem?_take_of_lt (by omega), hc]
  have h1 := no9_at K j h (fun d hd => by rw [hlast] at hd; rw [← Option.some.inj hd]; exact hne)
  have h2 : (no9 K).getLast? = some c := by rw [h1]; exact hlast
  rw [more_cons h2, h1, rowAt_inc K j h0 hj, rep_replicate, List.length_take, Nat.min_eq_left hj, List.dropLast_eq_take, List.length_take, Nat.min_eq_left hj, List.take_take, Nat.min_eq_left (by omega)]

theorem half_cases (c : UInt8) (t : Bs) : half (c :: t) = if 53 < c.toNat then 1 else if c.toNat = 53 then (if t = [] then 0 else 1) else -1 := by
  have e : ∀ a b : UInt8, (a < b) = (a.toNat < b.toNat) := fun a b => rfl
  simp only [half, Lib.compareBytes, e]
  have h53 : (53 : UInt8).toNat = 53 := rfl
  rw [h53]
  by_cases h1 : 53 < c.toNat
  · rw [if_pos h1, if_neg (by omega), if_pos h1]
  · rw [if_neg h1]
    by_cases h2 : c.toNat = 53
    · rw [if_pos h2, if_neg (by omega), if_neg (by omega)]
      cases t with
      | nil => rfl
      | cons d t => rfl
    · rw [if_neg h2, if_pos (by omega), if_neg h1]
end Go.Proofs.YtjnkbifafbjckaaGreatDoor.Dc

/- Plain Lean: a text that is read as a decimal. -/
namespace Go.Proofs.YtjnkbifafbjckaaGreatDoor.Dc
set_option linter.all false

/-- The number that digits are. -/
def numOf (l : Bs) : Int := l.foldl (fun a c => 10 * a + ((c.toNat : Int) - 48)) 0

/-- What is read behind the digits: nothing, or an exponent. -/
def tail (neg : Bool) (ds : Bs) (places : Nat) (r : Bs) : Res :=
  match r with
  | [] => mk neg ds (-places)
  | c :: t =>
    if c = 101 ∨ c = 69 then
      let t1 := match t with | d :: t' => if d = 43 ∨ d = 45 then t' else t | [] => []
      let n := t1.takeWhile isDig
      if n = [] ∨ 9 < n.length ∨ t1.dropWhile isDig ≠ [] then ⟨false, [], 0, 3⟩
      else mk neg ds ((if t[0]? = some 45 then - numOf n else numOf n) - places)
    else ⟨false, [], 0, 3⟩

/-- A text is read. -/
def parse (l : Bs) : Res :=
  let s1 := Lib.trimPrefix l [45]
  let f := s1.takeWhile isDig
  let s2 := s1.dropWhile isDig
  let g := if Lib.hasPrefix s2 [46] then (Lib.trimPrefix s2 [46]).takeWhile isDig else []
  let s4 := if Lib.hasPrefix s2 [46] then (Lib.trimPrefix s2 [46]).dropWhile isDig else s2
  if f ++ g = [] then ⟨false, [], 0, 3⟩ else tail (Lib.hasPrefix l [45]) (f ++ g) g.length s4

/-- A numeral of at most nine digits: what Atoi makes of it. -/
theorem parseUint_digs (l : Bs) : ∀ (a : Nat), allDig l = true → a * 10 ^ l.length + 10 ^ l.length ≤ 1000000000000000000 → ∃ u : Nat, Lib.parseUint10 a l = .ok u ∧ (u : Int) = l.foldl (fun (a : Int) c => 10 * a + ((c.toNat : Int) - 48)) (a : Int) ∧ u < a * 10 ^ l.length + 10 ^ l.length := by
  induction l with
  | nil => intro a _ _; exact ⟨a, rfl, rfl, by simp⟩
  | cons c l ih =>
    intro a hd hb
    have hc := dig_mem hd (List.mem_cons_self (a := c) (l := l))
    have hd' : allDig l = true := by rw [allDig, List.all_cons, Bool.and_eq_true] at hd; exact hd.2
    have hp : 1 ≤ 10 ^ l.length := Nat.one_le_pow _ _ (by decide)
    rw [List.length_cons, Nat.pow_succ] at hb
    have hb2 : a * (10 ^ l.length * 10) = (a * 10) * 10 ^ l.length := by rw [Nat.mul_comm (10 ^ l.length) 10, Nat.mul_assoc]
    have hstep : (a * 10 + (c.toNat - 48)) * 10 ^ l.length + 10 ^ l.length ≤ a * (10 ^ l.length * 10) + 10 ^ l.length * 10 := by
      rw [hb2, Nat.add_mul]
      have : (c.toNat - 48) * 10 ^ l.length ≤ 9 * 10 ^ l.length := Nat.mul_le_mul_right _ (by omega)
      omega
    obtain ⟨u, h1, h2, h3⟩ := ih (a * 10 + (c.toNat - 48)) hd' (by omega)
    have ha : a ≤ 100000000000000000 := by
      have : a * 10 ≤ a * 10 * 10 ^ l.length := Nat.le_mul_of_pos_right _ hp
      omega
    refine ⟨u, ?_, ?_, by rw [List.length_cons, Nat.pow_succ]; omega⟩
    · rw [Lib.parseUint10, if_pos ⟨hc.1, hc.2⟩, if_neg (by omega), if_neg (by omega), h1]
    · rw [List.foldl_cons, h2]
      congr 1
      omega

theorem atoi_digs (l : Bs) (hd : allDig l = true) (hne : l ≠ []) (hl : l.length ≤ 9) : Lib.atoiAll l = .ok (numOf l) ∧ 0 ≤ numOf l ∧ numOf l < 1000000000 := by
  obtain ⟨u, h1, h2, h3⟩ := parseUint_digs l 0 hd (by
    have : 10 ^ l.length ≤ 10 ^ 9 := Nat.pow_le_pow_right (by decide) hl
    omega)
  have h4 : 10 ^ l.length ≤ 10 ^ 9 := Nat.pow_le_pow_right (by decide) hl
  have hn : numOf l = u := h2.symm
  rw [hn]
  refine ⟨?_, by omega, by omega⟩
  cases l with
  | nil => exact absurd rfl hne
  | cons c r =>
    have hc := dig_mem hd (List.mem_cons_self (a := c) (l := r))
    have h43 : ¬ (c.toNat = 43 ∨ c.toNat = 45) := by omega
    have h45 : ¬ c.toNat = 45 := by omega
    have h5 : Lib.parseMag (if c.toNat = 43 ∨ c.toNat = 45 then r else c :: r) = .ok u := by
      rw [if_neg h43, Lib.parseMag, if_neg (by simp), h1]
    unfold Lib.atoiAll
    simp only []
    rw [h5]
    simp [h45]; omega

def bad : Res := ⟨false, [], 0, 3⟩

theorem cons_of_bytes (s : ByteArray) (h : 0 < s.size) : s.data.toList = s[0] :: (s.extract 1 s.size).data.toList := by
  rw [Lib.extract_to_end]
  have h1 := get?_bytes s 0 h
  cases e : s.data.toList with
  | nil => rw [e] at h1; cases h1
  | cons a l => rw [e] at h1; simp at h1; rw [← h1]; rfl
theorem nil_of_bytes (s : ByteArray) (h : s.size = 0) : s.data.toList = [] := List.length_eq_zero_iff.1 (by simpa using h)
theorem ne_nil_of_bytes (s : ByteArray) (h : 0 < s.size) : s.data.toList ≠ [] := by rw [cons_of_bytes s h]; simp

theorem tail_nil (neg : Bool) (ds : Bs) (k : Nat) (s : ByteArray) (h : s.size = 0) : tail neg ds k s.data.toList = mk neg ds (-k) := by rw [nil_of_bytes s h]; rfl
theorem tail_bad (neg : Bool) (ds : Bs) (k : Nat) (s : ByteArray) (h : 0 < s.size) (h1 : ¬ (s[0].toNat : Int) = 101) (h2 : ¬ (s[0].toNat : Int) = 69) : tail neg ds k s.data.toList = bad := by
  rw [cons_of_bytes s h]
  unfold tail
  simp only []
  rw [if_neg]; · rfl
  rintro (e | e) <;> rw [e] at h1 h2 <;> simp at h1 h2

/-- The sign of an exponent is cut off. -/
def unsign (t : Bs) : Bs := match t with | d :: t' => if d = 43 ∨ d = 45 then t' else t | [] => []
theorem unsign_sign (t : ByteArray) (h : 0 < t.size) (h1 : (t[0].toNat : Int) = 43 ∨ (t[0].toNat : Int) = 45) : unsign t.data.toList = (t.extract 1 t.size).data.toList := by
  rw [cons_of_bytes t h]
  unfold unsign
  simp only []
  rw [if_pos]
  rcases h1 with e | e
  · exact .inl (u8_of_int (by simpa using e))
  · exact .inr (u8_of_int (by simpa using e))
theorem unsign_none (t : ByteArray) (h1 : ∀ h : 0 < t.size, ¬ ((t[0].toNat : Int) = 43 ∨ (t[0].toNat : Int) = 45)) : unsign t.data.toList = t.data.toList := by
  by_cases h : 0 < t.size
  · have h2 := h1 h
    rw [cons_of_bytes t h]
    unfold unsign
    simp only []
    rw [if_neg]
    rintro (e | e) <;> rw [e] at h2 <;> simp at h2
  · rw [nil_of_bytes t (by omega)]; rfl

theorem tail_exp (neg : Bool) (ds : Bs) (k : Nat) (s t : ByteArray) (h : 0 < s.size) (h1 : (s[0].toNat : Int) = 101 ∨ (s[0].toNat : Int) = 69) (ht : t = s.extract 1 s.size) :
    tail neg ds k s.data.toList = if (unsign t.data.toList).takeWhile isDig = [] ∨ 9 < ((unsign t.data.toList).takeWhile isDig).length ∨ (unsign t.data.toList).dropWhile isDig ≠ [] then bad
      else mk neg ds ((if t.data.toList[0]? = some 45 then - numOf ((unsign t.data.toList).takeWhile isDig) else numOf ((unsign t.data.toList).takeWhile isDig)) - k) := by
  rw [cons_of_bytes s h, ← ht]
  have hc : s[0] = 101 ∨ s[0] = 69 := by
    rcases h1 with e | e
    · exact .inl (u8_of_int (by simpa using e))
    · exact .inr (u8_of_int (by simpa using e))
  show (if s[0] = 101 ∨ s[0] = 69 then _ else _) = _
  rw [if_pos hc]
  rfl

theorem first_45 (t : ByteArray) (h : 0 < t.size) : (t.data.toList[0]? = some 45) = ((t[0].toNat : Int) = 45) := by
  rw [get?_bytes t 0 h]
  apply propext
  constructor
  · intro e; rw [Option.some.inj e]; rfl
  · intro e; exact congrArg some (u8_of_int (by simpa using e))

theorem tail_exp_bad (neg : Bool) (ds : Bs) (k : Nat) (s t t1 n q : ByteArray) (h : 0 < s.size) (h1 : (s[0].toNat : Int) = 101 ∨ (s[0].toNat : Int) = 69) (ht : t = s.extract 1 s.size)
    (hu : unsign t.data.toList = t1.data.toList) (hn : n.data.toList = t1.data.toList.takeWhile isDig) (hq : q.data.toList = t1.data.toList.dropWhile isDig) (hb : n.size = 0 ∨ 9 < n.size ∨ 0 < q.size) :
    tail neg ds k s.data.toList = bad := by
  rw [tail_exp neg ds k s t h h1 ht, hu, ← hn, ← hq, if_pos]
  rcases hb with e | e | e
  · exact .inl (nil_of_bytes n e)
  · exact .inr (.inl (by simpa using e))
  · exact .inr (.inr (ne_nil_of_bytes q e))
theorem tail_exp_ok (neg : Bool) (ds : Bs) (k : Nat) (s t t1 n q : ByteArray) (h : 0 < s.size) (h1 : (s[0].toNat : Int) = 101 ∨ (s[0].toNat : Int) = 69) (ht : t = s.extract 1 s.size)
    (hu : unsign t.data.toList = t1.data.toList) (hn : n.data.toList = t1.data.toList.takeWhile isDig) (hq : q.data.toList = t1.data.toList.dropWhile isDig) (hb : 0 < n.size ∧ n.size ≤ 9 ∧ q.size = 0) (hts : 1 < s.size) :
    tail neg ds k s.data.toList = mk neg ds ((if (s[1].toNat : Int) = 45 then - numOf n.data.toList else numOf n.data.toList) - k) := by
  have hlen : n.data.toList.length = n.size := by simp
  have h0 : t.data.toList[0]? = some s[1] := by
    rw [ht, Lib.extract_to_end, List.getElem?_drop, get?_bytes s 1 hts]
  have h45 : (s[1] = 45) = ((s[1].toNat : Int) = 45) := by
    apply propext
    exact ⟨fun e => by rw [e]; rfl, fun e => u8_of_int (by simpa using e)⟩
  rw [tail_exp neg ds k s t h h1 ht, hu, ← hn, ← hq, if_neg, h0]
  · simp only [Option.some.injEq, h45]
  · rintro (e | e | e)
    · exact ne_nil_of_bytes n hb.1 e
    · omega
    · exact e (nil_of_bytes q hb.2.2)

theorem trimPrefix_len (l p : Bs) : (Lib.trimPrefix l p).length ≤ l.length := by
  rw [Lib.trimPrefix]
  split
  · rw [List.length_drop]; omega
  · exact Nat.le_refl _

/-- Where a run of digits ends. -/
theorem run_spec (s : ByteArray) (i k : Nat) (hik : i ≤ k) (hk : k ≤ s.size) (h : ((s.data.toList.drop i).take (k - i)).all isDig = true) (hs : ∀ h : k < s.size, isDig s[k] = false) :
    (s.data.toList.drop i).takeWhile isDig = (s.data.toList.drop i).take (k - i) ∧ (s.data.toList.drop i).dropWhile isDig = s.data.toList.drop k := by
  have hl : s.data.toList.length = s.size := by simp
  have e : s.data.toList.drop i = (s.data.toList.drop i).take (k - i) ++ s.data.toList.drop k := by
    have := List.take_append_drop (k - i) (s.data.toList.drop i)
    rw [List.drop_drop, show i + (k - i) = k by omega] at this
    exact this.symm
  have h2 : (s.data.toList.drop k).takeWhile isDig = [] ∧ (s.data.toList.drop k).dropWhile isDig = s.data.toList.drop k := by
    by_cases hlt : k < s.size
    · have hg := get?_bytes s k hlt
      rw [List.drop_eq_getElem_cons (by omega)]
      rw [List.getElem?_eq_getElem (by omega)] at hg
      rw [Option.some.inj hg]
      exact ⟨List.takeWhile_cons_of_neg (by rw [hs hlt]; simp), List.dropWhile_cons_of_neg (by rw [hs hlt]; simp)⟩
    · rw [List.drop_of_length_le (by omega)]; exact ⟨rfl, rfl⟩
  have ha := List.all_eq_true.1 h
  constructor
  · conv => lhs; rw [e]
    rw [List.takeWhile_append_of_pos ha, h2.1, List.append_nil]
  · conv => lhs; rw [e]
    rw [List.dropWhile_append_of_pos ha, h2.2]

theorem hasPrefix_one (s : ByteArray) (k : Nat) (c : UInt8) : Lib.hasPrefix (s.data.toList.drop k) [c] = decide (∃ h : k < s.size, (s[k].toNat : Int) = c.toNat) := by
  rw [Lib.hasPrefix, Bool.eq_iff_iff, List.isPrefixOf_iff_prefix, decide_eq_true_iff]
  have hl : s.data.toList.length = s.size := by simp
  constructor
  · rintro ⟨r, hr⟩
    have hlt : k < s.size := by
      have := congrArg List.length hr
      rw [List.length_append, List.length_drop, hl] at this; simp at this; omega
    refine ⟨hlt, ?_⟩
    have hg := get?_bytes s k hlt
    have h2 : (s.data.toList.drop k)[0]? = some c := by rw [← hr]; rfl
    rw [List.getElem?_drop, Nat.add_zero, hg] at h2
    rw [Option.some.inj h2]
  · rintro ⟨hlt, h⟩
    have hg := get?_bytes s k hlt
    rw [List.drop_eq_getElem_cons (by omega)]
    rw [List.getElem?_eq_getElem (by omega)] at hg
    rw [Option.some.inj hg, u8_of_int h]
    exact ⟨_, rfl⟩
theorem trimPrefix_one (s : ByteArray) (k : Nat) (c : UInt8) : Lib.trimPrefix (s.data.toList.drop k) [c] = if Lib.hasPrefix (s.data.toList.drop k) [c] then s.data.toList.drop (k + 1) else s.data.toList.drop k := by
  rw [Lib.trimPrefix]
  split
  · rw [List.drop_drop]; rfl
  · rfl

theorem ite_val (f g : Bs) (a b : Res) : (if f ++ g = [] then a else b).val = if f.length + g.length = 0 then a.val else b.val := by
  have h : (f ++ g = []) ↔ (f.length + g.length = 0) := by
    rw [← List.length_append, List.length_eq_zero_iff]
  by_cases e : f ++ g = []
  · rw [if_pos e, if_pos (h.1 e)]
  · rw [if_neg e, if_neg (fun x => e (h.2 x))]
theorem parse_dot (l : Bs) (h : Lib.hasPrefix ((Lib.trimPrefix l [45]).dropWhile isDig) [46] = true) : (parse l).val =
    if ((Lib.trimPrefix l [45]).takeWhile isDig).length + ((Lib.trimPrefix ((Lib.trimPrefix l [45]).dropWhile isDig) [46]).takeWhile isDig).length = 0 then (⟨false, [], 0, 3⟩ : Res).val
    else (tail (Lib.hasPrefix l [45]) ((Lib.trimPrefix l [45]).takeWhile isDig ++ (Lib.trimPrefix ((Lib.trimPrefix l [45]).dropWhile isDig) [46]).takeWhile isDig) ((Lib.trimPrefix ((Lib.trimPrefix l [45]).dropWhile isDig) [46]).takeWhile isDig).length ((Lib.trimPrefix ((Lib.trimPrefix l [45]).dropWhile isDig) [46]).dropWhile isDig)).val := by
  unfold parse
  simp only [h, if_true]
  exact ite_val _ _ _ _
theorem parse_plain (l : Bs) (h : Lib.hasPrefix ((Lib.trimPrefix l [45]).dropWhile isDig) [46] = false) : (parse l).val =
    if ((Lib.trimPrefix l [45]).takeWhile isDig).length + ([] : Bs).length = 0 then (⟨false, [], 0, 3⟩ : Res).val
    else (tail (Lib.hasPrefix l [45]) ((Lib.trimPrefix l [45]).takeWhile isDig ++ []) 0 ((Lib.trimPrefix l [45]).dropWhile isDig)).val := by
  unfold parse
  simp only [h]
  exact ite_val _ _ _ _

theorem parse_at (s : ByteArray) (neg dot : Bool) (p0 k : Nat) (f g s4 : Bs) (hneg : neg = Lib.hasPrefix s.data.toList [45]) (hp0 : p0 = if neg then 1 else 0)
    (hf : f = (s.data.toList.drop p0).takeWhile isDig) (hrest : (s.data.toList.drop p0).dropWhile isDig = s.data.toList.drop k) (hdot : dot = Lib.hasPrefix (s.data.toList.drop k) [46])
    (hg : g = if dot then (s.data.toList.drop (k + 1)).takeWhile isDig else []) (hs4 : s4 = if dot then (s.data.toList.drop (k + 1)).dropWhile isDig else s.data.toList.drop k) :
    parse s.data.toList = if f ++ g = [] then bad else tail neg (f ++ g) g.length s4 := by
  have h1 : Lib.trimPrefix s.data.toList [45] = s.data.toList.drop p0 := by
    have := trimPrefix_one s 0 45
    rw [List.drop_zero, ← hneg] at this
    rw [this, hp0]
    cases neg <;> rfl
  have h2 := trimPrefix_one s k 46
  unfold parse
  simp only [h1, hrest, ← hdot, ← hf, h2]
  cases dot
  · simp only [Bool.false_eq_true, if_false] at hg hs4 ⊢
    rw [hg, hs4, ← hneg]; rfl
  · simp only [if_true] at hg hs4 ⊢
    rw [← hg, ← hs4, ← hneg]; rfl

theorem drop_cons (s : ByteArray) (q : Nat) (h : q < s.size) : s.data.toList.drop q = s[q] :: s.data.toList.drop (q + 1) := by
  have hg := get?_bytes s q h
  have hl : s.data.toList.length = s.size := by simp
  rw [List.drop_eq_getElem_cons (by omega)]
  rw [List.getElem?_eq_getElem (by omega)] at hg
  rw [Option.some.inj hg]
theorem tail_at_end (neg : Bool) (ds : Bs) (n : Nat) (s : ByteArray) (q : Nat) (h : s.size ≤ q) : tail neg ds n (s.data.toList.drop q) = mk neg ds (-n) := by
  rw [List.drop_of_length_le (by simpa using h)]; rfl
theorem tail_at_bad (neg : Bool) (ds : Bs) (n : Nat) (s : ByteArray) (q : Nat) (h : q < s.size) (h1 : ¬ (s[q].toNat : Int) = 101) (h2 : ¬ (s[q].toNat : Int) = 69) : tail neg ds n (s.data.toList.drop q) = bad := by
  rw [drop_cons s q h]
  unfold tail
  simp only []
  rw [if_neg]; · rfl
  rintro (e | e) <;> rw [e] at h1 h2 <;> simp at h1 h2
theorem tail_at_exp (neg : Bool) (ds : Bs) (n : Nat) (s : ByteArray) (q : Nat) (h : q < s.size) (h1 : (s[q].toNat : Int) = 101 ∨ (s[q].toNat : Int) = 69) :
    tail neg ds n (s.data.toList.drop q) = if (unsign (s.data.toList.drop (q + 1))).takeWhile isDig = [] ∨ 9 < ((unsign (s.data.toList.drop (q + 1))).takeWhile isDig).length ∨ (unsign (s.data.toList.drop (q + 1))).dropWhile isDig ≠ [] then bad
      else mk neg ds ((if (s.data.toList.drop (q + 1))[0]? = some 45 then - numOf ((unsign (s.data.toList.drop (q + 1))).takeWhile isDig) else numOf ((unsign (s.data.toList.drop (q + 1))).takeWhile isDig)) - n) := by
  rw [drop_cons s q h]
  have hc : s[q] = 101 ∨ s[q] = 69 := by
    rcases h1 with e | e
    · exact .inl (u8_of_int (by simpa using e))
    · exact .inr (u8_of_int (by simpa using e))
  show (if s[q] = 101 ∨ s[q] = 69 then _ else _) = _
  rw [if_pos hc]
  rfl

/-- The sign of an exponent at a place: where the digits begin, and whether it is a minus. -/
theorem unsign_at (s : ByteArray) (i : Nat) (hi : i ≤ s.size) :
    (∃ h : i < s.size, (s[i].toNat : Int) = 43 ∧ unsign (s.data.toList.drop i) = s.data.toList.drop (i + 1) ∧ ¬ (s.data.toList.drop i)[0]? = some 45) ∨
    (∃ h : i < s.size, (s[i].toNat : Int) = 45 ∧ unsign (s.data.toList.drop i) = s.data.toList.drop (i + 1) ∧ (s.data.toList.drop i)[0]? = some 45) ∨
    ((∀ h : i < s.size, ¬ (s[i].toNat : Int) = 43 ∧ ¬ (s[i].toNat : Int) = 45) ∧ unsign (s.data.toList.drop i) = s.data.toList.drop i ∧ ¬ (s.data.toList.drop i)[0]? = some 45) := by
  by_cases h : i < s.size
  · rw [drop_cons s i h]
    have h0 : ((s[i] :: s.data.toList.drop (i + 1))[0]? = some 45) ↔ s[i] = 45 := by simp
    rw [h0]
    by_cases h43 : (s[i].toNat : Int) = 43
    · have e : s[i] = 43 := u8_of_int (by simpa using h43)
      refine .inl ⟨h, h43, ?_, by rw [e]; decide⟩
      unfold unsign; simp only []; rw [if_pos (.inl e)]
    · by_cases h45 : (s[i].toNat : Int) = 45
      · have e : s[i] = 45 := u8_of_int (by simpa using h45)
        refine .inr (.inl ⟨h, h45, ?_, e⟩)
        unfold unsign; simp only []; rw [if_pos (.inr e)]
      · refine .inr (.inr ⟨fun _ => ⟨h43, h45⟩, ?_, fun e => h45 (by rw [e]; rfl)⟩)
        unfold unsign; simp only []; rw [if_neg]
        rintro (e | e)
        · exact h43 (by rw [e]; rfl)
        · exact h45 (by rw [e]; rfl)
  · rw [List.drop_of_length_le (by simp; omega)]
    exact .inr (.inr ⟨fun x => absurd x h, rfl, by simp⟩)

/-- Where the loop over an exponent's digits stops: what the text's form says. -/
theorem exp_stop (s : ByteArray) (i j : Nat) (hij : i ≤ j) (hj : j ≤ s.size) (h9 : j ≤ i + 9) (h : ((s.data.toList.drop i).take (j - i)).all isDig = true) (hs : ∀ h : j < s.size, isDig s[j] = false ∨ j = i + 9) :
    ((s.data.toList.drop i).takeWhile isDig = [] ∨ 9 < ((s.data.toList.drop i).takeWhile isDig).length ∨ (s.data.toList.drop i).dropWhile isDig ≠ []) ↔ (j = i ∨ j < s.size) := by
  have hl : s.data.toList.length = s.size := by simp
  have hlen : ((s.data.toList.drop i).take (j - i)).length = j - i := by rw [List.length_take, List.length_drop, hl]; omega
  by_cases hlt : j < s.size
  · refine ⟨fun _ => .inr hlt, fun _ => ?_⟩
    rcases hs hlt with e | e
    · have := (run_spec s i j hij hj h (fun _ => e)).2
      exact .inr (.inr (by rw [this, drop_cons s j hlt]; simp))
    · by_cases hd : isDig s[j] = true
      · refine .inr (.inl ?_)
        have e2 : s.data.toList.drop i = ((s.data.toList.drop i).take (j - i)) ++ s[j] :: s.data.toList.drop (j + 1) := by
          have := List.take_append_drop (j - i) (s.data.toList.drop i)
          rw [List.drop_drop, show i + (j - i) = j by omega, drop_cons s j hlt] at this
          exact this.symm
        rw [e2, List.takeWhile_append_of_pos (List.all_eq_true.1 h), List.takeWhile_cons_of_pos hd, List.length_append, hlen]
        simp; omega
      · have := (run_spec s i j hij hj h (fun _ => by simpa using hd)).2
        exact .inr (.inr (by rw [this, drop_cons s j hlt]; simp))
  · have hr := run_spec s i j hij hj h (fun x => absurd x hlt)
    have hd : s.data.toList.drop j = [] := List.drop_of_length_le (by omega)
    rw [hr.1, hr.2, hlen, hd]
    constructor
    · rintro (e | e | e)
      · have := congrArg List.length e; rw [hlen] at this; simp at this; exact .inl (by omega)
      · omega
      · exact absurd rfl e
    · rintro (e | e)
      · exact .inl (List.length_eq_zero_iff.1 (by rw [hlen]; omega))
      · omega

theorem numOf_snoc (l : Bs) (c : UInt8) : numOf (l ++ [c]) = 10 * numOf l + ((c.toNat : Int) - 48) := by
  unfold numOf; rw [List.foldl_append]; rfl
theorem numOf_bound (l : Bs) (h : l.all isDig = true) (hl : l.length ≤ 9) : 0 ≤ numOf l ∧ numOf l < 1000000000 := by
  cases l with
  | nil => exact ⟨by decide, by decide⟩
  | cons c r => exact (atoi_digs (c :: r) h (by simp) hl).2

end Go.Proofs.YtjnkbifafbjckaaGreatDoor.Dc
