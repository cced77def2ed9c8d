/- Plain Lean: a decimal that is written. -/
import Derived.Test.YtlhahbniigjkkaaGreatDoorZ7
import Derived.Lib.ItoaNum
import Derived.Lib.IndexBytes
import Derived.Test.YtlhahbniigjkkaaGreatDoorZ1
import Derived.Test.YtlhahbniigjkkaaGreatDoorZ16
namespace Go.Proofs.YtlhahbniigjkkaaGreatDoor.Dc
set_option linter.all false

/-- A decimal's text behind its sign. -/
def body (s l : Bs) (p : Int) : Bs :=
  if l = [] then s ++ [48]
  else if 1 ≤ p ∧ p ≤ 21 ∧ (l.length : Int) ≤ p then s ++ l ++ Lib.repeatL [48] (p - l.length).toNat
  else if 1 ≤ p ∧ p ≤ 21 then s ++ l.take p.toNat ++ [46] ++ l.drop p.toNat
  else if -5 ≤ p ∧ p ≤ 0 then s ++ [48, 46] ++ Lib.repeatL [48] (-p).toNat ++ l
  else
    let t := if 1 < l.length then s ++ l.take 1 ++ ([46] ++ l.drop 1) else s ++ l.take 1
    if p < 1 then t ++ [101, 45] ++ Lib.itoa (1 - p) else t ++ [101, 43] ++ Lib.itoa (p - 1)

def print (n : Bool) (l : Bs) (x : Int) : Bs :=
  if right l x = true then body (if n then [45] else []) l (l.length + x) else []

theorem ba_eq (s : ByteArray) (l : Bs) (h : s.data.toList = l) : s = ⟨l.toArray⟩ := by rw [← h]
theorem ba_app (a b : ByteArray) : (a ++ b).data.toList = a.data.toList ++ b.data.toList := by simp
theorem itoa_len (n : Int) (h : -1000000 ≤ n ∧ n ≤ 1000000) : (Lib.itoa n).length ≤ 30 := by
  have hd : ∀ u : Nat, u ≤ 1000000 → (Lib.decDigits u).length ≤ 29 := fun u hu => by
    rw [Lib.decDigits_length]
    have : ∀ k u : Nat, u < 10 ^ k → Lib.nDigits u ≤ k + 1 := by
      intro k
      induction k with
      | zero => intro u hu; rw [Lib.nDigits_small (by simp at hu; omega)]; omega
      | succ k ih =>
        intro u hu
        by_cases h : u < 10
        · rw [Lib.nDigits_small h]; omega
        · rw [Lib.nDigits_big h]
          have := ih (u / 10) (by rw [Nat.pow_succ] at hu; omega)
          omega
    have := this 7 u (by omega)
    omega
  unfold Lib.itoa
  split
  · rw [List.length_cons]; have := hd n.natAbs (by omega); omega
  · have := hd n.toNat (by omega); omega

end Go.Proofs.YtlhahbniigjkkaaGreatDoor.Dc

namespace Go.Proofs.YtlhahbniigjkkaaGreatDoor
set_option linter.all false
open Go.RowKit

/-- The digit at a place: a nought outside. -/
def digAt (s : ByteArray) (i : Int) : UInt8 := if h : 0 ≤ i ∧ i < s.size then s[i.toNat]'(by omega) else 48
theorem digAt_in (s : ByteArray) (i : Int) (k : Nat) (hk : k < s.size) (e : (k : Int) = i) : s[k] = digAt s i := by
  subst e
  rw [digAt, dif_pos ⟨by omega, by omega⟩]
  simp
theorem digAt_out (s : ByteArray) (i : Int) (h : i < 0 ∨ s.size ≤ i) : digAt s i = 48 := by
  rw [digAt, dif_neg (by omega)]

set_option maxHeartbeats 400000 in
theorem r7_at_any (n : Bool) (s : ByteArray) (x pl i : Int) (w : World) (hs : s.size ≤ 1000000) (hx : -1000000 ≤ x ∧ x ≤ 1000000) (hi : -10000000 ≤ i ∧ i ≤ 10000000) (hpl : pl = (s.size : Int) - 1 + x - i) :
    Calls Tryz.prog 66 #[.agg #[.bool n, .string s, .int .i64 x], .int .i64 pl] w (RetB (.int .u8 (digAt s i).toNat) w) := by
  obtain ⟨hx1, hx2⟩ := hx
  obtain ⟨hi1, hi2⟩ := hi
  have he : (s.size : Int) - 1 + x - pl = i := by omega
  have hp1 : -20000000 ≤ pl ∧ pl ≤ 20000000 := by omega
  obtain ⟨hp1, hp2⟩ := hp1
  obtain ⟨r, hr⟩ : ∃ r, r = digAt s i := ⟨_, rfl⟩
  rw [← hr]
  have HR := Lib.hid hr; have HE := Lib.hid he; clear hr hpl he
  go_enter Tryz.func66, Tryz.ntmps66
  go_wp2_with fail
  all_goals go_ret
  · have h1 : (s.size : Int) - 1 + x - pl < 0 ∨ (s.size : Int) ≤ s.size - 1 + x - pl := by assumption
    exact RetB.of (by rw [HR.out, digAt_out s i (by have := HE.out; omega)]; rfl) (by (repeat (first | exact Below.refl _ _ | assumption | refine Below.setCell ?_ (by first | omega | (simp <;> omega)) _ | refine Below.alloc ?_ (by first | omega | (simp <;> omega)) _ | refine Below.drew ?_ | refine below_drewN' ?_ _)))
  · have h1 : 0 ≤ (s.size : Int) - 1 + x - pl ∧ (s.size : Int) - 1 + x - pl < s.size := by assumption
    exact RetB.of (by rw [HR.out, ← digAt_in s i ((s.size : Int) - 1 + x - pl).toNat (by omega) (by rw [← HE.out]; omega)]; rfl) (by (repeat (first | exact Below.refl _ _ | assumption | refine Below.setCell ?_ (by first | omega | (simp <;> omega)) _ | refine Below.alloc ?_ (by first | omega | (simp <;> omega)) _ | refine Below.drew ?_ | refine below_drewN' ?_ _)))
  · exact RetB.of (by rw [HR.out, digAt_out s i (by have := HE.out; omega)]; rfl) (by (repeat (first | exact Below.refl _ _ | assumption | refine Below.setCell ?_ (by first | omega | (simp <;> omega)) _ | refine Below.alloc ?_ (by first | omega | (simp <;> omega)) _ | refine Below.drew ?_ | refine below_drewN' ?_ _)))

end Go.Proofs.YtlhahbniigjkkaaGreatDoor

namespace Go.Proofs.YtlhahbniigjkkaaGreatDoor
set_option linter.all false
open Go.RowKit
attribute [local go_sem] Dc.Res.val

set_option maxHeartbeats 400000 in
theorem r7_less_any (n : Bool) (s : ByteArray) (x k way : Int) (w : World) (hk : -1000000 ≤ k ∧ k ≤ 1000000) (hw : 0 ≤ way ∧ way ≤ 5) :
    Calls Tryz.prog 86 #[.agg #[.bool n, .string s, .int .i64 x], .int .i64 k, .int .i64 way] w (RetB (Dc.mk n (if (way = 3 ∨ way = 4 ∧ n = true ∨ way = 5 ∧ n = false) then [49] else []) (-k)).val w) := by
  obtain ⟨hk1, hk2⟩ := hk
  have hmk := fun w => r7_make_any n ⟨#[49]⟩ (-k) w (by decide) (by omega)
  have h0 : Dc.mk n [] (-k) = ⟨n, [], 0, 0⟩ := Dc.mk_zero (by decide) (by decide)
  obtain ⟨q, hq⟩ : ∃ q, q = Dc.mk n [49] (-k) := ⟨_, rfl⟩
  rw [show (⟨#[49]⟩ : ByteArray).data.toList = [49] from rfl, ← hq] at hmk
  have H0 := Lib.hid h0; have HM := Lib.hid hmk; have HQ := Lib.hid hq
  clear h0 hmk hq
  obtain ⟨r, hr⟩ : ∃ r : Value, r = (Dc.mk n (if (way = 3 ∨ way = 4 ∧ n = true ∨ way = 5 ∧ n = false) then [49] else []) (-k)).val := ⟨_, rfl⟩
  rw [← hr]
  by_cases hc : (way = 3 ∨ way = 4 ∧ n = true ∨ way = 5 ∧ n = false)
  · rw [if_pos hc, ← HQ.out] at hr
    have HR := Lib.hid hr; clear hr HQ
    have hcase : (way = 3 ∧ n = true) ∨ (way = 3 ∧ n = false) ∨ (way = 4 ∧ n = true) ∨ (way = 5 ∧ n = false) := by cases n <;> simp at hc ⊢ <;> omega
    clear hc hw
    rcases hcase with ⟨rfl, rfl⟩ | ⟨rfl, rfl⟩ | ⟨rfl, rfl⟩ | ⟨rfl, rfl⟩
    all_goals
      go_enter Tryz.func86, Tryz.ntmps86
      go_wp2_with (go_at_call 64; (with_reducible refine (HM.out _).mono ?_); rintro e w1 ⟨rfl, hb_w1⟩; have hB_w1 : Below (w).heap.size (w) w1 := Below.trans (by (repeat (first | exact Below.refl _ _ | assumption | refine Below.setCell ?_ (by first | omega | (simp <;> omega)) _ | refine Below.alloc ?_ (by first | omega | (simp <;> omega)) _ | refine Below.drew ?_ | refine below_drewN' ?_ _))) (hb_w1.mono (by first | omega | (simp <;> omega))); obtain ⟨hc_w1, hf_w1⟩ := bcell hb_w1; have hz_w1 := hb_w1.size; (try simp only [size_drew', size_drewN', World.size_alloc, World.size_setCell] at hz_w1); have hl0_w1 : w.heap.size < w1.heap.size := (by omega); have hm0_w1 : w.heap.size ≤ w1.heap.size := (by omega); have hn0_w1 : ¬ w.heap.size = w1.heap.size := (by omega); have hq0_w1 : ¬ w1.heap.size = w.heap.size := (by omega); have hr0_w1 := fun o => hc_w1 (w.heap.size) o (by (try simp only [size_drew', size_drewN', World.size_alloc, World.size_setCell]); omega); have hg0_w1 := fun o => hf_w1 (w.heap.size) o (by (try simp only [size_drew', size_drewN', World.size_alloc, World.size_setCell]); omega); have hl1_w1 : w.heap.size + 1 < w1.heap.size := (by omega); have hm1_w1 : w.heap.size + 1 ≤ w1.heap.size := (by omega); have hn1_w1 : ¬ w.heap.size + 1 = w1.heap.size := (by omega); have hq1_w1 : ¬ w1.heap.size = w.heap.size + 1 := (by omega); have hr1_w1 := fun o => hc_w1 (w.heap.size + 1) o (by (try simp only [size_drew', size_drewN', World.size_alloc, World.size_setCell]); omega); have hg1_w1 := fun o => hf_w1 (w.heap.size + 1) o (by (try simp only [size_drew', size_drewN', World.size_alloc, World.size_setCell]); omega))
      (refine bodyPost_ret (v := Dc.Res.val q) (by (simp [results, Tryz.results86, go_sem, Dc.Res.val, hr0_w1, hl0_w1, hm0_w1, hn0_w1, hq0_w1, hr1_w1, hl1_w1, hm1_w1, hn1_w1, hq1_w1]; done)) rfl (RetB.of HR.out.symm (by (repeat (first | exact Below.refl _ _ | assumption | refine Below.setCell ?_ (by first | omega | (simp <;> omega)) _ | refine Below.alloc ?_ (by first | omega | (simp <;> omega)) _ | refine Below.drew ?_ | refine below_drewN' ?_ _)))))
  · rw [if_neg hc, H0.out] at hr
    have HR := Lib.hid hr; clear hr HQ
    have hcase : way = 0 ∨ way = 1 ∨ way = 2 ∨ (way = 4 ∧ n = false) ∨ (way = 5 ∧ n = true) := by cases n <;> simp at hc ⊢ <;> omega
    clear hc hw
    rcases hcase with rfl | rfl | rfl | ⟨rfl, rfl⟩ | ⟨rfl, rfl⟩
    all_goals
      go_enter Tryz.func86, Tryz.ntmps86
      go_wp2_with fail
    · (refine bodyPost_ret (v := .tuple #[.agg #[.bool n, .string ⟨#[]⟩, .int .i64 0], .int .i64 0]) (by (simp [results, Tryz.results86, go_sem]; done)) rfl (RetB.of HR.out.symm (by (repeat (first | exact Below.refl _ _ | assumption | refine Below.setCell ?_ (by first | omega | (simp <;> omega)) _ | refine Below.alloc ?_ (by first | omega | (simp <;> omega)) _ | refine Below.drew ?_ | refine below_drewN' ?_ _)))))
    · (refine bodyPost_ret (v := .tuple #[.agg #[.bool n, .string ⟨#[]⟩, .int .i64 0], .int .i64 0]) (by (simp [results, Tryz.results86, go_sem]; done)) rfl (RetB.of HR.out.symm (by (repeat (first | exact Below.refl _ _ | assumption | refine Below.setCell ?_ (by first | omega | (simp <;> omega)) _ | refine Below.alloc ?_ (by first | omega | (simp <;> omega)) _ | refine Below.drew ?_ | refine below_drewN' ?_ _)))))
    · (refine bodyPost_ret (v := .tuple #[.agg #[.bool n, .string ⟨#[]⟩, .int .i64 0], .int .i64 0]) (by (simp [results, Tryz.results86, go_sem]; done)) rfl (RetB.of HR.out.symm (by (repeat (first | exact Below.refl _ _ | assumption | refine Below.setCell ?_ (by first | omega | (simp <;> omega)) _ | refine Below.alloc ?_ (by first | omega | (simp <;> omega)) _ | refine Below.drew ?_ | refine below_drewN' ?_ _)))))
    · (refine bodyPost_ret (v := .tuple #[.agg #[.bool false, .string ⟨#[]⟩, .int .i64 0], .int .i64 0]) (by (simp [results, Tryz.results86, go_sem]; done)) rfl (RetB.of HR.out.symm (by (repeat (first | exact Below.refl _ _ | assumption | refine Below.setCell ?_ (by first | omega | (simp <;> omega)) _ | refine Below.alloc ?_ (by first | omega | (simp <;> omega)) _ | refine Below.drew ?_ | refine below_drewN' ?_ _)))))
    · (refine bodyPost_ret (v := .tuple #[.agg #[.bool true, .string ⟨#[]⟩, .int .i64 0], .int .i64 0]) (by (simp [results, Tryz.results86, go_sem]; done)) rfl (RetB.of HR.out.symm (by (repeat (first | exact Below.refl _ _ | assumption | refine Below.setCell ?_ (by first | omega | (simp <;> omega)) _ | refine Below.alloc ?_ (by first | omega | (simp <;> omega)) _ | refine Below.drew ?_ | refine below_drewN' ?_ _)))))

theorem dec_one (k : Nat) (h : k < 10) : ((⟨#[48, 49, 50, 51, 52, 53, 54, 55, 56, 57]⟩ : ByteArray).extract k (k + 1)) = ⟨(Lib.itoa k).toArray⟩ := by
  have h1 : ∀ k : Fin 10, ((⟨#[48, 49, 50, 51, 52, 53, 54, 55, 56, 57]⟩ : ByteArray).extract k.val (k.val + 1)) = ⟨[UInt8.ofNat (48 + k.val)].toArray⟩ := by decide +kernel
  rw [h1 ⟨k, h⟩, Lib.itoa, if_neg (by omega), Int.toNat_natCast, Lib.decDigits, dif_pos h]
theorem dec_more (k : Nat) (h : ¬ k < 10) : (⟨(Lib.itoa ((k / 10 : Nat) : Int)).toArray⟩ : ByteArray) ++ ⟨(Lib.itoa ((k % 10 : Nat) : Int)).toArray⟩ = ⟨(Lib.itoa k).toArray⟩ := by
  rw [Lib.itoa, if_neg (by omega), Lib.itoa, if_neg (by omega), Lib.itoa, if_neg (by omega), Int.toNat_natCast, Int.toNat_natCast, Int.toNat_natCast]
  conv => rhs; rw [Lib.decDigits, dif_neg h]
  rw [ByteArray.mk_append_mk, Lib.decDigits_one (i := k % 10) (by omega)]

theorem r7_number_small (k : Nat) (w : World) (h : k < 10) : Calls Tryz.prog 67 #[.int .i64 k] w (Ret0 (.string ⟨(Lib.itoa k).toArray⟩) w) := by
  have h1 := dec_one k h
  have H1 := Lib.hid h1; clear h1
  go_enter Tryz.func67, Tryz.ntmps67
  go_wp2_with fail
  go_ret
  exact Ret0.of (by rw [← H1.out]; rfl)
set_option maxHeartbeats 400000 in
theorem r7_number_any (k : Nat) : ∀ (w : World), k ≤ 1000000 → Calls Tryz.prog 67 #[.int .i64 k] w (RetB (.string ⟨(Lib.itoa k).toArray⟩) w) := by
  induction k using Nat.strongRecOn with
  | _ k ih =>
    intro w hb
    by_cases h : k < 10
    · exact (r7_number_small k w h).mono fun _ _ e => ⟨e.1, by rw [← e.2]; exact Below.refl _ _⟩
    · have h1 := dec_more k h
      have h2 := fun w => ih (k / 10) (by omega) w (by omega)
      have h3 := fun w => r7_number_small (k % 10) w (by omega)
      have hl1 : (⟨(Lib.itoa ((k / 10 : Nat) : Int)).toArray⟩ : ByteArray).size ≤ 30 := by rw [size_mk]; exact Dc.itoa_len _ (by omega)
      have hl2 : (⟨(Lib.itoa ((k % 10 : Nat) : Int)).toArray⟩ : ByteArray).size ≤ 30 := by rw [size_mk]; exact Dc.itoa_len _ (by omega)
      obtain ⟨a, ha⟩ : ∃ a : ByteArray, a = ⟨(Lib.itoa ((k / 10 : Nat) : Int)).toArray⟩ := ⟨_, rfl⟩
      obtain ⟨b, hb'⟩ : ∃ b : ByteArray, b = ⟨(Lib.itoa ((k % 10 : Nat) : Int)).toArray⟩ := ⟨_, rfl⟩
      rw [← ha] at h1 h2 hl1
      rw [← hb'] at h1 h3 hl2
      rw [show ((k / 10 : Nat) : Int) = (k : Int) / 10 by omega] at h2
      rw [show ((k % 10 : Nat) : Int) = (k : Int) % 10 by omega] at h3
      have H1 := Lib.hid h1; have H2 := Lib.hid h2; have H3 := Lib.hid h3; clear h1 h2 h3 ih ha hb'
      go_enter Tryz.func67, Tryz.ntmps67
      go_wp2_with (first
        | (go_at_call 67; (with_reducible refine (H2.out _).mono ?_); rintro e w1 ⟨rfl, hb_w1⟩; have hB_w1 : Below (w).heap.size (w) w1 := Below.trans (by (repeat (first | exact Below.refl _ _ | assumption | refine Below.setCell ?_ (by first | omega | (simp <;> omega)) _ | refine Below.alloc ?_ (by first | omega | (simp <;> omega)) _ | refine Below.drew ?_ | refine below_drewN' ?_ _))) (hb_w1.mono (by first | omega | (simp <;> omega))); obtain ⟨hc_w1, hf_w1⟩ := bcell hb_w1; have hz_w1 := hb_w1.size; (try simp only [size_drew', size_drewN', World.size_alloc, World.size_setCell] at hz_w1))
        | (go_at_call 67; (with_reducible refine (H3.out _).mono ?_); rintro e w' ⟨rfl, rfl⟩))
      go_ret
      exact RetB.of (by rw [← H1.out]; rfl) (by (repeat (first | exact Below.refl _ _ | assumption | refine Below.setCell ?_ (by first | omega | (simp <;> omega)) _ | refine Below.alloc ?_ (by first | omega | (simp <;> omega)) _ | refine Below.drew ?_ | refine below_drewN' ?_ _)))

end Go.Proofs.YtlhahbniigjkkaaGreatDoor

/- Plain Lean: digits and one, place for place from behind. -/
namespace Go.Proofs.YtlhahbniigjkkaaGreatDoor.Dc
set_option linter.all false

theorem rep_replicate (m : Nat) : Lib.repeatL [48] m = List.replicate m 48 := by
  induction m with
  | zero => rfl
  | succ m ih => rw [Lib.repeatL, ih, List.replicate_succ]; rfl

/-- The first j digits as they were, noughts behind them. -/
def rowAt (K : Bs) (j : Nat) : Bs := K.take j ++ List.replicate (K.length - j) 48
theorem rowAt_len (K : Bs) (j : Nat) (h : j ≤ K.length) : (rowAt K j).length = K.length := by simp [rowAt]; omega
theorem rowAt_all (K : Bs) : rowAt K K.length = K := by simp [rowAt]
theorem rowAt_get (K : Bs) (j i : Nat) (h : j ≤ K.length) (hi : i < j) : (rowAt K j)[i]? = K[i]? := by
  rw [rowAt, List.getElem?_append_left (by rw [List.length_take]; omega), List.getElem?_take_of_lt hi]
theorem rowAt_inc (K : Bs) (j : Nat) (h : 0 < j) (hj : j ≤ K.length) (c : UInt8) : (rowAt K j).set (j - 1) c = K.take (j - 1) ++ [c] ++ List.replicate (K.length - j) 48 := by
  have hs : K.take j = K.take (j - 1) ++ [K[j - 1]'(by omega)] := by
    conv => lhs; rw [show j = j - 1 + 1 by omega]
    rw [List.take_succ_eq_append_getElem (by omega)]
  have hl : (K.take (j - 1)).length = j - 1 := by rw [List.length_take]; omega
  rw [rowAt, hs, List.append_assoc, List.set_append_right _ _ (by omega), hl, Nat.sub_self]
  simp
theorem rowAt_set (K : Bs) (j : Nat) (h : 0 < j) (hj : j ≤ K.length) : (rowAt K j).set (j - 1) 48 = rowAt K (j - 1) := by
  rw [rowAt_inc K j h hj, rowAt, List.append_assoc, show K.length - (j - 1) = K.length - j + 1 by omega, List.replicate_succ]
  rfl

theorem no9_at (K : Bs) (j : Nat) (h : ∀ c ∈ K.drop j, c = 57) (h2 : ∀ c, (K.take j).getLast? = some c → c ≠ 57) : no9 K = K.take j := by
  rw [no9, Lib.trimRightB]
  conv => lhs; rw [← List.take_append_drop j K]
  rw [List.reverse_append, List.dropWhile_append_of_pos (fun c hc => by rw [h c (List.mem_reverse.1 hc)]; rfl)]
  cases hr : (K.take j).reverse with
  | nil => rw [List.dropWhile_nil]; have := List.reverse_eq_nil_iff.1 hr; rw [this]; rfl
  | cons c r =>
    have hh : (K.take j).getLast? = some c := by rw [List.getLast?_eq_head?_reverse, hr]; rfl
    rw [List.dropWhile_cons_of_neg (by simpa using h2 c hh), ← hr, List.reverse_reverse]

theorem more_nines (K : Bs) (h : ∀ c ∈ K, c = 57) : more K = 49 :: List.replicate K.length 48 := by
  have h1 := no9_at K 0 h (by simp)
  rw [List.take_zero] at h1
  rw [more_nil h1, h1, rep_replicate]; rfl
theorem more_at (K : Bs) (j : Nat) (h0 : 0 < j) (hj : j ≤ K.length) (h : ∀ c ∈ K.drop j, c = 57) (c : UInt8) (hc : K[j - 1]? = some c) (hne : c ≠ 57) : more K = (rowAt K j).set (j - 1) (c + 1) := by
  have hlast : (K.take j).getLast? = some c := by
    rw [List.getLast?_eq_getElem?, List.length_take, Nat.min_eq_left hj, List.getElem?_take_of_lt (by omega), hc]
  have h1 := no9_at K j h (fun d hd => by rw [hlast] at hd; rw [← Option.some.inj hd]; exact hne)
  have h2 : (no9 K).getLast? = some c := by rw [h1]; exact hlast
  rw [more_cons h2, h1, rowAt_inc K j h0 hj, rep_replicate, List.length_take, Nat.min_eq_left hj, List.dropLast_eq_take, List.length_take, Nat.min_eq_left hj, List.take_take, Nat.min_eq_left (by omega)]

theorem half_cases (c : UInt8) (t : Bs) : half (c :: t) = if 53 < c.toNat then 1 else if c.toNat = 53 then (if t = [] then 0 else 1) else -1 := by
  have e : ∀ a b : UInt8, (a < b) = (a.toNat < b.toNat) := fun a b => rfl
  simp only [half, Lib.compareBytes, e]
  have h53 : (53 : UInt8).toNat = 53 := rfl
  rw [h53]
  by_cases h1 : 53 < c.toNat
  · rw [if_pos h1, if_neg (by omega), if_pos h1]
  · rw [if_neg h1]
    by_cases h2 : c.toNat = 53
    · rw [if_pos h2, if_neg (by omega), if_neg (by omega)]
      cases t with
      | nil => rfl
      | cons d t => rfl
    · rw [if_neg h2, if_pos (by omega), if_neg h1]
end Go.Proofs.YtlhahbniigjkkaaGreatDoor.Dc
