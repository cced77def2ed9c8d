import Derived.Test.YtjnkbifafbjckaaGreatDoorZ19
import Derived.Test.YtjnkbifafbjckaaGreatDoorZ15
import Derived.Deep.DeepCutAuto
import Derived.Deep.RegionHeld3
import Derived.Test.YtjnkbifafbjckaaGreatDoorZ10
import Derived.Test.YtjnkbifafbjckaaGreatDoorZ31
import Derived.Test.YtjnkbifafbjckaaGreatDoorZ11
namespace Go.Proofs.YtjnkbifafbjckaaGreatDoor
set_option linter.all false
open Go.RowKit

/-- The first i digits of a text, with noughts behind the last one and the point at p. -/
def pre (V l : Dc.Bs) (p i : Nat) : Dc.Bs := V ++ (List.range i).flatMap fun j => (if j = p then [46] else []) ++ [l.getD j 48]
theorem pre_zero (V l : Dc.Bs) (p : Nat) : pre V l p 0 = V := by simp [pre]
theorem pre_succ (V l : Dc.Bs) (p i : Nat) : pre V l p (i + 1) = pre V l p i ++ ((if i = p then [46] else []) ++ [l.getD i 48]) := by
  simp [pre, List.range_succ]
theorem pre_len (V l : Dc.Bs) (p i : Nat) : (pre V l p i).length ≤ V.length + 2 * i := by
  induction i with
  | zero => rw [pre_zero]; omega
  | succ i ih => rw [pre_succ, List.length_append, List.length_append]; split <;> simp <;> omega
theorem pre_le (V l : Dc.Bs) (p : Nat) : ∀ i, i ≤ p → i ≤ l.length → pre V l p i = V ++ l.take i := by
  intro i
  induction i with
  | zero => intro _ _; rw [pre_zero]; simp
  | succ i ih =>
    intro h1 h2
    rw [pre_succ, ih (by omega) (by omega), if_neg (by omega), List.take_succ_eq_append_getElem (by omega)]
    simp [List.getD_eq_getElem?_getD, List.getElem?_eq_getElem (show i < l.length by omega)]
theorem pre_behind (V l : Dc.Bs) (p : Nat) (h0 : p < l.length) : ∀ k, p + 1 + k ≤ l.length → pre V l p (p + 1 + k) = V ++ l.take p ++ [46] ++ (l.drop p).take (k + 1) := by
  intro k
  induction k with
  | zero =>
    intro _
    have e : (l.drop p).take (0 + 1) = [l[p]] := by rw [List.drop_eq_getElem_cons h0]; rfl
    rw [Nat.add_zero, pre_succ, pre_le V l p p (Nat.le_refl _) (by omega), if_pos rfl, e]
    simp [List.getD_eq_getElem?_getD, List.getElem?_eq_getElem h0]
  | succ k ih =>
    intro h
    have hk : k + 1 < (l.drop p).length := by rw [List.length_drop]; omega
    rw [show p + 1 + (k + 1) = p + 1 + k + 1 by omega, pre_succ, ih (by omega), if_neg (by omega), List.take_succ_eq_append_getElem hk]
    simp [List.getD_eq_getElem?_getD, List.getElem?_eq_getElem (show p + 1 + k < l.length by omega), show p + (k + 1) = p + 1 + k by omega]
theorem pre_noughts (V l : Dc.Bs) (p : Nat) : ∀ k, l.length + k ≤ p → pre V l p (l.length + k) = V ++ l ++ List.replicate k 48 := by
  intro k
  induction k with
  | zero => intro h; rw [Nat.add_zero, pre_le V l p _ (by omega) (Nat.le_refl _)]; simp
  | succ k ih =>
    intro h
    rw [show l.length + (k + 1) = l.length + k + 1 by omega, pre_succ, ih (by omega), if_neg (by omega), List.replicate_succ']
    simp [List.getD_eq_getElem?_getD, List.getElem?_eq_none]
theorem rep_repl (m : Nat) : Lib.repeatL [48] m = List.replicate m 48 := by
  induction m with
  | zero => rfl
  | succ m ih => rw [Lib.repeatL, ih, List.replicate_succ]; rfl
/-- What the loop over the digits writes. -/
theorem pre_body (V l : Dc.Bs) (p : Nat) (hne : l ≠ []) (h1 : 1 ≤ p) (h2 : p ≤ 21) (i : Nat) (hi : i = max p l.length) : pre V l p i = Dc.body V l p := by
  rw [Dc.body, if_neg hne]
  by_cases h : l.length ≤ p
  · rw [if_pos ⟨by omega, by omega, by omega⟩, show i = l.length + (p - l.length) by omega, pre_noughts _ _ _ _ (by omega), rep_repl]
    congr 2; omega
  · have e : (l.drop p).take (l.length - p - 1 + 1) = l.drop p := List.take_of_length_le (by rw [List.length_drop]; omega)
    rw [if_neg (show ¬ (1 ≤ (p : Int) ∧ (p : Int) ≤ 21 ∧ (l.length : Int) ≤ p) by omega), if_pos (show 1 ≤ (p : Int) ∧ (p : Int) ≤ 21 by omega), show i = p + 1 + (l.length - p - 1) by omega, pre_behind _ _ _ (by omega) _ (by omega), e, Int.toNat_natCast]
end Go.Proofs.YtjnkbifafbjckaaGreatDoor

namespace Go.Proofs.YtjnkbifafbjckaaGreatDoor
set_option linter.all false
open Go.RowKit
attribute [local go_sem] Dc.Res.val

theorem box3' {w w1 : World} {a b c : Value} {t : TypeId} {B : Nat} (hb : Below B (w.alloc (.cells #[a, b, c] t)) w1) (hB : w.heap.size < B) :
    w1.cell? ⟨w.heap.size, 0, none⟩ = some a ∧ w1.cell? ⟨w.heap.size, 1, none⟩ = some b ∧ w1.cell? ⟨w.heap.size, 2, none⟩ = some c := by
  refine ⟨?_, ?_, ?_⟩ <;> (rw [hb.cell (p := ⟨w.heap.size, _, none⟩) hB]; simp [go_sem])

theorem digAt_getD (s : ByteArray) (k : Nat) : digAt s k = s.data.toList.getD k 48 := by
  by_cases h : k < s.size
  · rw [← digAt_in s k k h rfl, List.getD_eq_getElem?_getD, Dc.get?_bytes s k h]; rfl
  · rw [digAt_out s k (by omega), List.getD_eq_getElem?_getD, List.getElem?_eq_none (by rw [bs_length]; omega)]; rfl

theorem one_byte (W : World) (c : UInt8) : (convert 106 9 (.slice (some ⟨W.heap.size, 0, none⟩) 1 1)).run Tryz.prog (W.alloc (.cells #[.int .u8 (c.toNat : Int)] 5)) = .ok (.string ⟨#[c]⟩) (W.alloc (.cells #[.int .u8 (c.toNat : Int)] 5)) := by
  refine run_convert_bytes_back _ _ _ 5 ⟨W.heap.size, 0, none⟩ 1 [c] Tryz.underlying106 Tryz.underlying5 Tryz.underlying9 ?_
  intro j hj
  obtain rfl : j = 0 := by simp at hj; omega
  have ha : (⟨W.heap.size, 0, none⟩ : Addr).add 0 = ⟨W.heap.size, 0, none⟩ := by unfold Addr.add; simp
  rw [ha]; simp [go_sem]

set_option maxRecDepth 100000 in
set_option maxHeartbeats 2000000 in
theorem r7_print_body (n : Bool) (s V : ByteArray) (x : Int) (w : World) (hs : s.size ≤ 1100) (hx : -100000 ≤ x ∧ x ≤ 100000) (hV : V = if n then ⟨#[45]⟩ else ⟨#[]⟩) (hr : Dc.right s.data.toList x = true) :
    Calls Tryz.prog 26 #[.agg #[.bool n, .string s, .int .i64 x]] w (RetB (.string ⟨(Dc.body V.data.toList s.data.toList ((s.size : Int) + x)).toArray⟩) w) := by
  have hright := fun w => r7_right_any n s x w (by omega)
  rw [hr] at hright
  have hpt := fun w => r7_point_any n s x w (by omega)
  have hpe : Dc.point s.data.toList x = (s.size : Int) + x := by rw [Dc.point_eq, if_pos hr]
  rw [hpe] at hpt
  obtain ⟨p, hp⟩ : ∃ p, p = (s.size : Int) + x := ⟨_, rfl⟩
  obtain ⟨r, hrr⟩ : ∃ r : ByteArray, r = ⟨(Dc.body V.data.toList s.data.toList p).toArray⟩ := ⟨_, rfl⟩
  have hpb : -100000 ≤ p ∧ p ≤ 110000 := by omega
  rw [← hp, ← hrr]
  rw [← hp] at hpt
  obtain ⟨hp1, hp2⟩ := hpb
  have hVs : V.size ≤ 1 := by rw [hV]; cases n <;> decide
  have hb0 : Below w.heap.size w (w.alloc (.cells #[.bool n, .string s, .int .i64 x] 25)) := (Below.refl _ _).alloc (Nat.le_refl _) _
  have HPE := Lib.hid hp
  have HB0 := Lib.hid hb0; have HRT := Lib.hid hright; have HPT := Lib.hid hpt; have HRR := Lib.hid hrr; have HVV := Lib.hid hV
  clear hb0 hright hpt hrr hV hr hp hpe hx
  go_enter Tryz.func26, Tryz.ntmps26
  go_upto_if 14 with (go_at_call 91; (with_reducible refine (HRT.out _).mono ?_); rintro e w1 ⟨rfl, hb_w1⟩; have hB_w1 : Below (w.alloc (.cells #[.bool n, .string s, .int .i64 x] 25)).heap.size (w.alloc (.cells #[.bool n, .string s, .int .i64 x] 25)) w1 := Below.trans (by (repeat (first | exact Below.refl _ _ | assumption | refine Below.setCell ?_ (by first | omega | (simp <;> omega)) _ | refine Below.alloc ?_ (by first | omega | (simp <;> omega)) _ | refine Below.drew ?_ | refine below_drewN' ?_ _))) (hb_w1.mono (by first | omega | (simp <;> omega))); obtain ⟨hc_w1, hf_w1⟩ := bcell hb_w1; have hz_w1 := hb_w1.size; (try simp only [size_drew', size_drewN', World.size_alloc, World.size_setCell] at hz_w1); have hl0_w1 : w.heap.size < w1.heap.size := (by omega); have hm0_w1 : w.heap.size ≤ w1.heap.size := (by omega); have hn0_w1 : ¬ w.heap.size = w1.heap.size := (by omega); have hq0_w1 : ¬ w1.heap.size = w.heap.size := (by omega); have hr0_w1 := fun o => hc_w1 (w.heap.size) o (by (try simp only [size_drew', size_drewN', World.size_alloc, World.size_setCell]); omega); have hg0_w1 := fun o => hf_w1 (w.heap.size) o (by (try simp only [size_drew', size_drewN', World.size_alloc, World.size_setCell]); omega))
  go_cut [4] (fun a wr => a = .string V ∧ wr = w1)
  case first =>
    have hvv := HVV.out
    cases n
    · have e : V = ⟨#[]⟩ := hvv
      subst e
      go_wp2; go_meet; exact ⟨rfl, rfl⟩
    · have e : V = ⟨#[45]⟩ := hvv
      subst e
      go_wp2; go_meet; exact ⟨rfl, rfl⟩
  case rest =>
    obtain ⟨rfl, hwc⟩ := hcut
    subst hwc
    obtain ⟨k0, k1, k2⟩ := box3' hB_w1 (by simp)
    go_upto_if 20 with (go_at_call 75; (with_reducible refine (HPT.out _).mono ?_); rintro e w2 ⟨rfl, hb_w2⟩; have hB_w2 : Below (w.alloc (.cells #[.bool n, .string s, .int .i64 x] 25)).heap.size (w.alloc (.cells #[.bool n, .string s, .int .i64 x] 25)) w2 := Below.trans (by (repeat (first | exact Below.refl _ _ | assumption | refine Below.setCell ?_ (by first | omega | (simp <;> omega)) _ | refine Below.alloc ?_ (by first | omega | (simp <;> omega)) _ | refine Below.drew ?_ | refine below_drewN' ?_ _))) (hb_w2.mono (by first | omega | (simp <;> omega))); obtain ⟨hc_w2, hf_w2⟩ := bcell hb_w2; have hz_w2 := hb_w2.size; (try simp only [size_drew', size_drewN', World.size_alloc, World.size_setCell] at hz_w2); have hl0_w2 : w.heap.size < w2.heap.size := (by omega); have hm0_w2 : w.heap.size ≤ w2.heap.size := (by omega); have hn0_w2 : ¬ w.heap.size = w2.heap.size := (by omega); have hq0_w2 : ¬ w2.heap.size = w.heap.size := (by omega); have hr0_w2 := fun o => hc_w2 (w.heap.size) o (by (try simp only [size_drew', size_drewN', World.size_alloc, World.size_setCell]); omega); have hg0_w2 := fun o => hf_w2 (w.heap.size) o (by (try simp only [size_drew', size_drewN', World.size_alloc, World.size_setCell]); omega))
    have k3 := box3' hB_w2 (by simp)
    obtain ⟨m0, m1, m2⟩ := k3
    clear k0 k1 k2
    have hBw := HB0.out.trans (hB_w2.mono (by simp))
    by_cases c0 : s.size = 0
    · have e0 : ((s.size : Int) == 0) = true := beq_iff_eq.2 (by omega)
      have hf : V ++ ⟨#[48]⟩ = r := by
        rw [HRR.out]; refine Dc.ba_eq _ _ ?_
        rw [Dc.ba_app, Dc.body, if_pos (List.length_eq_zero_iff.1 (by simpa using c0))]
      have HF := Lib.hid hf; have HC0 := Lib.hid c0; clear c0 hf
      replace c0 : s.size ≤ 0 := by have := HC0.out; omega
      go_wp2
      go_ret
      exact RetB.of (congrArg Value.string HF.out) hBw
    · have e0 : ((s.size : Int) == 0) = false := beq_eq_false_iff_ne.2 (by omega)
      have hne : s.data.toList ≠ [] := fun e => c0 (by have := congrArg List.length e; rwa [bs_length] at this)
      have hl : s.data.toList.length = s.size := bs_length s
      have hbody := HRR.out
      rw [Dc.body, if_neg hne, hl] at hbody
      have HBD := Lib.hid hbody; have HL := Lib.hid hl; clear hbody hne hl
      have hc0 : 0 < s.size := by omega
      clear c0
      by_cases c1 : 1 ≤ p ∧ p ≤ 21
      · obtain ⟨c1, c2⟩ := c1
        obtain ⟨P, hP⟩ : ∃ P : Nat, p = P := ⟨p.toNat, by omega⟩
        have hfin : ∀ (i : Nat), i = max P s.size → pre V.data.toList s.data.toList P i = Dc.body V.data.toList s.data.toList p := fun i hi => by
          rw [hP]; exact pre_body _ _ P (fun e => by have := congrArg List.length e; rw [bs_length, List.length_nil] at this; omega) (by omega) (by omega) i (by rw [bs_length]; exact hi)
        have HFN := Lib.hid hfin; clear hfin
        have hcv := fun (W : World) (c : UInt8) => one_byte W c
        subst hP
        have hat : ∀ (k : Nat) (W : World), k ≤ 10000 → Calls Tryz.prog 92 #[.agg #[.bool n, .string s, .int .i64 x], .int .i64 ((P : Int) - 1 - k)] W (RetB (.int .u8 ((s.data.toList.getD k 48).toNat)) W) := fun k W hk => by
          rw [← digAt_getD]; exact r7_at_any n s x _ k W (by omega) (by have := HPE.out; omega) (by omega) (by have := HPE.out; omega)
        have HAT := Lib.hid hat; clear hat
        go_wp2_with fail
        go_loopw [4, 7] (fun a i wr => ∃ k : Nat, k ≤ max P s.size ∧ i = .int .i64 k ∧ a = .string ⟨(pre V.data.toList s.data.toList P k).toArray⟩ ∧ Below (w.heap.size + 1) (w.alloc (.cells #[.bool n, .string s, .int .i64 x] 25)) wr) (fun _ i _ => max P s.size - (intOf i).toNat)
        case atStart => exact ⟨0, Nat.zero_le _, rfl, by rw [pre_zero], hB_w2.mono (by simp)⟩
        case round =>
          obtain ⟨k, hk, rfl, rfl, hbw⟩ := hrel
          obtain ⟨A, hA⟩ : ∃ A : ByteArray, A = ⟨(pre V.data.toList s.data.toList P k).toArray⟩ := ⟨_, rfl⟩
          have hAs : A.size ≤ 10000 := by rw [hA, size_mk]; have := pre_len V.data.toList s.data.toList P k; rw [bs_length] at this; omega
          rw [← hA]
          obtain ⟨q0, q1, q2⟩ := box3' hbw (by omega)
          have hbz := hbw.size
          simp only [World.size_alloc] at hbz
          have HBW := Lib.hid hbw; have HA := Lib.hid hA; clear hbw hA
          by_cases hlt : k < max P s.size
          · obtain ⟨c, hc⟩ : ∃ c, c = s.data.toList.getD k 48 := ⟨_, rfl⟩
            have h1 := fun W => HAT.out k W (by omega)
            rw [← hc] at h1
            have hs := pre_succ V.data.toList s.data.toList P k
            rw [← hc] at hs
            have H1 := Lib.hid h1; have HS := Lib.hid hs; clear h1 hs hc
            have s1 : ¬ 9223372036854775807 < A.size + 1 := by omega
            have s2 : ¬ 9223372036854775807 < A.size + 1 + 1 := by omega
            by_cases hkp : k < P
            · have e1 : ((k : Int) == P) = false := beq_eq_false_iff_ne.2 (by omega)
              go_wp2_with (go_at_call 92; (with_reducible refine (H1.out _).mono ?_); rintro e w5 ⟨rfl, hb_w5⟩; have hB_w5 : Below (wr).heap.size (wr) w5 := Below.trans (by (repeat (first | exact Below.refl _ _ | assumption | refine Below.setCell ?_ (by first | omega | (simp <;> omega)) _ | refine Below.alloc ?_ (by first | omega | (simp <;> omega)) _ | refine Below.drew ?_ | refine below_drewN' ?_ _))) (hb_w5.mono (by first | omega | (simp <;> omega))); obtain ⟨hc_w5, hf_w5⟩ := bcell hb_w5; have hz_w5 := hb_w5.size; (try simp only [size_drew', size_drewN', World.size_alloc, World.size_setCell] at hz_w5))
              go_roundw
              case rel => exact ⟨k + 1, by omega, by go_num, by rw [HS.out, if_neg (by omega)]; congr 1; exact Dc.ba_eq _ _ (by rw [Dc.ba_app, HA.out]; rfl), HBW.out.trans ((hB_w5.mono (by omega)).alloc (by omega) _)⟩
              case measure => simp [intOf]; omega
            · by_cases hkq : k = P
              · have e1 : ((k : Int) == P) = true := beq_iff_eq.2 (by omega)
                have HKQ := Lib.hid hkq; clear hkq
                go_wp2_with (go_at_call 92; (with_reducible refine (H1.out _).mono ?_); rintro e w6 ⟨rfl, hb_w6⟩; have hB_w6 : Below (wr).heap.size (wr) w6 := Below.trans (by (repeat (first | exact Below.refl _ _ | assumption | refine Below.setCell ?_ (by first | omega | (simp <;> omega)) _ | refine Below.alloc ?_ (by first | omega | (simp <;> omega)) _ | refine Below.drew ?_ | refine below_drewN' ?_ _))) (hb_w6.mono (by first | omega | (simp <;> omega))); obtain ⟨hc_w6, hf_w6⟩ := bcell hb_w6; have hz_w6 := hb_w6.size; (try simp only [size_drew', size_drewN', World.size_alloc, World.size_setCell] at hz_w6))
                go_roundw
                case rel => exact ⟨k + 1, by omega, by go_num, by rw [HS.out, if_pos HKQ.out]; congr 1; exact Dc.ba_eq _ _ (by rw [Dc.ba_app, Dc.ba_app, HA.out]; simp), HBW.out.trans ((hB_w6.mono (by omega)).alloc (by omega) _)⟩
                case measure => simp [intOf]; omega
              · have e1 : ((k : Int) == P) = false := beq_eq_false_iff_ne.2 (by omega)
                go_wp2_with (go_at_call 92; (with_reducible refine (H1.out _).mono ?_); rintro e w7 ⟨rfl, hb_w7⟩; have hB_w7 : Below (wr).heap.size (wr) w7 := Below.trans (by (repeat (first | exact Below.refl _ _ | assumption | refine Below.setCell ?_ (by first | omega | (simp <;> omega)) _ | refine Below.alloc ?_ (by first | omega | (simp <;> omega)) _ | refine Below.drew ?_ | refine below_drewN' ?_ _))) (hb_w7.mono (by first | omega | (simp <;> omega))); obtain ⟨hc_w7, hf_w7⟩ := bcell hb_w7; have hz_w7 := hb_w7.size; (try simp only [size_drew', size_drewN', World.size_alloc, World.size_setCell] at hz_w7))
                go_roundw
                case rel => exact ⟨k + 1, by omega, by go_num, by rw [HS.out, if_neg (by omega)]; congr 1; exact Dc.ba_eq _ _ (by rw [Dc.ba_app, HA.out]; rfl), HBW.out.trans ((hB_w7.mono (by omega)).alloc (by omega) _)⟩
                case measure => simp [intOf]; omega
          · go_wp2
            go_ret
            exact RetB.of (congrArg Value.string (by rw [HA.out, HFN.out k (by omega)]; exact HRR.out.symm)) (HB0.out.trans (HBW.out.mono (by omega)))
      · by_cases c2 : -5 ≤ p ∧ p ≤ 0
        · obtain ⟨c3, c4⟩ := c2
          have hf : ∀ k : Nat, (k : Int) = -p → V.data.toList ++ [48, 46] ++ Lib.repeatL [48] k ++ s.data.toList = r.data.toList := fun k hk => by
            rw [HBD.out, if_neg (fun h => c1 ⟨h.1, h.2.1⟩), if_neg c1, if_pos ⟨c3, c4⟩, show (-p).toNat = k by omega]
          have HF := Lib.hid hf; clear hf c1
          have hwr : IntKind.i64.wrap (-p) = -p := IntWalk.i64_in _ (by omega)
          have s0 : ¬ 9223372036854775807 < V.size + 2 := by omega
          go_wp2_with fail
          go_loop [4, 8] (fun a i => ∃ k : Nat, (k : Int) ≤ -p ∧ i = .int .i64 k ∧ a = .string ⟨(V.data.toList ++ [48, 46] ++ Lib.repeatL [48] k).toArray⟩) (fun _ i => (-p - intOf i).toNat)
          case atStart => exact ⟨0, by omega, rfl, by congr 1; exact Dc.ba_eq _ _ (by rw [Dc.ba_app]; simp [Lib.repeatL])⟩
          case round =>
            obtain ⟨k, hk, rfl, rfl⟩ := hrel
            obtain ⟨A, hA⟩ : ∃ A : ByteArray, A = ⟨(V.data.toList ++ [48, 46] ++ Lib.repeatL [48] k).toArray⟩ := ⟨_, rfl⟩
            have hAs : A.size ≤ 100 := by rw [hA, size_mk, List.length_append, List.length_append, Lib.repeatL_length, bs_length]; simp; omega
            rw [← hA]
            have HA := Lib.hid hA; clear hA
            have s1 : ¬ 9223372036854775807 < A.size + 1 := by omega
            have s2 : ¬ 9223372036854775807 < A.size + s.size := by omega
            by_cases hlt : (k : Int) < -p
            · go_wp2
              go_round
              case rel => exact ⟨k + 1, by omega, by go_num, by congr 1; exact Dc.ba_eq _ _ (by rw [Dc.ba_app, HA.out, show k + 1 = k + 1 from rfl, Lib.repeatL_add, Lib.repeatL_one]; simp)⟩
              case measure => simp [intOf]; omega
            · go_wp2
              go_ret
              exact RetB.of (congrArg Value.string (Dc.ba_eq _ _ (by rw [Dc.ba_app, HA.out]; exact HF.out k (by omega)))) hBw
        · have hbody := HBD.out
          rw [if_neg (fun h => c1 ⟨h.1, h.2.1⟩), if_neg c1, if_neg c2] at hbody
          have HBX := Lib.hid hbody
          have hgo : p < -5 ∨ 21 < p := by omega
          have HGO := Lib.hid hgo; clear hbody c1 c2 hgo
          obtain ⟨K, hKe⟩ : ∃ K, K = s.extract 0 1 := ⟨_, rfl⟩
          obtain ⟨R, hRe⟩ : ∃ R, R = s.extract 1 s.size := ⟨_, rfl⟩
          have hKs : K.size ≤ 1100 := by rw [hKe, ByteArray.size_extract]; omega
          have hRs : R.size ≤ 1100 := by rw [hRe, ByteArray.size_extract]; omega
          have hsl : ∀ w : World, (Instr.slice 9 (.string s) none (some (.int .i64 1)) none).run Tryz.prog w = .ok (.string K) w := fun w => by
            rw [hKe, run_slice_string_to_if w _ s .i64 1 Tryz.underlying9, if_pos (by omega)]; rfl
          have hsr : ∀ w : World, (Instr.slice 9 (.string s) (some (.int .i64 1)) none none).run Tryz.prog w = .ok (.string R) w := fun w => by
            rw [hRe, run_slice_string_from_if w _ s .i64 1 Tryz.underlying9, if_pos (by omega)]; rfl
          have hK : K.data.toList = s.data.toList.take 1 := by rw [hKe, Lib.extract_data, List.drop_zero]
          have hR : R.data.toList = s.data.toList.drop 1 := by rw [hRe]; exact Lib.extract_to_end s 1
          obtain ⟨U, hU⟩ : ∃ U : ByteArray, U = if 1 < s.size then V ++ K ++ ⟨#[46]⟩ ++ R else V ++ K := ⟨_, rfl⟩
          have hUs : U.size ≤ 3000 := by
            have h46 : (⟨#[46]⟩ : ByteArray).size = 1 := rfl
            rw [hU]; split <;> simp only [ByteArray.size_append, h46] <;> omega
          have hUl : U.data.toList = if 1 < s.size then V.data.toList ++ s.data.toList.take 1 ++ [46] ++ s.data.toList.drop 1 else V.data.toList ++ s.data.toList.take 1 := by
            rw [hU]
            split
            · rw [Dc.ba_app, Dc.ba_app, Dc.ba_app, hK, hR]
            · rw [Dc.ba_app, hK]
          have HUU := Lib.hid hU; have HUL := Lib.hid hUl
          clear hU hUl hKe hRe hK hR
          have s1 : ¬ 9223372036854775807 < V.size + K.size := by omega
          have s2 : ¬ 9223372036854775807 < V.size + K.size + 1 := by omega
          have s3 : ¬ 9223372036854775807 < V.size + K.size + 1 + R.size := by omega
          have s4 : ¬ 9223372036854775807 < U.size + 2 := by omega
          have n1 : ¬ (1 ≤ p ∧ p ≤ 21) := by have := HGO.out; omega
          have n2 : ¬ (-5 ≤ p ∧ p ≤ 0) := by have := HGO.out; omega
          rcases HGO.out with hg | hg
          · obtain ⟨I, hI⟩ : ∃ I : ByteArray, I = ⟨(Lib.itoa (1 - p)).toArray⟩ := ⟨_, rfl⟩
            have hIs : I.size ≤ 30 := by rw [hI, size_mk]; exact Dc.itoa_len _ (by omega)
            have hit : ∀ w1, Calls Tryz.prog 93 #[.int .i64 (1 - p)] w1 (RetB (.string I) w1) := fun w1 => by
              have h := r7_number_any (1 - p).toNat w1 (by omega)
              rw [Int.toNat_of_nonneg (by omega), ← hI] at h; exact h
            have hf : U ++ ⟨#[101, 45]⟩ ++ I = r := by
              rw [HBX.out, if_pos (by omega)]; refine Dc.ba_eq _ _ ?_
              rw [Dc.ba_app, Dc.ba_app, hI, HUL.out]; simp [bs_length]
            have HF := Lib.hid hf; have HI := Lib.hid hit; clear hf hit hI n1 n2
            have s5 : ¬ 9223372036854775807 < U.size + 2 + I.size := by omega
            go_upto_if 85 with (fail)
            go_cut [4] (fun a wr => a = .string U ∧ wr = w2)
            case first =>
              by_cases c9 : 1 < s.size
              · have hu := HUU.out; rw [if_pos c9] at hu
                have HU2 := Lib.hid hu; clear hu
                go_wp2; go_meet
                exact ⟨by rw [HU2.out], rfl⟩
              · have hu := HUU.out; rw [if_neg c9] at hu
                have HU2 := Lib.hid hu; clear hu
                go_wp2; go_meet
                exact ⟨by rw [HU2.out], rfl⟩
            case rest =>
              obtain ⟨rfl, hwc⟩ := hcut
              subst hwc
              go_wp2_with (go_at_call 93; (with_reducible refine (HI.out _).mono ?_); rintro e w5 ⟨rfl, hb_w5⟩; have hB_w5 : Below (w).heap.size (w) w5 := Below.trans (by (repeat (first | exact Below.refl _ _ | assumption | refine Below.setCell ?_ (by first | omega | (simp <;> omega)) _ | refine Below.alloc ?_ (by first | omega | (simp <;> omega)) _ | refine Below.drew ?_ | refine below_drewN' ?_ _))) (hb_w5.mono (by first | omega | (simp <;> omega))); obtain ⟨hc_w5, hf_w5⟩ := bcell hb_w5; have hz_w5 := hb_w5.size; (try simp only [size_drew', size_drewN', World.size_alloc, World.size_setCell] at hz_w5); have hl0_w5 : w.heap.size < w5.heap.size := (by omega); have hm0_w5 : w.heap.size ≤ w5.heap.size := (by omega); have hn0_w5 : ¬ w.heap.size = w5.heap.size := (by omega); have hq0_w5 : ¬ w5.heap.size = w.heap.size := (by omega); have hr0_w5 := fun o => hc_w5 (w.heap.size) o (by (try simp only [size_drew', size_drewN', World.size_alloc, World.size_setCell]); omega); have hg0_w5 := fun o => hf_w5 (w.heap.size) o (by (try simp only [size_drew', size_drewN', World.size_alloc, World.size_setCell]); omega))
              go_ret
              exact RetB.of (congrArg Value.string HF.out) hB_w5
          · obtain ⟨I, hI⟩ : ∃ I : ByteArray, I = ⟨(Lib.itoa (p - 1)).toArray⟩ := ⟨_, rfl⟩
            have hIs : I.size ≤ 30 := by rw [hI, size_mk]; exact Dc.itoa_len _ (by omega)
            have hit : ∀ w1, Calls Tryz.prog 93 #[.int .i64 (p - 1)] w1 (RetB (.string I) w1) := fun w1 => by
              have h := r7_number_any (p - 1).toNat w1 (by omega)
              rw [Int.toNat_of_nonneg (by omega), ← hI] at h; exact h
            have hf : U ++ ⟨#[101, 43]⟩ ++ I = r := by
              rw [HBX.out, if_neg (by omega)]; refine Dc.ba_eq _ _ ?_
              rw [Dc.ba_app, Dc.ba_app, hI, HUL.out]; simp [bs_length]
            have HF := Lib.hid hf; have HI := Lib.hid hit; clear hf hit hI n1 n2
            have s5 : ¬ 9223372036854775807 < U.size + 2 + I.size := by omega
            go_upto_if 85 with (fail)
            go_cut [4] (fun a wr => a = .string U ∧ wr = w2)
            case first =>
              by_cases c9 : 1 < s.size
              · have hu := HUU.out; rw [if_pos c9] at hu
                have HU2 := Lib.hid hu; clear hu
                go_wp2; go_meet
                exact ⟨by rw [HU2.out], rfl⟩
              · have hu := HUU.out; rw [if_neg c9] at hu
                have HU2 := Lib.hid hu; clear hu
                go_wp2; go_meet
                exact ⟨by rw [HU2.out], rfl⟩
            case rest =>
              obtain ⟨rfl, hwc⟩ := hcut
              subst hwc
              go_wp2_with (go_at_call 93; (with_reducible refine (HI.out _).mono ?_); rintro e w5 ⟨rfl, hb_w5⟩; have hB_w5 : Below (w).heap.size (w) w5 := Below.trans (by (repeat (first | exact Below.refl _ _ | assumption | refine Below.setCell ?_ (by first | omega | (simp <;> omega)) _ | refine Below.alloc ?_ (by first | omega | (simp <;> omega)) _ | refine Below.drew ?_ | refine below_drewN' ?_ _))) (hb_w5.mono (by first | omega | (simp <;> omega))); obtain ⟨hc_w5, hf_w5⟩ := bcell hb_w5; have hz_w5 := hb_w5.size; (try simp only [size_drew', size_drewN', World.size_alloc, World.size_setCell] at hz_w5); have hl0_w5 : w.heap.size < w5.heap.size := (by omega); have hm0_w5 : w.heap.size ≤ w5.heap.size := (by omega); have hn0_w5 : ¬ w.heap.size = w5.heap.size := (by omega); have hq0_w5 : ¬ w5.heap.size = w.heap.size := (by omega); have hr0_w5 := fun o => hc_w5 (w.heap.size) o (by (try simp only [size_drew', size_drewN', World.size_alloc, World.size_setCell]); omega); have hg0_w5 := fun o => hf_w5 (w.heap.size) o (by (try simp only [size_drew', size_drewN', World.size_alloc, World.size_setCell]); omega))
              go_ret
              exact RetB.of (congrArg Value.string HF.out) hB_w5

theorem r7_print_any (n : Bool) (s : ByteArray) (x : Int) (w : World) (hs : s.size ≤ 1000000) (hx : -9223372036854775808 ≤ x ∧ x ≤ 9223372036854775807) :
    Calls Tryz.prog 26 #[.agg #[.bool n, .string s, .int .i64 x]] w (RetB (.string ⟨(Dc.print n s.data.toList x).toArray⟩) w) := by
  have hright := fun w => r7_right_any n s x w (by omega)
  cases hr : Dc.right s.data.toList x with
  | true =>
    have hl := Dc.right_len hr
    have hxx := Dc.right_exp hr
    rw [bs_length] at hl
    have := r7_print_body n s (if n then ⟨#[45]⟩ else ⟨#[]⟩) x w hl hxx rfl hr
    rw [Dc.print, if_pos hr, bs_length]
    cases n
    · exact this
    · exact this
  | false =>
    rw [hr] at hright
    rw [Dc.print, if_neg (by rw [hr]; simp)]
    have HR := Lib.hid hright; clear hright hr
    go_enter Tryz.func26, Tryz.ntmps26
    go_wp2_with (go_at_call 91; (with_reducible refine (HR.out _).mono ?_); rintro e w1 ⟨rfl, hb_w1⟩; have hB_w1 : Below (w).heap.size (w) w1 := Below.trans (by (repeat (first | exact Below.refl _ _ | assumption | refine Below.setCell ?_ (by first | omega | (simp <;> omega)) _ | refine Below.alloc ?_ (by first | omega | (simp <;> omega)) _ | refine Below.drew ?_ | refine below_drewN' ?_ _))) (hb_w1.mono (by first | omega | (simp <;> omega))); obtain ⟨hc_w1, hf_w1⟩ := bcell hb_w1; have hz_w1 := hb_w1.size; (try simp only [size_drew', size_drewN', World.size_alloc, World.size_setCell] at hz_w1); have hl0_w1 : w.heap.size < w1.heap.size := (by omega); have hm0_w1 : w.heap.size ≤ w1.heap.size := (by omega); have hn0_w1 : ¬ w.heap.size = w1.heap.size := (by omega); have hq0_w1 : ¬ w1.heap.size = w.heap.size := (by omega); have hr0_w1 := fun o => hc_w1 (w.heap.size) o (by (try simp only [size_drew', size_drewN', World.size_alloc, World.size_setCell]); omega); have hg0_w1 := fun o => hf_w1 (w.heap.size) o (by (try simp only [size_drew', size_drewN', World.size_alloc, World.size_setCell]); omega))
    go_ret
    exact RetB.of rfl hB_w1
end Go.Proofs.YtjnkbifafbjckaaGreatDoor

/- Plain Lean: the nearest fraction is in its lowest terms; a number of eighths is told as it is. -/
namespace Go.Proofs.YtjnkbifafbjckaaGreatDoor.Fl
set_option linter.all false
open Go

theorem gap_mul (r u p q g : Nat) : gap r u (g * p) (g * q) = g * gap r u p q := by
  by_cases hg : g = 0
  · subst hg; simp [gap]
  · have e : r * (g * q) < u * (g * p) ↔ r * q < u * p := by
      rw [Nat.mul_left_comm r, Nat.mul_left_comm u, Nat.mul_lt_mul_left (by omega)]
    unfold gap
    simp only [e]
    split <;> rw [Nat.mul_sub, Nat.mul_left_comm g r, Nat.mul_left_comm g u]
theorem low_pick {r u n p : Nat} {b : Nat × Nat} (hb : Nat.gcd b.1 b.2 = 1)
    (hle : ∀ p' q', 1 ≤ q' → q' ≤ n → gap r u b.1 b.2 * q' ≤ gap r u p' q' * b.2) : Nat.gcd (pick r u p (n + 1) b).1 (pick r u p (n + 1) b).2 = 1 := by
  unfold pick
  split
  · rename_i hn
    have hn := of_decide_eq_true hn
    show Nat.gcd p (n + 1) = 1
    obtain ⟨p', hp⟩ := Nat.gcd_dvd_left p (n + 1)
    obtain ⟨q', hq⟩ := Nat.gcd_dvd_right p (n + 1)
    obtain ⟨g, hg⟩ : ∃ g, g = Nat.gcd p (n + 1) := ⟨_, rfl⟩
    rw [← hg] at hp hq ⊢
    by_cases h1 : g = 1
    · exact h1
    · exfalso
      have hg0 : g ≠ 0 := by intro e; rw [e, Nat.zero_mul] at hq; omega
      have hq0 : q' ≠ 0 := by intro e; rw [e, Nat.mul_zero] at hq; omega
      have h2 : 2 * q' ≤ g * q' := Nat.mul_le_mul_right _ (by omega)
      have h3 := Nat.mul_le_mul_left g (hle p' q' (by omega) (by omega))
      have e1 : g * (gap r u p' q' * b.2) = gap r u p (n + 1) * b.2 := by rw [← Nat.mul_assoc, ← gap_mul, ← hp, ← hq]
      have e2 : g * (gap r u b.1 b.2 * q') = gap r u b.1 b.2 * (n + 1) := by rw [Nat.mul_left_comm, ← hq]
      rw [e1, e2] at h3
      omega
  · exact hb
theorem best_low {r u : Nat} (hr : r < u) (n : Nat) : Nat.gcd (best r u n).1 (best r u n).2 = 1 := by
  induction n with
  | zero => exact Nat.gcd_zero_left 1
  | succ n ih =>
    obtain ⟨b1, _⟩ := best_bounds hr n
    show Nat.gcd (turn r u (best r u n) (n + 1)).1 (turn r u (best r u n) (n + 1)).2 = 1
    unfold turn
    have h1 := low_pick (p := r * (n + 1) / u) ih (fun p' q' h1 h2 => best_all hr n p' q' h1 h2)
    exact low_pick h1 (fun p' q' h1 h2 => pick_le (by omega) b1 (best_all hr n p' q' h1 h2))

theorem of_exp (s : Bool) (n : Nat) (e : Int) (he : 0 ≤ e) : 0 ≤ (of s n e).x := by
  rw [of, if_pos he, Dc.mk]
  split
  · split
    · exact Int.le_refl 0
    · split
      · show (0 : Int) ≤ 0 + _; omega
      · exact Int.le_refl 0
  · exact Int.le_refl 0
/-- A natural's decimal. -/
theorem of_nat (s : Bool) (n k : Nat) (hn : n < 2 ^ 54) (hk : k ≤ n971) : ∃ (l : Dc.Bs) (X : Int), of s n k = ⟨s, l, X, 0⟩ ∧ Dc.right l X = true ∧ 0 ≤ X ∧ Dc.vv l X = n * 2 ^ k * 10 ^ Dc.lift := by
  have h971 : n971 = 971 := rfl
  have hI := of_is s n (k : Int) hn (by omega)
  obtain ⟨-, h2⟩ := of_sign s (!s) n (k : Int) hI.ok
  refine ⟨(of s n k).l, (of s n k).x, ?_, hI.right, of_exp s n k (by omega), ?_⟩
  · have e := hI.ok
    rcases hr : of s n k with ⟨a, b, c, d⟩
    rw [hr] at h2 e
    simp only at h2 e
    rw [h2, e]
  · have := hI.worth
    rw [show ((k : Int) + (low : Int) + 1).toNat = k + (low + 1) by omega, Nat.pow_add 2 k (low + 1), ← Nat.mul_assoc n, Nat.mul_right_comm] at this
    exact Nat.eq_of_mul_eq_mul_right (Nat.pow_pos (by decide)) this

/-- What the law asks of a fraction. -/
theorem ratio_fine (x : Nat) (hk : kind x < 3) (most : Int) (hm : 1 ≤ most ∧ most ≤ 200) : ∃ (l : Dc.Bs) (X : Int) (p q : Nat), ratio x most = ⟨⟨neg x, l, X, 0⟩, p, q, 0⟩ ∧ Dc.right l X = true ∧ 0 ≤ X ∧ 1 ≤ q ∧ (q : Int) ≤ most ∧ p < q ∧ Nat.gcd q p = 1 := by
  have hb := expn_bound x
  have hma := mant_lt x
  have h971 : n971 = 971 := rfl
  rw [ratio, if_neg (by omega), if_neg (by omega)]
  by_cases he : 0 ≤ expn x
  · obtain ⟨k, hke⟩ : ∃ k : Nat, expn x = k := ⟨(expn x).toNat, by omega⟩
    obtain ⟨l, X, h1, h2, h3, -⟩ := of_nat (neg x) (mant x) k (by omega) (by omega)
    rw [if_pos he, hke, h1]
    exact ⟨l, X, 0, 1, rfl, h2, h3, Nat.le_refl _, hm.1, by decide, by decide⟩
  · rw [if_neg he]
    obtain ⟨u, hu⟩ : ∃ u, u = 2 ^ (-expn x).toNat := ⟨_, rfl⟩
    rw [← hu]
    have hu0 : 0 < u := by rw [hu]; exact Nat.pow_pos (by decide)
    have hr := Nat.mod_lt (mant x) hu0
    have hq := Nat.div_le_self (mant x) u
    obtain ⟨b1, b2, b3⟩ := best_bounds hr most.toNat
    by_cases h1 : best (mant x % u) u most.toNat = (1, 1)
    · obtain ⟨l, X, k1, k2, k3, -⟩ := of_nat (neg x) (mant x / u + 1) 0 (by omega) (by omega)
      have k1' : of (neg x) (mant x / u + 1) 0 = ⟨neg x, l, X, 0⟩ := k1
      rw [if_pos h1, k1']
      exact ⟨l, X, 0, 1, rfl, k2, k3, Nat.le_refl _, hm.1, by decide, by decide⟩
    · obtain ⟨l, X, k1, k2, k3, -⟩ := of_nat (neg x) (mant x / u) 0 (by omega) (by omega)
      have k1' : of (neg x) (mant x / u) 0 = ⟨neg x, l, X, 0⟩ := k1
      rw [if_neg h1, k1']
      refine ⟨l, X, _, _, rfl, k2, k3, b1, by omega, ?_, by rw [Nat.gcd_comm]; exact best_low hr _⟩
      rcases Nat.lt_or_ge (best (mant x % u) u most.toNat).1 (best (mant x % u) u most.toNat).2 with h | h
      · exact h
      · exact absurd (best_whole hr _ (by omega)) h1

end Go.Proofs.YtjnkbifafbjckaaGreatDoor.Fl
