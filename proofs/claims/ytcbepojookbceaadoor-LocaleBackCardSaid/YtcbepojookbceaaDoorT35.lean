import Derived.Test.YtcbepojookbceaaDoorT34
import Derived.Test.YtcbepojookbceaaDoorLoc2
import Derived.Deep.DeepCutAuto
namespace Go.Proofs.YtcbepojookbceaaDoor
set_option linter.all false
open Go.RowKit

theorem getD_out (s : ByteArray) (k : Nat) (h : s.size ≤ k) : s.data.toList.getD k 48 = 48 := by
  rw [List.getD_eq_getElem?_getD, List.getElem?_eq_none (by rw [bs_length]; exact h)]; rfl
theorem one_of (s : ByteArray) (k : Nat) (h : k < s.size) : (s.extract k (k + 1)).data.toList = [s.data.toList.getD k 48] := by
  rw [Lib.extract_data, show k + 1 - k = 1 by omega]
  have h2 : k < s.data.toList.length := by rw [bs_length]; exact h
  rw [List.drop_eq_getElem_cons h2, List.getD_eq_getElem?_getD, List.getElem?_eq_getElem h2]; rfl

set_option maxRecDepth 100000 in
set_option maxHeartbeats 4000000 in
theorem r11_sides_any (n : Bool) (s : ByteArray) (x : Int) (w : World) (hright : Dc.right s.data.toList x = true) :
    Calls Tryd.prog 47 #[.agg #[.bool n, .string s, .int .i64 x]] w (RetB (sidesV (sidesC s.data.toList x)) w) := by
  have hl := Dc.right_len hright
  have hxx := Dc.right_exp hright
  rw [bs_length] at hl
  have hpt := fun w => r7_point_any n s x w (by omega)
  obtain ⟨r, hr⟩ : ∃ r, r = sidesV (sidesC s.data.toList x) := ⟨_, rfl⟩
  rw [← hr]
  unfold sidesC at hr
  have hpe : Dc.point s.data.toList x = (s.size : Int) + x := by rw [Dc.point_eq, if_pos hright]
  have hz : s.size = 0 → x = 0 := fun e => by
    rw [Dc.right_nil _ _ (by rw [bs_length]; exact e)] at hright; simpa using hright
  rw [hpe] at hpt hr
  obtain ⟨p, hp⟩ : ∃ p, p = (s.size : Int) + x := ⟨_, rfl⟩
  have hz2 : s.size = 0 → p = 0 := fun e => by have := hz e; omega
  rw [← hp] at hpt hr
  rw [bs_length] at hr
  have hpb : -1000000 ≤ p ∧ p ≤ 1000000 := by omega
  obtain ⟨hp1, hp2⟩ := hpb
  have HPT := Lib.hid hpt; have HR := Lib.hid hr; have HZ2 := Lib.hid hz2; clear hpt hr hp hpe hz hz2 hxx hright
  by_cases c1 : 400 < p ∨ (400 < (s.size : Int) - p ∧ 0 < s.size)
  · have hr := HR.out
    have hne : 0 < s.size := by
      by_cases e : s.size = 0
      · have := HZ2.out e; omega
      · omega
    rw [if_neg (fun e => by have := congrArg List.length e; rw [bs_length, List.length_nil] at this; omega), if_pos (by omega)] at hr
    have HR2 := Lib.hid hr; clear hr
    by_cases c2 : 400 < p
    · clear c1
      go_enter Tryd.func47, Tryd.ntmps47
      go_wp2_with (go_at_call 24; (with_reducible refine (HPT.out _).mono ?_); rintro e w2 ⟨rfl, hb_w2⟩; have hB_w2 : Below (w).heap.size (w) w2 := Below.trans (by (repeat (first | exact Below.refl _ _ | assumption | refine Below.setCell ?_ (by first | omega | (simp <;> omega)) _ | refine Below.alloc ?_ (by first | omega | (simp <;> omega)) _ | refine Below.drew ?_ | refine below_drewN' ?_ _))) (hb_w2.mono (by first | omega | (simp <;> omega))); obtain ⟨hc_w2, hf_w2⟩ := bcell hb_w2; have hz_w2 := hb_w2.size; (try simp only [size_drew', size_drewN', World.size_alloc, World.size_setCell] at hz_w2); have hl0_w2 : w.heap.size < w2.heap.size := (by omega); have hm0_w2 : w.heap.size ≤ w2.heap.size := (by omega); have hn0_w2 : ¬ w.heap.size = w2.heap.size := (by omega); have hq0_w2 : ¬ w2.heap.size = w.heap.size := (by omega); have hr0_w2 := fun o => hc_w2 (w.heap.size) o (by (try simp only [size_drew', size_drewN', World.size_alloc, World.size_setCell]); omega); have hg0_w2 := fun o => hf_w2 (w.heap.size) o (by (try simp only [size_drew', size_drewN', World.size_alloc, World.size_setCell]); omega))
      go_ret3
      exact RetB.of HR2.out.symm (by (repeat (first | exact Below.refl _ _ | assumption | refine Below.setCell ?_ (by first | omega | (simp <;> omega)) _ | refine Below.alloc ?_ (by first | omega | (simp <;> omega)) _ | refine Below.drew ?_ | refine below_drewN' ?_ _)))
    · have c3 : 400 < (s.size : Int) - p := by omega
      have c4 : 0 < (s.size : Int) := by omega
      clear c1
      go_enter Tryd.func47, Tryd.ntmps47
      go_wp2_with (go_at_call 24; (with_reducible refine (HPT.out _).mono ?_); rintro e w2 ⟨rfl, hb_w2⟩; have hB_w2 : Below (w).heap.size (w) w2 := Below.trans (by (repeat (first | exact Below.refl _ _ | assumption | refine Below.setCell ?_ (by first | omega | (simp <;> omega)) _ | refine Below.alloc ?_ (by first | omega | (simp <;> omega)) _ | refine Below.drew ?_ | refine below_drewN' ?_ _))) (hb_w2.mono (by first | omega | (simp <;> omega))); obtain ⟨hc_w2, hf_w2⟩ := bcell hb_w2; have hz_w2 := hb_w2.size; (try simp only [size_drew', size_drewN', World.size_alloc, World.size_setCell] at hz_w2); have hl0_w2 : w.heap.size < w2.heap.size := (by omega); have hm0_w2 : w.heap.size ≤ w2.heap.size := (by omega); have hn0_w2 : ¬ w.heap.size = w2.heap.size := (by omega); have hq0_w2 : ¬ w2.heap.size = w.heap.size := (by omega); have hr0_w2 := fun o => hc_w2 (w.heap.size) o (by (try simp only [size_drew', size_drewN', World.size_alloc, World.size_setCell]); omega); have hg0_w2 := fun o => hf_w2 (w.heap.size) o (by (try simp only [size_drew', size_drewN', World.size_alloc, World.size_setCell]); omega))
      go_ret3
      exact RetB.of HR2.out.symm (by (repeat (first | exact Below.refl _ _ | assumption | refine Below.setCell ?_ (by first | omega | (simp <;> omega)) _ | refine Below.alloc ?_ (by first | omega | (simp <;> omega)) _ | refine Below.drew ?_ | refine below_drewN' ?_ _)))
  · have c2 : p ≤ 400 := by omega
    have c3 : (s.size : Int) - p ≤ 400 := by
      by_cases e : s.size = 0
      · have := HZ2.out e; omega
      · omega
    clear c1
    obtain ⟨P, hP⟩ : ∃ P : Nat, P = p.toNat := ⟨_, rfl⟩
    obtain ⟨m, hm⟩ : ∃ m : Nat, m = ((s.size : Int) - p).toNat := ⟨_, rfl⟩
    have hPm : P ≤ 400 ∧ m ≤ 400 := by omega
    obtain ⟨hP4, hm4⟩ := hPm
    obtain ⟨WF, hWF⟩ : ∃ WF : ByteArray, WF = ⟨(if P = 0 then [48] else Lc.wh s.data.toList P).toArray⟩ := ⟨_, rfl⟩
    have hfin : r = .tuple #[.string WF, .string ⟨(Lc.rs s.data.toList p m).toArray⟩, .bool true] := by
      rw [HR.out]
      by_cases e0 : s.size = 0
      · have e1 := HZ2.out e0
        have e2 : s.data.toList = [] := List.length_eq_zero_iff.1 (by rw [bs_length]; exact e0)
        have e3 : m = 0 := by omega
        rw [if_pos e2, hWF, if_pos (show P = 0 by omega), e3]; rfl
      · rw [if_neg (fun e => by have := congrArg List.length e; rw [bs_length, List.length_nil] at this; omega), if_neg (by omega)]
        by_cases e1 : p ≤ 0
        · rw [if_pos e1, hWF, if_pos (show P = 0 by omega), Lc.rs_neg _ _ _ e1 (by rw [bs_length]; omega)]; rfl
        · rw [if_neg e1]
          by_cases e2 : (s.size : Int) ≤ p
          · rw [if_pos e2, hWF, if_neg (show ¬ P = 0 by omega), Lc.wh_ge _ _ (by rw [bs_length]; omega), bs_length, show m = 0 by omega, show P - s.size = (p - s.size).toNat by omega]; rfl
          · rw [if_neg e2, hWF, if_neg (show ¬ P = 0 by omega), Lc.wh_le _ _ (by rw [bs_length]; omega), Lc.rs_pos _ _ _ (by omega) (by rw [bs_length]; omega), hP]; rfl
    have hWFs : WF.size ≤ 401 := by rw [hWF, size_mk]; split; simp; rw [Lc.wh_len]; omega
    have HFIN := Lib.hid hfin; have HWF := Lib.hid hWF; have HPP := Lib.hid hP; have HMM := Lib.hid hm; clear hfin hWF hP hm
    have hb0 : Below w.heap.size w (w.alloc (.cells #[.bool n, .string s, .int .i64 x] 36)) := (Below.refl _ _).alloc (Nat.le_refl _) _
    have HB0 := Lib.hid hb0; clear hb0
    go_enter Tryd.func47, Tryd.ntmps47
    go_upto_if 27 with (go_at_call 24; (with_reducible refine (HPT.out _).mono ?_); rintro e w2 ⟨rfl, hb_w2⟩; have hB_w2 : Below (w.alloc (.cells #[.bool n, .string s, .int .i64 x] 36)).heap.size (w.alloc (.cells #[.bool n, .string s, .int .i64 x] 36)) w2 := Below.trans (by (repeat (first | exact Below.refl _ _ | assumption | refine Below.setCell ?_ (by first | omega | (simp <;> omega)) _ | refine Below.alloc ?_ (by first | omega | (simp <;> omega)) _ | refine Below.drew ?_ | refine below_drewN' ?_ _))) (hb_w2.mono (by first | omega | (simp <;> omega))); obtain ⟨hc_w2, hf_w2⟩ := bcell hb_w2; have hz_w2 := hb_w2.size; (try simp only [size_drew', size_drewN', World.size_alloc, World.size_setCell] at hz_w2); have hl0_w2 : w.heap.size < w2.heap.size := (by omega); have hm0_w2 : w.heap.size ≤ w2.heap.size := (by omega); have hn0_w2 : ¬ w.heap.size = w2.heap.size := (by omega); have hq0_w2 : ¬ w2.heap.size = w.heap.size := (by omega); have hr0_w2 := fun o => hc_w2 (w.heap.size) o (by (try simp only [size_drew', size_drewN', World.size_alloc, World.size_setCell]); omega); have hg0_w2 := fun o => hf_w2 (w.heap.size) o (by (try simp only [size_drew', size_drewN', World.size_alloc, World.size_setCell]); omega))
    obtain ⟨m0, m1, m2⟩ := box3 hB_w2 (by simp)
    have hBw := HB0.out.trans (hB_w2.mono (by simp))
    have HBW := Lib.hid hBw; clear hBw
    go_wp2_with fail
    go_loop [7, 9] (fun a i => ∃ k : Nat, k ≤ P ∧ i = .int .i64 k ∧ a = .string ⟨(Lc.wh s.data.toList k).toArray⟩) (fun _ i => P - (intOf i).toNat)
    case atStart => exact ⟨0, Nat.zero_le _, rfl, rfl⟩
    case round =>
      obtain ⟨k, hk, rfl, rfl⟩ := hrel
      obtain ⟨A, hA⟩ : ∃ A : ByteArray, A = ⟨(Lc.wh s.data.toList k).toArray⟩ := ⟨_, rfl⟩
      have hAs : A.size ≤ 400 := by rw [hA, size_mk, Lc.wh_len]; omega
      rw [← hA]
      have HA := Lib.hid hA; clear hA
      by_cases hlt : k < P
      · have hkp : (k : Int) < p := by have := HPP.out; omega
        have s1 : ¬ 9223372036854775807 < A.size + 1 := by omega
        by_cases hin : k < s.size
        · obtain ⟨T, hT⟩ : ∃ T, T = s.extract k (k + 1) := ⟨_, rfl⟩
          have hTs : T.size = 1 := by rw [hT, ByteArray.size_extract]; omega
          have hrel2 : A ++ T = ⟨(Lc.wh s.data.toList (k + 1)).toArray⟩ := Dc.ba_eq _ _ (by rw [Dc.ba_app, hT, one_of s k hin, HA.out, Lc.wh_succ])
          have hsl : ∀ w : World, (Instr.slice 9 (.string s) (some (.int .i64 k)) (some (.int .i64 ((k : Int) + 1))) none).run Tryd.prog w = .ok (.string T) w := fun w => by
            rw [hT, run_slice_string_if w _ s .i64 .i64 k ((k : Int) + 1) Tryd.underlying9, if_pos (by omega), if_pos (by omega)]; rfl
          have s2 : ¬ 9223372036854775807 < A.size + T.size := by omega
          have HREL := Lib.hid hrel2; clear hrel2 hT hTs
          go_wp2
          go_round
          case rel => exact ⟨k + 1, by omega, by go_num, by rw [← HREL.out]⟩
          case measure => simp [intOf]; omega
        · have hrel2 : A ++ ⟨#[48]⟩ = ⟨(Lc.wh s.data.toList (k + 1)).toArray⟩ := Dc.ba_eq _ _ (by rw [Dc.ba_app, HA.out, Lc.wh_succ, getD_out s k (by omega)])
          have HREL := Lib.hid hrel2; clear hrel2
          go_wp2
          go_round
          case rel => exact ⟨k + 1, by omega, by go_num, by rw [← HREL.out]⟩
          case measure => simp [intOf]; omega
      · have hkp : ¬ (k : Int) < p := by have := HPP.out; omega
        have hkP : k = P := by omega
        have HKP := Lib.hid hkP; clear hkP hlt
        go_upto_if 47 with (fail)
        go_cut [7] (fun a w' => a = .string WF ∧ w' = w2)
        case first => as_aux_lemma =>
          by_cases hP0 : P = 0
          · have hA0 : A = ⟨#[]⟩ := by rw [HA.out, HKP.out, hP0]; rfl
            have hW0 : WF = ⟨#[48]⟩ := by rw [HWF.out, if_pos hP0]
            subst hA0
            subst hW0
            clear hP0
            go_wp2
            all_goals first
              | (have h : (⟨#[]⟩ : ByteArray).toList.isEmpty = false := by assumption
                 exact absurd h (by simp [toList_data]))
              | (go_meet; exact ⟨rfl, rfl⟩)
          · have hAe : A = WF := by rw [HA.out, HWF.out, if_neg hP0, HKP.out]
            have hpos : 0 < A.size := by rw [HA.out, size_mk, Lc.wh_len, HKP.out]; omega
            have e1 := isEmpty_of_pos hpos
            have HAE := Lib.hid hAe; clear hAe hP0 hpos
            go_wp2
            all_goals first
              | (have h : A.toList.isEmpty = true := by assumption
                 rw [e1] at h; cases h)
              | (go_meet; exact ⟨by rw [HAE.out], rfl⟩)
        case rest => as_aux_lemma =>
          obtain ⟨rfl, hwc⟩ := hcut
          subst hwc
          go_wp2_with fail
          go_loop [8, 10] (fun a i => ∃ (k : Nat) (q : Int), k ≤ m ∧ q = p + k ∧ i = .int .i64 q ∧ a = .string ⟨(Lc.rs s.data.toList p k).toArray⟩) (fun _ i => ((s.size : Int) - intOf i).toNat)
          case atStart => exact ⟨0, p, Nat.zero_le _, by omega, rfl, rfl⟩
          case round =>
            obtain ⟨k2, q, hk2, hq, rfl, rfl⟩ := hrel
            obtain ⟨B, hB⟩ : ∃ A : ByteArray, A = ⟨(Lc.rs s.data.toList p k2).toArray⟩ := ⟨_, rfl⟩
            have hBs : B.size ≤ 400 := by rw [hB, size_mk, Lc.rs_len]; omega
            rw [← hB]
            have hqb : -1000000 ≤ q ∧ q ≤ 1000000 := by omega
            obtain ⟨hq1, hq2⟩ := hqb
            have hqe : q < s.size ↔ k2 < m := by have := HMM.out; omega
            have HB := Lib.hid hB; have HQ := Lib.hid hq; have HQE := Lib.hid hqe; clear hB hq hqe
            by_cases hlt : q < s.size
            · have hk3 := HQE.out.1 hlt
              have s1 : ¬ 9223372036854775807 < B.size + 1 := by omega
              by_cases hneg : q < 0
              · have hrel2 : B ++ ⟨#[48]⟩ = ⟨(Lc.rs s.data.toList p (k2 + 1)).toArray⟩ := Dc.ba_eq _ _ (by rw [Dc.ba_app, HB.out, Lc.rs_succ, if_pos (by have := HQ.out; omega)])
                have HREL := Lib.hid hrel2; clear hrel2
                go_wp2
                go_round
                case rel => exact ⟨k2 + 1, q + 1, by omega, by have := HQ.out; omega, by go_num, by rw [← HREL.out]⟩
                case measure => simp [intOf]; omega
              · obtain ⟨j, rfl⟩ : ∃ j : Nat, q = j := ⟨q.toNat, by omega⟩
                have hj : j < s.size := by omega
                obtain ⟨T, hT⟩ : ∃ T, T = s.extract j (j + 1) := ⟨_, rfl⟩
                have hTs : T.size = 1 := by rw [hT, ByteArray.size_extract]; omega
                have hrel2 : B ++ T = ⟨(Lc.rs s.data.toList p (k2 + 1)).toArray⟩ := Dc.ba_eq _ _ (by rw [Dc.ba_app, hT, one_of s j hj, HB.out, Lc.rs_succ, ← HQ.out, if_neg (by omega), Int.toNat_natCast])
                have hsl : ∀ w : World, (Instr.slice 9 (.string s) (some (.int .i64 j)) (some (.int .i64 ((j : Int) + 1))) none).run Tryd.prog w = .ok (.string T) w := fun w => by
                  rw [hT, run_slice_string_if w _ s .i64 .i64 j ((j : Int) + 1) Tryd.underlying9, if_pos (by omega), if_pos (by omega)]; rfl
                have s2 : ¬ 9223372036854775807 < B.size + T.size := by omega
                have HREL := Lib.hid hrel2; clear hrel2 hT hTs
                go_wp2
                go_round
                case rel => exact ⟨k2 + 1, (j : Int) + 1, by omega, by have := HQ.out; omega, by go_num, by rw [← HREL.out]⟩
                case measure => simp [intOf]; omega
            · have hkm : k2 = m := by
                by_cases e : k2 < m
                · exact absurd (HQE.out.2 e) hlt
                · omega
              have hf : r = .tuple #[.string WF, .string B, .bool true] := by rw [HFIN.out, HB.out, hkm]
              have HF := Lib.hid hf; clear hf hkm
              go_wp2
              go_ret3
              exact RetB.of HF.out.symm HBW.out
end Go.Proofs.YtcbepojookbceaaDoor
