import Derived.Test.YtiglekomfgfilaaGreatDoorX17
import Derived.Test.YtiglekomfgfilaaGreatDoorX7
import Derived.Test.YtiglekomfgfilaaGreatDoorX16
import Derived.Deep.DeepCutAuto
import Derived.Maps.AppendAt
import Derived.Test.YtiglekomfgfilaaGreatDoorX29
import Derived.Test.YtiglekomfgfilaaGreatDoorX23
import Derived.Test.YtiglekomfgfilaaGreatDoorX18
import Derived.Deep.RegionHeld3
namespace Go.Proofs.YtiglekomfgfilaaGreatDoor
set_option maxRecDepth 100000
set_option maxHeartbeats 2000000
set_option linter.all false
open Go.RowKit
attribute [local go_sem] Dc.Res.val
theorem r7_digit_yes (c : UInt8) (h : Dc.isDig c = true) (w : World) : Calls Tryz.prog 61 #[.int .u8 c.toNat] w (Ret0 (.bool true) w) := by
  have := r7_digit_any c w; rwa [h] at this
theorem r7_digit_no (c : UInt8) (h : Dc.isDig c = false) (w : World) : Calls Tryz.prog 61 #[.int .u8 c.toNat] w (Ret0 (.bool false) w) := by
  have := r7_digit_any c w; rwa [h] at this
theorem take_drop_snoc (s : ByteArray) (i k : Nat) (hik : i ≤ k) (h : k < s.size) : (s.data.toList.drop i).take (k + 1 - i) = (s.data.toList.drop i).take (k - i) ++ [s[k]] := by
  rw [show k + 1 - i = (k - i) + 1 by omega, List.take_add_one, List.getElem?_drop, show i + (k - i) = k by omega, bs_getElem? s k h]; rfl
theorem r7_parse_any (s : ByteArray) (w : World) (hs : s.size ≤ 1000000) : Calls Tryz.prog 72 #[.string s] w (RetB (Dc.parse s.data.toList).val w) := by
  obtain ⟨r, hr⟩ : ∃ r, r = (Dc.parse s.data.toList).val := ⟨_, rfl⟩
  rw [← hr]
  have HR := Lib.hid hr; clear hr
  obtain ⟨i0, hI⟩ := info_parts Tryz.infoU8
  obtain ⟨hi, hz0, hz1, hz2⟩ := hI
  -- the sign
  obtain ⟨neg, hneg⟩ : ∃ b, b = Lib.hasPrefix s.data.toList [45] := ⟨_, rfl⟩
  obtain ⟨p0, hp0⟩ : ∃ p : Nat, p = if neg then 1 else 0 := ⟨_, rfl⟩
  have HN := Lib.hid hneg; have HP0 := Lib.hid hp0; clear hneg hp0
  have hb0 : Below w.heap.size w (w.alloc (.cells #[.bool false, .string ⟨#[]⟩, .int .i64 0] 27)) := (Below.refl _ _).alloc (Nat.le_refl _) _
  have HB0 := Lib.hid hb0; clear hb0
  go_enter Tryz.func72, Tryz.ntmps72
  go_upto_region 2 with (fail)
  go_cut [5] (fun a wr => a = .bool neg ∧ wr = w.alloc (.cells #[.bool false, .string ⟨#[]⟩, .int .i64 0] 27))
  case first =>
    have hn : neg = decide (∃ h : 0 < s.size, (s[0].toNat : Int) = 45) := by
      rw [HN.out]; have := Dc.hasPrefix_one s 0 45; rw [List.drop_zero] at this; exact this
    have HNN := Lib.hid hn; clear hn
    by_cases h0 : s.size = 0
    · have hf : false = neg := by rw [HNN.out]; simp [h0]
      have HF := Lib.hid hf; have H0 := Lib.hid h0; clear hf
      replace h0 : s.size ≤ 0 := by omega
      go_wp2; go_meet; exact ⟨congrArg Value.bool HF.out, rfl⟩
    · replace h0 : 0 < s.size := by omega
      have hf : ((s[0].toNat : Int) == 45) = neg := by rw [HNN.out, Bool.eq_iff_iff]; simp [h0]
      have HF := Lib.hid hf; clear hf
      go_wp2; go_meet; exact ⟨congrArg Value.bool HF.out, rfl⟩
  case rest =>
    obtain ⟨rfl, rfl⟩ := hcut
    go_upto_if 20 with (fail)
    go_cut [4] (fun a wr => a = .int .i64 p0 ∧ wr = w.alloc (.cells #[.bool false, .string ⟨#[]⟩, .int .i64 0] 27))
    case first =>
      have h := HP0.out
      cases neg
      · have e : p0 = 0 := by simpa using h
        subst e; clear h
        go_wp2; go_meet; exact ⟨rfl, rfl⟩
      · have e : p0 = 1 := by simpa using h
        subst e; clear h
        go_wp2; go_meet; exact ⟨rfl, rfl⟩
    case rest =>
      obtain ⟨rfl, rfl⟩ := hcut
      have hp0s : p0 ≤ s.size := by
        have h1 := HP0.out; have h2 := HN.out
        have h3 := Dc.hasPrefix_one s 0 45
        rw [List.drop_zero] at h3
        cases neg
        · simp at h1; omega
        · rw [h3] at h2
          have := of_decide_eq_true h2.symm
          obtain ⟨h4, _⟩ := this
          simp at h1; omega
      go_wp2_with fail
      go_loopw [4, 6] (fun i v wr => ∃ k : Nat, p0 ≤ k ∧ k ≤ s.size ∧ i = .int .i64 k ∧ ((s.data.toList.drop p0).take (k - p0)).all Dc.isDig = true ∧ RowB wr (w.heap.size + 1) v ((s.data.toList.drop p0).take (k - p0)) ∧ Below (w.heap.size + 1) (w.alloc (.cells #[.bool false, .string ⟨#[]⟩, .int .i64 0] 27)) wr) (fun i _ _ => s.size - (intOf i).toNat)
      case atStart => exact ⟨p0, Nat.le_refl _, hp0s, rfl, by simp, by simpa using RowB.nil _ _, Below.refl _ _⟩
      case round =>
        obtain ⟨k, hk0, hk, rfl, hall, hrow, hbw⟩ := hrel
        have HA := Lib.hid hall; clear hall
        by_cases hgo : ∃ h : k < s.size, Dc.isDig s[k] = true
        · obtain ⟨hlt, hd⟩ := hgo
          have hsn := Lib.hid (take_drop_snoc s p0 k hk0 hlt)
          have hdig := Lib.hid (r7_digit_yes s[k] hd)
          have HD := Lib.hid hd; clear hd
          obtain ⟨l, hl⟩ : ∃ l, l = (s.data.toList.drop p0).take (k - p0) := ⟨_, rfl⟩
          rw [← hl] at hrow
          have hlen : l.length ≤ 1000000 := by rw [hl, List.length_take, List.length_drop, bs_length]; omega
          have hsz := hbw.size
          simp only [World.size_alloc] at hsz
          have hown := hrow.own
          have HL := Lib.hid hl; clear hl
          go_wp2_with (first
            | (go_at_call 61; (with_reducible refine (hdig.out _).mono ?_); rintro e w' ⟨rfl, rfl⟩)
            | (at_builtin; refine wpList_append_own _ rfl _ _ 110 rfl (w.heap.size + 1) 5 i0 (.int .u8 0) 1 1 Tryz.underlying110 hi hz0 hz1 hz2 rfl (by decide) _ _ _ rfl (hown.alloc _) ⟨wr.heap.size, 0, none⟩ 1 1 [.int .u8 (s[k].toNat : Int)] rfl rfl (cell_one_new _ _ _) (by simp [Value.oneCell']) (by unfold maxLen; omega) (by omega) (by simp; omega) ?_; intro v' w1 hown' hgrow hnil))
          have hrow' : RowB w1 (w.heap.size + 1) v' (l ++ [s[k]]) := RowB.of hown' (by simp) (by simp)
          have hbw' := (hbw.alloc (by omega) (.cells #[.int .u8 (s[k].toNat : Int)] 5)).grown hgrow (by simp; omega) (fun j e => (hown.lt j e).1)
          clear hown' hgrow hnil
          go_wp2
          go_roundw
          case rel => exact ⟨k + 1, by omega, by omega, by go_num, by rw [hsn.out, List.all_append, HA.out]; simp [HD.out], by rw [hsn.out, ← HL.out]; exact hrow', hbw'⟩
          case measure => simp [intOf]; omega
        · -- the first digits have come
          have hst : ∀ h : k < s.size, Dc.isDig s[k] = false := fun h => by
            cases e : Dc.isDig s[k] with
            | false => rfl
            | true => exact absurd ⟨h, e⟩ hgo
          obtain ⟨hf, hrest⟩ := Dc.run_spec s p0 k hk0 hk HA.out hst
          obtain ⟨f, hfe⟩ : ∃ f, f = (s.data.toList.drop p0).takeWhile Dc.isDig := ⟨_, rfl⟩
          rw [← hf, ← hfe] at hrow
          have hfl : f.length ≤ 1000000 := by rw [hfe, hf, List.length_take, List.length_drop, bs_length]; omega
          obtain ⟨av, cv, hv⟩ := hrow.shape
          subst hv
          -- the point
          obtain ⟨dot, hdot⟩ : ∃ b, b = Lib.hasPrefix (s.data.toList.drop k) [46] := ⟨_, rfl⟩
          have hdd := Dc.hasPrefix_one s k 46
          rw [← hdot] at hdd
          obtain ⟨g, hg⟩ : ∃ g, g = if dot then (s.data.toList.drop (k + 1)).takeWhile Dc.isDig else [] := ⟨_, rfl⟩
          obtain ⟨s4, hs4⟩ : ∃ g, g = if dot then (s.data.toList.drop (k + 1)).dropWhile Dc.isDig else s.data.toList.drop k := ⟨_, rfl⟩
          have HST := Lib.hid hst; have HF := Lib.hid hf; have HRT := Lib.hid hrest; have HFE := Lib.hid hfe; have HDOT := Lib.hid hdot; have HDD := Lib.hid hdd; have HG := Lib.hid hg; have HS4 := Lib.hid hs4
          clear hst hf hrest hfe hdot hdd hg hs4 HA
          have hsz := hbw.size
          simp only [World.size_alloc] at hsz
          go_upto_region 6 with (fail)
          go_cut [30] (fun a w' => a = .bool false ∧ w' = wr)
          case first => as_aux_lemma =>
            by_cases hlt : k < s.size
            · have hdg := Lib.hid (r7_digit_no s[k] (HST.out hlt))
              go_wp2_with (go_at_call 61; (with_reducible refine (hdg.out _).mono ?_); rintro e w' ⟨rfl, rfl⟩)
              go_meet
              exact ⟨rfl, rfl⟩
            · go_wp2
              go_meet
              exact ⟨rfl, rfl⟩
          case rest => as_aux_lemma =>
            obtain ⟨rfl, hwc⟩ := hcut
            subst hwc
            go_upto_region 11 with (fail)
            go_cut [50] (fun a w' => a = .bool dot ∧ w' = wc)
            case first => as_aux_lemma =>
              by_cases hlt : k < s.size
              · have hff : ((s[k].toNat : Int) == 46) = dot := by rw [HDD.out, Bool.eq_iff_iff]; simp [hlt]
                have HFF := Lib.hid hff; clear hff
                go_wp2; go_meet; exact ⟨congrArg Value.bool HFF.out, rfl⟩
              · have hff : false = dot := by rw [HDD.out]; simp [hlt]
                have HFF := Lib.hid hff; clear hff
                go_wp2; go_meet; exact ⟨congrArg Value.bool HFF.out, rfl⟩
            case rest => as_aux_lemma =>
              obtain ⟨rfl, hwc⟩ := hcut
              subst hwc
              go_upto_if 50 with (fail)
              go_cut [4, 6, 8] (fun a v e w' => ∃ q : Nat, q ≤ s.size ∧ a = .int .i64 q ∧ e = .int .i64 (-(g.length : Int)) ∧ s.data.toList.drop q = s4 ∧ RowB w' (w.heap.size + 1) v (f ++ g) ∧ g.length ≤ 1000000 ∧ Below (w.heap.size + 1) (w.alloc (.cells #[.bool false, .string ⟨#[]⟩, .int .i64 0] 27)) w')
              case first => as_aux_lemma =>
                cases hdb : dot with
                | false =>
                  have h1 : g = [] := by rw [HG.out, hdb]; rfl
                  have h2 : s.data.toList.drop k = s4 := by rw [HS4.out, hdb]; rfl
                  subst hdb
                  have H1 := Lib.hid h1; have H2 := Lib.hid h2; clear h1 h2
                  go_wp2
                  go_meet
                  exact ⟨k, hk, rfl, by rw [H1.out]; rfl, H2.out, by rw [H1.out, List.append_nil]; exact hrow, by rw [H1.out]; simp, hbw⟩
                | true =>
                  have hlt : k < s.size := by have := HDD.out; rw [hdb] at this; exact (of_decide_eq_true this.symm).1
                  have h1 : g = (s.data.toList.drop (k + 1)).takeWhile Dc.isDig := by rw [HG.out, hdb]; rfl
                  have h2 : s4 = (s.data.toList.drop (k + 1)).dropWhile Dc.isDig := by rw [HS4.out, hdb]; rfl
                  subst hdb
                  have H1 := Lib.hid h1; have H2 := Lib.hid h2; clear h1 h2
                  go_wp2_with fail
                  go_loopw [4, 6, 8] (fun i v e wr => ∃ j : Nat, k + 1 ≤ j ∧ j ≤ s.size ∧ i = .int .i64 j ∧ e = .int .i64 (-((j : Int) - (k + 1))) ∧ ((s.data.toList.drop (k + 1)).take (j - (k + 1))).all Dc.isDig = true ∧ RowB wr (w.heap.size + 1) v (f ++ (s.data.toList.drop (k + 1)).take (j - (k + 1))) ∧ Below (w.heap.size + 1) (w.alloc (.cells #[.bool false, .string ⟨#[]⟩, .int .i64 0] 27)) wr) (fun i _ _ _ => s.size - (intOf i).toNat)
                  case atStart => exact ⟨k + 1, Nat.le_refl _, hlt, by go_num, by simp, by simp, by simpa using hrow, hbw⟩
                  case round =>
                    obtain ⟨j, hj0, hj, rfl, rfl, hall, hrow2, hbw2⟩ := hrel
                    have HA2 := Lib.hid hall; clear hall
                    by_cases hgo2 : ∃ h : j < s.size, Dc.isDig s[j] = true
                    · obtain ⟨hlt2, hd⟩ := hgo2
                      have hsn := Lib.hid (take_drop_snoc s (k + 1) j hj0 hlt2)
                      have hdig := Lib.hid (r7_digit_yes s[j] hd)
                      have HD := Lib.hid hd; clear hd
                      obtain ⟨l, hl⟩ : ∃ l, l = (s.data.toList.drop (k + 1)).take (j - (k + 1)) := ⟨_, rfl⟩
                      rw [← hl] at hrow2
                      obtain ⟨fl, hfl2⟩ : ∃ fl, fl = f ++ l := ⟨_, rfl⟩
                      rw [← hfl2] at hrow2
                      have hlen : fl.length ≤ 3000000 := by rw [hfl2, hl, List.length_append, List.length_take, List.length_drop, bs_length]; omega
                      have hsz2 := hbw2.size
                      simp only [World.size_alloc] at hsz2
                      have hown := hrow2.own
                      have HL := Lib.hid hl; have HFL := Lib.hid hfl2; clear hl hfl2
                      go_wp2_with (first
                        | (go_at_call 61; (with_reducible refine (hdig.out _).mono ?_); rintro e w' ⟨rfl, rfl⟩)
                        | (at_builtin; refine wpList_append_own _ rfl _ _ 110 rfl (w.heap.size + 1) 5 i0 (.int .u8 0) 1 1 Tryz.underlying110 hi hz0 hz1 hz2 rfl (by decide) _ _ _ rfl (hown.alloc _) ⟨wr.heap.size, 0, none⟩ 1 1 [.int .u8 (s[j].toNat : Int)] rfl rfl (cell_one_new _ _ _) (by simp [Value.oneCell']) (by unfold maxLen; omega) (by omega) (by simp; omega) ?_; intro v' w1 hown' hgrow hnil))
                      have hrow' : RowB w1 (w.heap.size + 1) v' (fl ++ [s[j]]) := RowB.of hown' (by simp) (by simp)
                      have hbw' := (hbw2.alloc (by omega) (.cells #[.int .u8 (s[j].toNat : Int)] 5)).grown hgrow (by simp; omega) (fun j e => (hown.lt j e).1)
                      clear hown' hgrow hnil
                      go_wp2
                      go_roundw
                      case rel => exact ⟨j + 1, by omega, by omega, by go_num, by congr 1; omega, by rw [hsn.out, List.all_append, HA2.out]; simp [HD.out], by rw [hsn.out, ← HL.out, ← List.append_assoc, ← HFL.out]; exact hrow', hbw'⟩
                      case measure => simp [intOf]; omega
                    · have hst2 : ∀ h : j < s.size, Dc.isDig s[j] = false := fun h => by
                        cases e : Dc.isDig s[j] with
                        | false => rfl
                        | true => exact absurd ⟨h, e⟩ hgo2
                      obtain ⟨hf2, hrest2⟩ := Dc.run_spec s (k + 1) j hj0 hj HA2.out hst2
                      have hgl : g.length = j - (k + 1) := by rw [H1.out, hf2, List.length_take, List.length_drop, bs_length]; omega
                      rw [← hf2, ← H1.out] at hrow2
                      have hfin : s.data.toList.drop j = s4 := by rw [H2.out, hrest2]
                      have HGL := Lib.hid hgl; have HST2 := Lib.hid hst2; have HFIN := Lib.hid hfin
                      clear hf2 hrest2 hgl hst2 hgo2 hfin
                      go_upto_region 13 with (fail)
                      go_cut [62] (fun a w' => a = .bool false ∧ w' = wr)
                      case first => as_aux_lemma =>
                        by_cases hlt2 : j < s.size
                        · have hdg := Lib.hid (r7_digit_no s[j] (HST2.out hlt2))
                          go_wp2_with (go_at_call 61; (with_reducible refine (hdg.out _).mono ?_); rintro e w' ⟨rfl, rfl⟩)
                          go_meet
                          exact ⟨rfl, rfl⟩
                        · go_wp2
                          go_meet
                          exact ⟨rfl, rfl⟩
                      case rest => as_aux_lemma =>
                        obtain ⟨rfl, hwc⟩ := hcut
                        subst hwc
                        go_wp2
                        go_meet
                        exact ⟨j, hj, rfl, by rw [HGL.out]; congr 1; omega, HFIN.out, hrow2, by rw [HGL.out]; omega, hbw2⟩
              case rest => as_aux_lemma =>
                obtain ⟨q, hq, rfl, rfl, hs4e, hrow3, hgl, hbw3⟩ := hcut
                have hparse := Dc.parse_at s neg dot p0 k f g s4 HN.out HP0.out HFE.out HRT.out HDOT.out HG.out HS4.out
                have hrr := HR.out
                rw [hparse, ← hs4e] at hrr
                have hsz3 := hbw3.size
                simp only [World.size_alloc] at hsz3
                obtain ⟨d, hd⟩ : ∃ d, d = f ++ g := ⟨_, rfl⟩
                rw [← hd] at hrr hrow3
                have hdl : d.length = f.length + g.length := by rw [hd, List.length_append]
                obtain ⟨ad, cd, hv⟩ := hrow3.shape
                subst hv
                obtain ⟨hc3, hf3⟩ : (∀ o, wc.cell? ⟨w.heap.size, o, none⟩ = (w.alloc (.cells #[.bool false, .string ⟨#[]⟩, .int .i64 0] 27)).cell? ⟨w.heap.size, o, none⟩) ∧ (∀ o, wc.frozen? ⟨w.heap.size, o, none⟩ = (w.alloc (.cells #[.bool false, .string ⟨#[]⟩, .int .i64 0] 27)).frozen? ⟨w.heap.size, o, none⟩) :=
                  ⟨fun o => hbw3.cell (p := ⟨w.heap.size, o, none⟩) (by simp), fun o => hbw3.frozen (p := ⟨w.heap.size, o, none⟩) (by simp)⟩
                have hlw : w.heap.size < wc.heap.size := by omega
                have hmw : w.heap.size ≤ wc.heap.size := by omega
                have hB3 : Below w.heap.size w wc := Below.trans HB0.out (hbw3.mono (by omega))
                have HDL : d.length ≤ f.length + g.length := by omega
                have HDL2 : f.length + g.length ≤ d.length := by omega
                have HDD2 := Lib.hid hd; have HS4E := Lib.hid hs4e
                clear hparse hd hs4e hdl
                by_cases hd0 : d.length = 0
                · rw [if_pos (List.length_eq_zero_iff.1 hd0)] at hrr
                  have HRR := Lib.hid hrr; clear hrr
                  have b1 : ((d.length : Int) == 0) = true := beq_iff_eq.2 (by omega)
                  have b2 : ((f.length : Int) == 0) = true := beq_iff_eq.2 (by omega)
                  have H0 := Lib.hid hd0; clear hd0
                  go_wp2
                  (refine bodyPost_ret (v := .tuple #[.agg #[.bool false, .string ⟨#[]⟩, .int .i64 0], .int .i64 3]) (by (simp [results, Tryz.results72, go_sem, hc3, hlw, hmw]; done)) rfl (RetB.of HRR.out.symm (by (repeat (first | exact Below.refl _ _ | assumption | refine Below.setCell ?_ (by first | omega | (simp <;> omega)) _ | refine Below.alloc ?_ (by first | omega | (simp <;> omega)) _ | refine Below.drew ?_ | refine below_drewN' ?_ _)))))
                · have hdne : d ≠ [] := fun e => hd0 (by rw [e]; rfl)
                  rw [if_neg hdne] at hrr
                  have b1 : ((d.length : Int) == 0) = false := beq_eq_false_iff_ne.2 (by omega)
                  have hdpos : 0 < d.length := by omega
                  have hstr := hrow3.string hdpos
                  have HRR := Lib.hid hrr; have HSTR := Lib.hid hstr; clear hrr hdne hd0 hstr
                  -- the exponent's letter
                  obtain ⟨ex, hex⟩ : ∃ b, b = decide (∃ h : q < s.size, (s[q].toNat : Int) = 101 ∨ (s[q].toNat : Int) = 69) := ⟨_, rfl⟩
                  have HEX := Lib.hid hex; clear hex
                  go_upto_region 19 with (fail)
                  go_cut [96] (fun a w' => a = .bool ex ∧ w' = wc)
                  case first => as_aux_lemma =>
                    by_cases hlt : q < s.size
                    · have hff : (((s[q].toNat : Int) == 101) || ((s[q].toNat : Int) == 69)) = ex := by rw [HEX.out, Bool.eq_iff_iff]; simp [hlt]
                      have HFF := Lib.hid hff; clear hff
                      by_cases c1 : (s[q].toNat : Int) = 101
                      · have c1b : ((s[q].toNat : Int) == 101) = true := by simpa using c1
                        have C1 := Lib.hid c1; clear c1
                        go_wp2; go_meet; exact ⟨congrArg Value.bool (by rw [← HFF.out, c1b]; rfl), rfl⟩
                      · have c1b : ((s[q].toNat : Int) == 101) = false := by simpa using c1
                        have C1 := Lib.hid c1; clear c1
                        go_wp2; go_meet; exact ⟨congrArg Value.bool (by rw [← HFF.out, c1b]; rfl), rfl⟩
                    · have hff : false = ex := by rw [HEX.out]; simp [hlt]
                      have HFF := Lib.hid hff; clear hff
                      go_wp2; go_meet; exact ⟨congrArg Value.bool HFF.out, rfl⟩
                  case rest => as_aux_lemma =>
                    obtain ⟨rfl, hwc⟩ := hcut
                    subst hwc
                    cases hexb : ex with
                    | false =>
                      have hno : ∀ h : q < s.size, ¬ (s[q].toNat : Int) = 101 ∧ ¬ (s[q].toNat : Int) = 69 := fun h => by
                        have := HEX.out; rw [hexb] at this
                        have h2 := of_decide_eq_false this.symm
                        exact ⟨fun e => h2 ⟨h, .inl e⟩, fun e => h2 ⟨h, .inr e⟩⟩
                      subst hexb
                      by_cases hlt : q < s.size
                      · have hrr := HRR.out
                        rw [Dc.tail_at_bad _ _ _ s q hlt (hno hlt).1 (hno hlt).2] at hrr
                        have HRX := Lib.hid hrr; clear hrr hno
                        go_wp2
                        (refine bodyPost_ret (v := .tuple #[.agg #[.bool false, .string ⟨#[]⟩, .int .i64 0], .int .i64 3]) (by (simp [results, Tryz.results72, go_sem, hc3, hlw, hmw]; done)) rfl (RetB.of HRX.out.symm (by (repeat (first | exact Below.refl _ _ | assumption | refine Below.setCell ?_ (by first | omega | (simp <;> omega)) _ | refine Below.alloc ?_ (by first | omega | (simp <;> omega)) _ | refine Below.drew ?_ | refine below_drewN' ?_ _)))))
                      · have hrr := HRR.out
                        rw [Dc.tail_at_end _ _ _ s q (by omega)] at hrr
                        have hmk : ∀ w, Calls Tryz.prog 24 #[.bool neg, .string ⟨d.toArray⟩, .int .i64 (-(g.length : Int))] w (RetB r w) := fun w => by
                          rw [hrr]; exact r7_make_any neg ⟨d.toArray⟩ (-(g.length : Int)) w (by rw [size_mk]; omega) (by omega)
                        obtain ⟨qq, hqq⟩ : ∃ q : Dc.Res, r = q.val := ⟨_, hrr⟩
                        rw [hqq] at hmk
                        have HQQ := Lib.hid hqq; have HM := Lib.hid hmk; clear hrr hqq hmk hno
                        have hstr := HSTR.out
                        go_wp2_with (go_at_call 24; (with_reducible refine (HM.out _).mono ?_); rintro e w5 ⟨rfl, hb_w5⟩; have hB_w5 : Below (w).heap.size (w) w5 := Below.trans (by (repeat (first | exact Below.refl _ _ | assumption | refine Below.setCell ?_ (by first | omega | (simp <;> omega)) _ | refine Below.alloc ?_ (by first | omega | (simp <;> omega)) _ | refine Below.drew ?_ | refine below_drewN' ?_ _))) (hb_w5.mono (by first | omega | (simp <;> omega))); obtain ⟨hc_w5, hf_w5⟩ := bcell hb_w5; have hz_w5 := hb_w5.size; (try simp only [zD, zN, zA, zS] at hz_w5); have hk := own6 hb_w5 (w.heap.size) (by (try simp only [zD, zN, zA, zS]); omega); obtain ⟨hl0_w5, hm0_w5, hn0_w5, hq0_w5, hr0_w5, hg0_w5⟩ := hk)
                        (refine bodyPost_ret (v := Dc.Res.val qq) (by (simp [results, Tryz.results72, go_sem, Dc.Res.val, hr0_w5, hl0_w5, hm0_w5, hn0_w5, hq0_w5, hc3, hlw, hmw]; done)) rfl (RetB.of HQQ.out.symm (by (repeat (first | exact Below.refl _ _ | assumption | refine Below.setCell ?_ (by first | omega | (simp <;> omega)) _ | refine Below.alloc ?_ (by first | omega | (simp <;> omega)) _ | refine Below.drew ?_ | refine below_drewN' ?_ _)))))
                    | true =>
                      obtain ⟨hlt, hc⟩ : ∃ h : q < s.size, (s[q].toNat : Int) = 101 ∨ (s[q].toNat : Int) = 69 := by
                        have := HEX.out; rw [hexb] at this; exact of_decide_eq_true this.symm
                      subst hexb
                      have hrr := HRR.out
                      rw [Dc.tail_at_exp _ _ _ s q hlt hc] at hrr
                      have HRX := Lib.hid hrr; clear hrr hc
                      obtain ⟨q2, sg, hq2, hq2b, hun, hsg, hsg1, hkind⟩ : ∃ (q2 : Nat) (sg : Int), q2 ≤ s.size ∧ q + 1 ≤ q2 ∧ Dc.unsign (s.data.toList.drop (q + 1)) = s.data.toList.drop q2 ∧
                          (∀ x : Int, (if (s.data.toList.drop (q + 1))[0]? = some 45 then -x else x) = sg * x) ∧ (sg = 1 ∨ sg = -1) ∧
                          ((∃ h : q + 1 < s.size, (s[q + 1].toNat : Int) = 43 ∧ q2 = q + 2 ∧ sg = 1) ∨ (∃ h : q + 1 < s.size, (s[q + 1].toNat : Int) = 45 ∧ q2 = q + 2 ∧ sg = -1) ∨ ((∀ h : q + 1 < s.size, ¬ (s[q + 1].toNat : Int) = 43 ∧ ¬ (s[q + 1].toNat : Int) = 45) ∧ q2 = q + 1 ∧ sg = 1)) := by
                        rcases Dc.unsign_at s (q + 1) (by omega) with ⟨h, e1, e2, e3⟩ | ⟨h, e1, e2, e3⟩ | ⟨e1, e2, e3⟩
                        · exact ⟨q + 2, 1, by omega, by omega, e2, fun x => by rw [if_neg e3]; omega, .inl rfl, .inl ⟨h, e1, rfl, rfl⟩⟩
                        · exact ⟨q + 2, -1, by omega, by omega, e2, fun x => by rw [if_pos e3]; omega, .inr rfl, .inr (.inl ⟨h, e1, rfl, rfl⟩)⟩
                        · exact ⟨q + 1, 1, by omega, by omega, e2, fun x => by rw [if_neg e3]; omega, .inl rfl, .inr (.inr ⟨e1, rfl, rfl⟩)⟩
                      obtain ⟨sb, hsb⟩ : ∃ b, b = decide (∃ h : q + 1 < s.size, (s[q + 1].toNat : Int) = 43 ∨ (s[q + 1].toNat : Int) = 45) := ⟨_, rfl⟩
                      have HUN := Lib.hid hun; have HSG := Lib.hid hsg; have HSG1 := Lib.hid hsg1; have HK := Lib.hid hkind; have HSB := Lib.hid hsb
                      clear hun hsg hsg1 hkind hsb
                      go_upto_region 22 with (fail)
                      go_cut [114] (fun a w' => a = .bool sb ∧ w' = wc)
                      case first => as_aux_lemma =>
                        rcases HK.out with ⟨h, e1, _, _⟩ | ⟨h, e1, _, _⟩ | ⟨e1, _, _⟩
                        · have hff : true = sb := by rw [HSB.out]; simp [h, e1]
                          have b1 : ((s[q + 1].toNat : Int) == 43) = true := by simpa using e1
                          have HFF := Lib.hid hff; clear hff e1
                          go_wp2; go_meet; exact ⟨congrArg Value.bool HFF.out, rfl⟩
                        · have hff : true = sb := by rw [HSB.out]; simp [h, e1]
                          have b1 : ((s[q + 1].toNat : Int) == 43) = false := beq_eq_false_iff_ne.2 (by omega)
                          have b2 : ((s[q + 1].toNat : Int) == 45) = true := by simpa using e1
                          have HFF := Lib.hid hff; clear hff e1
                          go_wp2; go_meet; exact ⟨congrArg Value.bool HFF.out, rfl⟩
                        · have hff : false = sb := by
                            rw [HSB.out]; symm; rw [decide_eq_false_iff_not]; rintro ⟨h, e | e⟩
                            · exact (e1 h).1 e
                            · exact (e1 h).2 e
                          have HFF := Lib.hid hff; have HE := Lib.hid e1; clear hff e1
                          by_cases h : q + 1 < s.size
                          · have b1 : ((s[q + 1].toNat : Int) == 43) = false := beq_eq_false_iff_ne.2 (HE.out h).1
                            have b2 : ((s[q + 1].toNat : Int) == 45) = false := beq_eq_false_iff_ne.2 (HE.out h).2
                            go_wp2; go_meet; exact ⟨congrArg Value.bool HFF.out, rfl⟩
                          · go_wp2; go_meet; exact ⟨congrArg Value.bool HFF.out, rfl⟩
                      case rest => as_aux_lemma =>
                        obtain ⟨rfl, hwc⟩ := hcut
                        subst hwc
                        go_upto_if 114 with (fail)
                        go_cut [4, 9] (fun a b w' => a = .int .i64 q2 ∧ b = .int .i64 sg ∧ w' = wc)
                        case first => as_aux_lemma =>
                          rcases HK.out with ⟨h, e1, e2, e3⟩ | ⟨h, e1, e2, e3⟩ | ⟨e1, e2, e3⟩
                          · have hff : sb = true := by rw [HSB.out]; simp [h, e1]
                            have b2 : ((s[q + 1].toNat : Int) == 45) = false := beq_eq_false_iff_ne.2 (by omega)
                            subst hff e2 e3; clear e1
                            go_wp2; go_meet; exact ⟨by go_num, rfl, rfl⟩
                          · have hff : sb = true := by rw [HSB.out]; simp [h, e1]
                            have b2 : ((s[q + 1].toNat : Int) == 45) = true := by simpa using e1
                            subst hff e2 e3; clear e1
                            go_wp2; go_meet; exact ⟨by go_num, rfl, rfl⟩
                          · have hff : sb = false := by
                              rw [HSB.out, decide_eq_false_iff_not]; rintro ⟨h, e | e⟩
                              · exact (e1 h).1 e
                              · exact (e1 h).2 e
                            subst hff e2 e3; clear e1
                            go_wp2; go_meet; exact ⟨by go_num, rfl, rfl⟩
                        case rest => as_aux_lemma =>
                          obtain ⟨rfl, rfl, hwc⟩ := hcut
                          subst hwc
                          go_wp2_with fail
                          go_loop [4, 10] (fun a b => ∃ j : Nat, q2 ≤ j ∧ j ≤ s.size ∧ j ≤ q2 + 9 ∧ a = .int .i64 j ∧ b = .int .i64 (Dc.numOf ((s.data.toList.drop q2).take (j - q2))) ∧ ((s.data.toList.drop q2).take (j - q2)).all Dc.isDig = true) (fun a _ => s.size - (intOf a).toNat)
                          case atStart => exact ⟨q2, Nat.le_refl _, hq2, by omega, rfl, by simp [Dc.numOf], by simp⟩
                          case round =>
                            obtain ⟨j, hj0, hj, hj9, rfl, rfl, hall⟩ := hrel
                            have hbd := Dc.numOf_bound _ hall (by rw [List.length_take]; omega)
                            obtain ⟨v, hv⟩ : ∃ v, v = Dc.numOf ((s.data.toList.drop q2).take (j - q2)) := ⟨_, rfl⟩
                            rw [← hv] at hbd ⊢
                            obtain ⟨hv0, hv1⟩ := hbd
                            have HA3 := Lib.hid hall; have HV := Lib.hid hv; clear hall hv
                            by_cases hgo3 : ∃ h : j < s.size, Dc.isDig s[j] = true ∧ j < q2 + 9
                            · obtain ⟨hlt3, hd3, h93⟩ := hgo3
                              have hsn := Lib.hid (take_drop_snoc s q2 j hj0 hlt3)
                              have hdig := Lib.hid (r7_digit_yes s[j] hd3)
                              have hcd : 48 ≤ (s[j].toNat : Int) ∧ (s[j].toNat : Int) ≤ 57 := by simpa [Dc.isDig] using hd3
                              obtain ⟨hc1, hc2⟩ := hcd
                              have HD := Lib.hid hd3; clear hd3
                              go_wp2_with (go_at_call 61; (with_reducible refine (hdig.out _).mono ?_); rintro e w' ⟨rfl, rfl⟩)
                              go_round
                              case rel => exact ⟨j + 1, by omega, by omega, by omega, by go_num, by rw [hsn.out, Dc.numOf_snoc, ← HV.out], by rw [hsn.out, List.all_append, HA3.out]; simp [HD.out]⟩
                              case measure => simp [intOf]; omega
                            · have hst3 : ∀ h : j < s.size, Dc.isDig s[j] = false ∨ j = q2 + 9 := fun h => by
                                cases e : Dc.isDig s[j] with
                                | false => exact .inl rfl
                                | true => exact .inr (by by_cases h9 : j < q2 + 9; · exact absurd ⟨h, e, h9⟩ hgo3
                                                         · omega)
                              have hstop := Dc.exp_stop s q2 j hj0 hj hj9 HA3.out hst3
                              have hrr := HRX.out
                              rw [HUN.out] at hrr
                              have HSTOP := Lib.hid hstop; have HRY := Lib.hid hrr; have HST3 := Lib.hid hst3
                              clear hstop hrr hst3 hgo3
                              go_upto_region 28 with (fail)
                              go_cut [137] (fun a w' => a = .bool false ∧ w' = wc)
                              case first => as_aux_lemma =>
                                by_cases hlt3 : j < s.size
                                · cases hdj : Dc.isDig s[j] with
                                  | false =>
                                    have hdg := Lib.hid (r7_digit_no s[j] hdj)
                                    clear hdj
                                    go_wp2_with (go_at_call 61; (with_reducible refine (hdg.out _).mono ?_); rintro e w' ⟨rfl, rfl⟩)
                                    go_meet
                                    exact ⟨rfl, rfl⟩
                                  | true =>
                                    have hdg := Lib.hid (r7_digit_yes s[j] hdj)
                                    have h9 : q2 + 9 ≤ j := by
                                      rcases HST3.out hlt3 with e | e
                                      · rw [hdj] at e; cases e
                                      · omega
                                    clear hdj
                                    go_wp2_with (go_at_call 61; (with_reducible refine (hdg.out _).mono ?_); rintro e w' ⟨rfl, rfl⟩)
                                    go_meet
                                    exact ⟨congrArg Value.bool (by simp; omega), rfl⟩
                                · go_wp2
                                  go_meet
                                  exact ⟨rfl, rfl⟩
                              case rest => as_aux_lemma =>
                                obtain ⟨rfl, hwc⟩ := hcut
                                subst hwc
                                by_cases hj2 : j = q2
                                · have hrr := HRY.out
                                  rw [if_pos (HSTOP.out.2 (.inl hj2))] at hrr
                                  have HRZ := Lib.hid hrr
                                  have b3 : ((j : Int) == q2) = true := beq_iff_eq.2 (by omega)
                                  have HJ2 := Lib.hid hj2; clear hrr hj2
                                  go_wp2
                                  (refine bodyPost_ret (v := .tuple #[.agg #[.bool false, .string ⟨#[]⟩, .int .i64 0], .int .i64 3]) (by (simp [results, Tryz.results72, go_sem, hc3, hlw, hmw]; done)) rfl (RetB.of HRZ.out.symm (by (repeat (first | exact Below.refl _ _ | assumption | refine Below.setCell ?_ (by first | omega | (simp <;> omega)) _ | refine Below.alloc ?_ (by first | omega | (simp <;> omega)) _ | refine Below.drew ?_ | refine below_drewN' ?_ _)))))
                                · have b3 : ((j : Int) == q2) = false := beq_eq_false_iff_ne.2 (by omega)
                                  by_cases hlt3 : j < s.size
                                  · have hrr := HRY.out
                                    rw [if_pos (HSTOP.out.2 (.inr hlt3))] at hrr
                                    have HRZ := Lib.hid hrr; clear hrr hj2
                                    rcases HSG1.out with e | e
                                    all_goals (
                                      subst e
                                      go_wp2
                                      (refine bodyPost_ret (v := .tuple #[.agg #[.bool false, .string ⟨#[]⟩, .int .i64 0], .int .i64 3]) (by (simp [results, Tryz.results72, go_sem, hc3, hlw, hmw]; done)) rfl (RetB.of HRZ.out.symm (by (repeat (first | exact Below.refl _ _ | assumption | refine Below.setCell ?_ (by first | omega | (simp <;> omega)) _ | refine Below.alloc ?_ (by first | omega | (simp <;> omega)) _ | refine Below.drew ?_ | refine below_drewN' ?_ _))))))
                                  · have hrr := HRY.out
                                    rw [if_neg (fun x => by rcases HSTOP.out.1 x with e | e; · exact hj2 e
                                                            · exact hlt3 e), HSG.out, (Dc.run_spec s q2 j hj0 hj HA3.out (fun x => absurd x hlt3)).1, ← HV.out] at hrr
                                    have hmk : ∀ w, Calls Tryz.prog 24 #[.bool neg, .string ⟨d.toArray⟩, .int .i64 (-(g.length : Int) + sg * v)] w (RetB r w) := fun w => by
                                      rw [hrr, show -(g.length : Int) + sg * v = sg * v - g.length by omega]
                                      exact r7_make_any neg ⟨d.toArray⟩ _ w (by rw [size_mk]; omega) (by rcases HSG1.out with e | e <;> rw [e] <;> omega)
                                    obtain ⟨qq, hqq⟩ : ∃ q : Dc.Res, r = q.val := ⟨_, hrr⟩
                                    rw [hqq] at hmk
                                    have HQQ := Lib.hid hqq; have HM := Lib.hid hmk; clear hrr hqq hmk hj2
                                    have hstr := HSTR.out
                                    rcases HSG1.out with e | e
                                    · subst e
                                      have HM2 := HM.out
                                      rw [show -(g.length : Int) + 1 * v = -(g.length : Int) + v by omega] at HM2
                                      have HM3 := Lib.hid HM2; clear HM2
                                      go_wp2_with (go_at_call 24; (with_reducible refine (HM3.out _).mono ?_); rintro e w5 ⟨rfl, hb_w5⟩; have hB_w5 : Below (w).heap.size (w) w5 := Below.trans (by (repeat (first | exact Below.refl _ _ | assumption | refine Below.setCell ?_ (by first | omega | (simp <;> omega)) _ | refine Below.alloc ?_ (by first | omega | (simp <;> omega)) _ | refine Below.drew ?_ | refine below_drewN' ?_ _))) (hb_w5.mono (by first | omega | (simp <;> omega))); obtain ⟨hc_w5, hf_w5⟩ := bcell hb_w5; have hz_w5 := hb_w5.size; (try simp only [zD, zN, zA, zS] at hz_w5); have hk := own6 hb_w5 (w.heap.size) (by (try simp only [zD, zN, zA, zS]); omega); obtain ⟨hl0_w5, hm0_w5, hn0_w5, hq0_w5, hr0_w5, hg0_w5⟩ := hk)
                                      (refine bodyPost_ret (v := Dc.Res.val qq) (by (simp [results, Tryz.results72, go_sem, Dc.Res.val, hr0_w5, hl0_w5, hm0_w5, hn0_w5, hq0_w5, hc3, hlw, hmw]; done)) rfl (RetB.of HQQ.out.symm (by (repeat (first | exact Below.refl _ _ | assumption | refine Below.setCell ?_ (by first | omega | (simp <;> omega)) _ | refine Below.alloc ?_ (by first | omega | (simp <;> omega)) _ | refine Below.drew ?_ | refine below_drewN' ?_ _)))))
                                    · subst e
                                      have HM2 := HM.out
                                      rw [show -(g.length : Int) + -1 * v = -(g.length : Int) + -v by omega] at HM2
                                      have HM3 := Lib.hid HM2; clear HM2
                                      go_wp2_with (go_at_call 24; (with_reducible refine (HM3.out _).mono ?_); rintro e w5 ⟨rfl, hb_w5⟩; have hB_w5 : Below (w).heap.size (w) w5 := Below.trans (by (repeat (first | exact Below.refl _ _ | assumption | refine Below.setCell ?_ (by first | omega | (simp <;> omega)) _ | refine Below.alloc ?_ (by first | omega | (simp <;> omega)) _ | refine Below.drew ?_ | refine below_drewN' ?_ _))) (hb_w5.mono (by first | omega | (simp <;> omega))); obtain ⟨hc_w5, hf_w5⟩ := bcell hb_w5; have hz_w5 := hb_w5.size; (try simp only [zD, zN, zA, zS] at hz_w5); have hk := own6 hb_w5 (w.heap.size) (by (try simp only [zD, zN, zA, zS]); omega); obtain ⟨hl0_w5, hm0_w5, hn0_w5, hq0_w5, hr0_w5, hg0_w5⟩ := hk)
                                      (refine bodyPost_ret (v := Dc.Res.val qq) (by (simp [results, Tryz.results72, go_sem, Dc.Res.val, hr0_w5, hl0_w5, hm0_w5, hn0_w5, hq0_w5, hc3, hlw, hmw]; done)) rfl (RetB.of HQQ.out.symm (by (repeat (first | exact Below.refl _ _ | assumption | refine Below.setCell ?_ (by first | omega | (simp <;> omega)) _ | refine Below.alloc ?_ (by first | omega | (simp <;> omega)) _ | refine Below.drew ?_ | refine below_drewN' ?_ _)))))
end Go.Proofs.YtiglekomfgfilaaGreatDoor

/- The reference: Read and Parse. -/
namespace Go.Proofs.YtiglekomfgfilaaGreatDoor
set_option maxRecDepth 100000
set_option maxHeartbeats 4000000
set_option linter.all false
open Go.RowKit
theorem r8_parse_any (s : ByteArray) (w : World) (hs : s.size ≤ 1000000) :
    Calls Tryz.prog 41 #[.string s] w (RetB (.tuple #[.int .u64 ((Fl.readS s.data.toList).1 : Nat), .int .i64 (Fl.readS s.data.toList).2]) w) := by
  have hP := fun w => r7_parse_any s w hs
  rcases Dc.parse_fine s.data.toList with ⟨he, hr⟩ | ⟨e, he, hf⟩
  · rcases hq : Dc.parse s.data.toList with ⟨n, l, x, e⟩
    rw [hq] at he hr hP
    simp only at he hr
    subst he
    have hv : Fl.readS s.data.toList = (Fl.wsign n + Fl.bits l x, 0) := by rw [Fl.readS, hq, if_pos rfl]
    rw [hv]
    obtain ⟨S, hS⟩ : ∃ S : ByteArray, S = ⟨l.toArray⟩ := ⟨_, rfl⟩
    have hSl : S.data.toList = l := by rw [hS]
    have hB := fun w1 => r8_bits_any n S x w1 (by rw [hSl]; exact hr)
    rw [hSl] at hB
    simp only [Dc.Res.val] at hP
    rw [← hS] at hP
    obtain ⟨Y, hY⟩ : ∃ Y, Y = Fl.wsign n + Fl.bits l x := ⟨_, rfl⟩
    rw [← hY] at hB ⊢
    have HP := Lib.hid hP; have HB := Lib.hid hB
    clear hP hB hr hv hS hSl hY hq
    go_enter Tryz.func41, Tryz.ntmps41
    go_wp2_with (first
      | (go_at_call 72; (with_reducible refine (HP.out _).mono ?_); rintro e w1 ⟨rfl, hb_w1⟩; have hB_w1 : Below (w).heap.size (w) w1 := Below.trans (by (repeat (first | exact Below.refl _ _ | assumption | refine Below.setCell ?_ (by first | omega | (simp <;> omega)) _ | refine Below.alloc ?_ (by first | omega | (simp <;> omega)) _ | refine Below.drew ?_ | refine below_drewN' ?_ _))) (hb_w1.mono (by first | omega | (simp <;> omega))); obtain ⟨hc_w1, hf_w1⟩ := bcell hb_w1; have hz_w1 := hb_w1.size; (try simp only [zD, zN, zA, zS] at hz_w1))
      | (go_at_call 21; (with_reducible refine (HB.out _).mono ?_); rintro e w2 ⟨rfl, hb_w2⟩; have hB_w2 : Below (w).heap.size (w) w2 := Below.trans (by (repeat (first | exact Below.refl _ _ | assumption | refine Below.setCell ?_ (by first | omega | (simp <;> omega)) _ | refine Below.alloc ?_ (by first | omega | (simp <;> omega)) _ | refine Below.drew ?_ | refine below_drewN' ?_ _))) (hb_w2.mono (by first | omega | (simp <;> omega))); obtain ⟨hc_w2, hf_w2⟩ := bcell hb_w2; have hz_w2 := hb_w2.size; (try simp only [zD, zN, zA, zS] at hz_w2)))
    refine bodyPost_ret (v := .tuple #[.int .u64 (Y : Nat), .int .i64 0]) (by (simp [results, Tryz.results41, go_sem]; done)) rfl (RetB.of rfl (by (repeat (first | exact Below.refl _ _ | assumption | refine Below.setCell ?_ (by first | omega | (simp <;> omega)) _ | refine Below.alloc ?_ (by first | omega | (simp <;> omega)) _ | refine Below.drew ?_ | refine below_drewN' ?_ _))))
  · have hv : Fl.readS s.data.toList = (0, e) := by rw [Fl.readS, hf, if_neg (by rcases he with rfl | rfl <;> decide)]
    rw [hv]
    rw [hf] at hP
    simp only [Dc.Res.val] at hP
    have HP := Lib.hid hP
    clear hP hv hf
    have he2 : (e == 0) = false := by rcases he with rfl | rfl <;> decide
    all_goals (
      go_enter Tryz.func41, Tryz.ntmps41
      go_wp2_with (first
        | (go_at_call 72; (with_reducible refine (HP.out _).mono ?_); rintro e w1 ⟨rfl, hb_w1⟩; have hB_w1 : Below (w).heap.size (w) w1 := Below.trans (by (repeat (first | exact Below.refl _ _ | assumption | refine Below.setCell ?_ (by first | omega | (simp <;> omega)) _ | refine Below.alloc ?_ (by first | omega | (simp <;> omega)) _ | refine Below.drew ?_ | refine below_drewN' ?_ _))) (hb_w1.mono (by first | omega | (simp <;> omega))); obtain ⟨hc_w1, hf_w1⟩ := bcell hb_w1; have hz_w1 := hb_w1.size; (try simp only [zD, zN, zA, zS] at hz_w1)))
      refine bodyPost_ret (v := .tuple #[.int .u64 0, .int .i64 e]) (by (simp [results, Tryz.results41, go_sem]; done)) rfl (RetB.of rfl (by (repeat (first | exact Below.refl _ _ | assumption | refine Below.setCell ?_ (by first | omega | (simp <;> omega)) _ | refine Below.alloc ?_ (by first | omega | (simp <;> omega)) _ | refine Below.drew ?_ | refine below_drewN' ?_ _)))))
end Go.Proofs.YtiglekomfgfilaaGreatDoor

namespace Go.Proofs.YtiglekomfgfilaaGreatDoor
set_option linter.all false
open Go.RowKit
def pre (V l : Dc.Bs) (p i : Nat) : Dc.Bs := V ++ (List.range i).flatMap fun j => (if j = p then [46] else []) ++ [l.getD j 48]
theorem pre_zero (V l : Dc.Bs) (p : Nat) : pre V l p 0 = V := by simp [pre]
theorem pre_succ (V l : Dc.Bs) (p i : Nat) : pre V l p (i + 1) = pre V l p i ++ ((if i = p then [46] else []) ++ [l.getD i 48]) := by
  simp [pre, List.range_succ]
theorem pre_len (V l : Dc.Bs) (p i : Nat) : (pre V l p i).length ≤ V.length + 2 * i := by
  induction i with
  | zero => rw [pre_zero]; omega
  | succ i ih => rw [pre_succ, List.length_append, List.length_append]; split <;> simp <;> omega
theorem pre_le (V l : Dc.Bs) (p : Nat) : ∀ i, i ≤ p → i ≤ l.length → pre V l p i = V ++ l.take i := by
  intro i
  induction i with
  | zero => intro _ _; rw [pre_zero]; simp
  | succ i ih =>
    intro h1 h2
    rw [pre_succ, ih (by omega) (by omega), if_neg (by omega), List.take_succ_eq_append_getElem (by omega)]
    simp [List.getD_eq_getElem?_getD, List.getElem?_eq_getElem (show i < l.length by omega)]
theorem pre_behind (V l : Dc.Bs) (p : Nat) (h0 : p < l.length) : ∀ k, p + 1 + k ≤ l.length → pre V l p (p + 1 + k) = V ++ l.take p ++ [46] ++ (l.drop p).take (k + 1) := by
  intro k
  induction k with
  | zero =>
    intro _
    have e : (l.drop p).take (0 + 1) = [l[p]] := by rw [List.drop_eq_getElem_cons h0]; rfl
    rw [Nat.add_zero, pre_succ, pre_le V l p p (Nat.le_refl _) (by omega), if_pos rfl, e]
    simp [List.getD_eq_getElem?_getD, List.getElem?_eq_getElem h0]
  | succ k ih =>
    intro h
    have hk : k + 1 < (l.drop p).length := by rw [List.length_drop]; omega
    rw [show p + 1 + (k + 1) = p + 1 + k + 1 by omega, pre_succ, ih (by omega), if_neg (by omega), List.take_succ_eq_append_getElem hk]
    simp [List.getD_eq_getElem?_getD, List.getElem?_eq_getElem (show p + 1 + k < l.length by omega), show p + (k + 1) = p + 1 + k by omega]
theorem pre_noughts (V l : Dc.Bs) (p : Nat) : ∀ k, l.length + k ≤ p → pre V l p (l.length + k) = V ++ l ++ List.replicate k 48 := by
  intro k
  induction k with
  | zero => intro h; rw [Nat.add_zero, pre_le V l p _ (by omega) (Nat.le_refl _)]; simp
  | succ k ih =>
    intro h
    rw [show l.length + (k + 1) = l.length + k + 1 by omega, pre_succ, ih (by omega), if_neg (by omega), List.replicate_succ']
    simp [List.getD_eq_getElem?_getD, List.getElem?_eq_none]
theorem rep_repl (m : Nat) : Lib.repeatL [48] m = List.replicate m 48 := by
  induction m with
  | zero => rfl
  | succ m ih => rw [Lib.repeatL, ih, List.replicate_succ]; rfl
theorem pre_body (V l : Dc.Bs) (p : Nat) (hne : l ≠ []) (h1 : 1 ≤ p) (h2 : p ≤ 21) (i : Nat) (hi : i = max p l.length) : pre V l p i = Dc.body V l p := by
  rw [Dc.body, if_neg hne]
  by_cases h : l.length ≤ p
  · rw [if_pos ⟨by omega, by omega, by omega⟩, show i = l.length + (p - l.length) by omega, pre_noughts _ _ _ _ (by omega), rep_repl]
    congr 2; omega
  · have e : (l.drop p).take (l.length - p - 1 + 1) = l.drop p := List.take_of_length_le (by rw [List.length_drop]; omega)
    rw [if_neg (show ¬ (1 ≤ (p : Int) ∧ (p : Int) ≤ 21 ∧ (l.length : Int) ≤ p) by omega), if_pos (show 1 ≤ (p : Int) ∧ (p : Int) ≤ 21 by omega), show i = p + 1 + (l.length - p - 1) by omega, pre_behind _ _ _ (by omega) _ (by omega), e, Int.toNat_natCast]
end Go.Proofs.YtiglekomfgfilaaGreatDoor
