import Derived.Test.YtcbepojookbceaaDoorT2
import Derived.Test.YtcbepojookbceaaDoorT14
namespace Go.Proofs.YtcbepojookbceaaDoor
set_option linter.all false
open Go.RowKit
attribute [local go_sem] Dc.Res.val

theorem box3' {w w1 : World} {a b c : Value} {t : TypeId} {B : Nat} (hb : Below B (w.alloc (.cells #[a, b, c] t)) w1) (hB : w.heap.size < B) :
    w1.cell? ⟨w.heap.size, 0, none⟩ = some a ∧ w1.cell? ⟨w.heap.size, 1, none⟩ = some b ∧ w1.cell? ⟨w.heap.size, 2, none⟩ = some c := by
  refine ⟨?_, ?_, ?_⟩ <;> (rw [hb.cell (p := ⟨w.heap.size, _, none⟩) hB]; simp [go_sem])

theorem digAt_getD (s : ByteArray) (k : Nat) : digAt s k = s.data.toList.getD k 48 := by
  by_cases h : k < s.size
  · rw [← digAt_in s k k h rfl, List.getD_eq_getElem?_getD, Dc.get?_bytes s k h]; rfl
  · rw [digAt_out s k (by omega), List.getD_eq_getElem?_getD, List.getElem?_eq_none (by rw [bs_length]; omega)]; rfl

theorem one_byte (W : World) (c : UInt8) : (convert 63 9 (.slice (some ⟨W.heap.size, 0, none⟩) 1 1)).run Tryd.prog (W.alloc (.cells #[.int .u8 (c.toNat : Int)] 5)) = .ok (.string ⟨#[c]⟩) (W.alloc (.cells #[.int .u8 (c.toNat : Int)] 5)) := by
  refine run_convert_bytes_back _ _ _ 5 ⟨W.heap.size, 0, none⟩ 1 [c] Tryd.underlying63 Tryd.underlying5 Tryd.underlying9 ?_
  intro j hj
  obtain rfl : j = 0 := by simp at hj; omega
  have ha : (⟨W.heap.size, 0, none⟩ : Addr).add 0 = ⟨W.heap.size, 0, none⟩ := by unfold Addr.add; simp
  rw [ha]; simp [go_sem]

set_option maxRecDepth 100000 in
set_option maxHeartbeats 2000000 in
theorem r7_print_body (n : Bool) (s V : ByteArray) (x : Int) (w : World) (hs : s.size ≤ 1100) (hx : -100000 ≤ x ∧ x ≤ 100000) (hV : V = if n then ⟨#[45]⟩ else ⟨#[]⟩) (hr : Dc.right s.data.toList x = true) :
    Calls Tryd.prog 38 #[.agg #[.bool n, .string s, .int .i64 x]] w (RetB (.string ⟨(Dc.body V.data.toList s.data.toList ((s.size : Int) + x)).toArray⟩) w) := by
  have hright := fun w => r7_right_any n s x w (by omega)
  rw [hr] at hright
  have hpt := fun w => r7_point_any n s x w (by omega)
  have hpe : Dc.point s.data.toList x = (s.size : Int) + x := by rw [Dc.point_eq, if_pos hr]
  rw [hpe] at hpt
  obtain ⟨p, hp⟩ : ∃ p, p = (s.size : Int) + x := ⟨_, rfl⟩
  obtain ⟨r, hrr⟩ : ∃ r : ByteArray, r = ⟨(Dc.body V.data.toList s.data.toList p).toArray⟩ := ⟨_, rfl⟩
  have hpb : -100000 ≤ p ∧ p ≤ 110000 := by omega
  rw [← hp, ← hrr]
  rw [← hp] at hpt
  obtain ⟨hp1, hp2⟩ := hpb
  have hVs : V.size ≤ 1 := by rw [hV]; cases n <;> decide
  have hb0 : Below w.heap.size w (w.alloc (.cells #[.bool n, .string s, .int .i64 x] 36)) := (Below.refl _ _).alloc (Nat.le_refl _) _
  have HPE := Lib.hid hp
  have HB0 := Lib.hid hb0; have HRT := Lib.hid hright; have HPT := Lib.hid hpt; have HRR := Lib.hid hrr; have HVV := Lib.hid hV
  clear hb0 hright hpt hrr hV hr hp hpe hx
  go_enter Tryd.func38, Tryd.ntmps38
  go_upto_if 14 with (go_at_call 23; (with_reducible refine (HRT.out _).mono ?_); rintro e w1 ⟨rfl, hb_w1⟩; have hB_w1 : Below (w.alloc (.cells #[.bool n, .string s, .int .i64 x] 36)).heap.size (w.alloc (.cells #[.bool n, .string s, .int .i64 x] 36)) w1 := Below.trans (by (repeat (first | exact Below.refl _ _ | assumption | refine Below.setCell ?_ (by first | omega | (simp <;> omega)) _ | refine Below.alloc ?_ (by first | omega | (simp <;> omega)) _ | refine Below.drew ?_ | refine below_drewN' ?_ _))) (hb_w1.mono (by first | omega | (simp <;> omega))); obtain ⟨hc_w1, hf_w1⟩ := bcell hb_w1; have hz_w1 := hb_w1.size; (try simp only [size_drew', size_drewN', World.size_alloc, World.size_setCell] at hz_w1); have hl0_w1 : w.heap.size < w1.heap.size := (by omega); have hm0_w1 : w.heap.size ≤ w1.heap.size := (by omega); have hn0_w1 : ¬ w.heap.size = w1.heap.size := (by omega); have hq0_w1 : ¬ w1.heap.size = w.heap.size := (by omega); have hr0_w1 := fun o => hc_w1 (w.heap.size) o (by (try simp only [size_drew', size_drewN', World.size_alloc, World.size_setCell]); omega); have hg0_w1 := fun o => hf_w1 (w.heap.size) o (by (try simp only [size_drew', size_drewN', World.size_alloc, World.size_setCell]); omega))
  go_cut [4] (fun a wr => a = .string V ∧ wr = w1)
  case first =>
    have hvv := HVV.out
    cases n
    · have e : V = ⟨#[]⟩ := hvv
      subst e
      go_wp2; go_meet; exact ⟨rfl, rfl⟩
    · have e : V = ⟨#[45]⟩ := hvv
      subst e
      go_wp2; go_meet; exact ⟨rfl, rfl⟩
  case rest =>
    obtain ⟨rfl, hwc⟩ := hcut
    subst hwc
    obtain ⟨k0, k1, k2⟩ := box3' hB_w1 (by simp)
    go_upto_if 20 with (go_at_call 24; (with_reducible refine (HPT.out _).mono ?_); rintro e w2 ⟨rfl, hb_w2⟩; have hB_w2 : Below (w.alloc (.cells #[.bool n, .string s, .int .i64 x] 36)).heap.size (w.alloc (.cells #[.bool n, .string s, .int .i64 x] 36)) w2 := Below.trans (by (repeat (first | exact Below.refl _ _ | assumption | refine Below.setCell ?_ (by first | omega | (simp <;> omega)) _ | refine Below.alloc ?_ (by first | omega | (simp <;> omega)) _ | refine Below.drew ?_ | refine below_drewN' ?_ _))) (hb_w2.mono (by first | omega | (simp <;> omega))); obtain ⟨hc_w2, hf_w2⟩ := bcell hb_w2; have hz_w2 := hb_w2.size; (try simp only [size_drew', size_drewN', World.size_alloc, World.size_setCell] at hz_w2); have hl0_w2 : w.heap.size < w2.heap.size := (by omega); have hm0_w2 : w.heap.size ≤ w2.heap.size := (by omega); have hn0_w2 : ¬ w.heap.size = w2.heap.size := (by omega); have hq0_w2 : ¬ w2.heap.size = w.heap.size := (by omega); have hr0_w2 := fun o => hc_w2 (w.heap.size) o (by (try simp only [size_drew', size_drewN', World.size_alloc, World.size_setCell]); omega); have hg0_w2 := fun o => hf_w2 (w.heap.size) o (by (try simp only [size_drew', size_drewN', World.size_alloc, World.size_setCell]); omega))
    have k3 := box3' hB_w2 (by simp)
    obtain ⟨m0, m1, m2⟩ := k3
    clear k0 k1 k2
    have hBw := HB0.out.trans (hB_w2.mono (by simp))
    by_cases c0 : s.size = 0
    · have e0 : ((s.size : Int) == 0) = true := beq_iff_eq.2 (by omega)
      have hf : V ++ ⟨#[48]⟩ = r := by
        rw [HRR.out]; refine Dc.ba_eq _ _ ?_
        rw [Dc.ba_app, Dc.body, if_pos (List.length_eq_zero_iff.1 (by simpa using c0))]
      have HF := Lib.hid hf; have HC0 := Lib.hid c0; clear c0 hf
      replace c0 : s.size ≤ 0 := by have := HC0.out; omega
      go_wp2
      go_ret
      exact RetB.of (congrArg Value.string HF.out) hBw
    · have e0 : ((s.size : Int) == 0) = false := beq_eq_false_iff_ne.2 (by omega)
      have hne : s.data.toList ≠ [] := fun e => c0 (by have := congrArg List.length e; rwa [bs_length] at this)
      have hl : s.data.toList.length = s.size := bs_length s
      have hbody := HRR.out
      rw [Dc.body, if_neg hne, hl] at hbody
      have HBD := Lib.hid hbody; have HL := Lib.hid hl; clear hbody hne hl
      have hc0 : 0 < s.size := by omega
      clear c0
      by_cases c1 : 1 ≤ p ∧ p ≤ 21
      · obtain ⟨c1, c2⟩ := c1
        obtain ⟨P, hP⟩ : ∃ P : Nat, p = P := ⟨p.toNat, by omega⟩
        have hfin : ∀ (i : Nat), i = max P s.size → pre V.data.toList s.data.toList P i = Dc.body V.data.toList s.data.toList p := fun i hi => by
          rw [hP]; exact pre_body _ _ P (fun e => by have := congrArg List.length e; rw [bs_length, List.length_nil] at this; omega) (by omega) (by omega) i (by rw [bs_length]; exact hi)
        have HFN := Lib.hid hfin; clear hfin
        have hcv := fun (W : World) (c : UInt8) => one_byte W c
        subst hP
        have hat : ∀ (k : Nat) (W : World), k ≤ 10000 → Calls Tryd.prog 60 #[.agg #[.bool n, .string s, .int .i64 x], .int .i64 ((P : Int) - 1 - k)] W (RetB (.int .u8 ((s.data.toList.getD k 48).toNat)) W) := fun k W hk => by
          rw [← digAt_getD]; exact r7_at_any n s x _ k W (by omega) (by have := HPE.out; omega) (by omega) (by have := HPE.out; omega)
        have HAT := Lib.hid hat; clear hat
        go_wp2_with fail
        go_loopw [4, 7] (fun a i wr => ∃ k : Nat, k ≤ max P s.size ∧ i = .int .i64 k ∧ a = .string ⟨(pre V.data.toList s.data.toList P k).toArray⟩ ∧ Below (w.heap.size + 1) (w.alloc (.cells #[.bool n, .string s, .int .i64 x] 36)) wr) (fun _ i _ => max P s.size - (intOf i).toNat)
        case atStart => exact ⟨0, Nat.zero_le _, rfl, by rw [pre_zero], hB_w2.mono (by simp)⟩
        case round =>
          obtain ⟨k, hk, rfl, rfl, hbw⟩ := hrel
          obtain ⟨A, hA⟩ : ∃ A : ByteArray, A = ⟨(pre V.data.toList s.data.toList P k).toArray⟩ := ⟨_, rfl⟩
          have hAs : A.size ≤ 10000 := by rw [hA, size_mk]; have := pre_len V.data.toList s.data.toList P k; rw [bs_length] at this; omega
          rw [← hA]
          obtain ⟨q0, q1, q2⟩ := box3' hbw (by omega)
          have hbz := hbw.size
          simp only [World.size_alloc] at hbz
          have HBW := Lib.hid hbw; have HA := Lib.hid hA; clear hbw hA
          by_cases hlt : k < max P s.size
          · obtain ⟨c, hc⟩ : ∃ c, c = s.data.toList.getD k 48 := ⟨_, rfl⟩
            have h1 := fun W => HAT.out k W (by omega)
            rw [← hc] at h1
            have hs := pre_succ V.data.toList s.data.toList P k
            rw [← hc] at hs
            have H1 := Lib.hid h1; have HS := Lib.hid hs; clear h1 hs hc
            have s1 : ¬ 9223372036854775807 < A.size + 1 := by omega
            have s2 : ¬ 9223372036854775807 < A.size + 1 + 1 := by omega
            by_cases hkp : k < P
            · have e1 : ((k : Int) == P) = false := beq_eq_false_iff_ne.2 (by omega)
              go_wp2_with (go_at_call 60; (with_reducible refine (H1.out _).mono ?_); rintro e w5 ⟨rfl, hb_w5⟩; have hB_w5 : Below (wr).heap.size (wr) w5 := Below.trans (by (repeat (first | exact Below.refl _ _ | assumption | refine Below.setCell ?_ (by first | omega | (simp <;> omega)) _ | refine Below.alloc ?_ (by first | omega | (simp <;> omega)) _ | refine Below.drew ?_ | refine below_drewN' ?_ _))) (hb_w5.mono (by first | omega | (simp <;> omega))); obtain ⟨hc_w5, hf_w5⟩ := bcell hb_w5; have hz_w5 := hb_w5.size; (try simp only [size_drew', size_drewN', World.size_alloc, World.size_setCell] at hz_w5))
              go_roundw
              case rel => exact ⟨k + 1, by omega, by go_num, by rw [HS.out, if_neg (by omega)]; congr 1; exact Dc.ba_eq _ _ (by rw [Dc.ba_app, HA.out]; rfl), HBW.out.trans ((hB_w5.mono (by omega)).alloc (by omega) _)⟩
              case measure => simp [intOf]; omega
            · by_cases hkq : k = P
              · have e1 : ((k : Int) == P) = true := beq_iff_eq.2 (by omega)
                have HKQ := Lib.hid hkq; clear hkq
                go_wp2_with (go_at_call 60; (with_reducible refine (H1.out _).mono ?_); rintro e w6 ⟨rfl, hb_w6⟩; have hB_w6 : Below (wr).heap.size (wr) w6 := Below.trans (by (repeat (first | exact Below.refl _ _ | assumption | refine Below.setCell ?_ (by first | omega | (simp <;> omega)) _ | refine Below.alloc ?_ (by first | omega | (simp <;> omega)) _ | refine Below.drew ?_ | refine below_drewN' ?_ _))) (hb_w6.mono (by first | omega | (simp <;> omega))); obtain ⟨hc_w6, hf_w6⟩ := bcell hb_w6; have hz_w6 := hb_w6.size; (try simp only [size_drew', size_drewN', World.size_alloc, World.size_setCell] at hz_w6))
                go_roundw
                case rel => exact ⟨k + 1, by omega, by go_num, by rw [HS.out, if_pos HKQ.out]; congr 1; exact Dc.ba_eq _ _ (by rw [Dc.ba_app, Dc.ba_app, HA.out]; simp), HBW.out.trans ((hB_w6.mono (by omega)).alloc (by omega) _)⟩
                case measure => simp [intOf]; omega
              · have e1 : ((k : Int) == P) = false := beq_eq_false_iff_ne.2 (by omega)
                go_wp2_with (go_at_call 60; (with_reducible refine (H1.out _).mono ?_); rintro e w7 ⟨rfl, hb_w7⟩; have hB_w7 : Below (wr).heap.size (wr) w7 := Below.trans (by (repeat (first | exact Below.refl _ _ | assumption | refine Below.setCell ?_ (by first | omega | (simp <;> omega)) _ | refine Below.alloc ?_ (by first | omega | (simp <;> omega)) _ | refine Below.drew ?_ | refine below_drewN' ?_ _))) (hb_w7.mono (by first | omega | (simp <;> omega))); obtain ⟨hc_w7, hf_w7⟩ := bcell hb_w7; have hz_w7 := hb_w7.size; (try simp only [size_drew', size_drewN', World.size_alloc, World.size_setCell] at hz_w7))
                go_roundw
                case rel => exact ⟨k + 1, by omega, by go_num, by rw [HS.out, if_neg (by omega)]; congr 1; exact Dc.ba_eq _ _ (by rw [Dc.ba_app, HA.out]; rfl), HBW.out.trans ((hB_w7.mono (by omega)).alloc (by omega) _)⟩
                case measure => simp [intOf]; omega
          · go_wp2
            go_ret
            exact RetB.of (congrArg Value.string (by rw [HA.out, HFN.out k (by omega)]; exact HRR.out.symm)) (HB0.out.trans (HBW.out.mono (by omega)))
      · by_cases c2 : -5 ≤ p ∧ p ≤ 0
        · obtain ⟨c3, c4⟩ := c2
          have hf : ∀ k : Nat, (k : Int) = -p → V.data.toList ++ [48, 46] ++ Lib.repeatL [48] k ++ s.data.toList = r.data.toList := fun k hk => by
            rw [HBD.out, if_neg (fun h => c1 ⟨h.1, h.2.1⟩), if_neg c1, if_pos ⟨c3, c4⟩, show (-p).toNat = k by omega]
          have HF := Lib.hid hf; clear hf c1
          have hwr : IntKind.i64.wrap (-p) = -p := IntWalk.i64_in _ (by omega)
          have s0 : ¬ 9223372036854775807 < V.size + 2 := by omega
          go_wp2_with fail
          go_loop [4, 8] (fun a i => ∃ k : Nat, (k : Int) ≤ -p ∧ i = .int .i64 k ∧ a = .string ⟨(V.data.toList ++ [48, 46] ++ Lib.repeatL [48] k).toArray⟩) (fun _ i => (-p - intOf i).toNat)
          case atStart => exact ⟨0, by omega, rfl, by congr 1; exact Dc.ba_eq _ _ (by rw [Dc.ba_app]; simp [Lib.repeatL])⟩
          case round =>
            obtain ⟨k, hk, rfl, rfl⟩ := hrel
            obtain ⟨A, hA⟩ : ∃ A : ByteArray, A = ⟨(V.data.toList ++ [48, 46] ++ Lib.repeatL [48] k).toArray⟩ := ⟨_, rfl⟩
            have hAs : A.size ≤ 100 := by rw [hA, size_mk, List.length_append, List.length_append, Lib.repeatL_length, bs_length]; simp; omega
            rw [← hA]
            have HA := Lib.hid hA; clear hA
            have s1 : ¬ 9223372036854775807 < A.size + 1 := by omega
            have s2 : ¬ 9223372036854775807 < A.size + s.size := by omega
            by_cases hlt : (k : Int) < -p
            · go_wp2
              go_round
              case rel => exact ⟨k + 1, by omega, by go_num, by congr 1; exact Dc.ba_eq _ _ (by rw [Dc.ba_app, HA.out, show k + 1 = k + 1 from rfl, Lib.repeatL_add, Lib.repeatL_one]; simp)⟩
              case measure => simp [intOf]; omega
            · go_wp2
              go_ret
              exact RetB.of (congrArg Value.string (Dc.ba_eq _ _ (by rw [Dc.ba_app, HA.out]; exact HF.out k (by omega)))) hBw
        · have hbody := HBD.out
          rw [if_neg (fun h => c1 ⟨h.1, h.2.1⟩), if_neg c1, if_neg c2] at hbody
          have HBX := Lib.hid hbody
          have hgo : p < -5 ∨ 21 < p := by omega
          have HGO := Lib.hid hgo; clear hbody c1 c2 hgo
          obtain ⟨K, hKe⟩ : ∃ K, K = s.extract 0 1 := ⟨_, rfl⟩
          obtain ⟨R, hRe⟩ : ∃ R, R = s.extract 1 s.size := ⟨_, rfl⟩
          have hKs : K.size ≤ 1100 := by rw [hKe, ByteArray.size_extract]; omega
          have hRs : R.size ≤ 1100 := by rw [hRe, ByteArray.size_extract]; omega
          have hsl : ∀ w : World, (Instr.slice 9 (.string s) none (some (.int .i64 1)) none).run Tryd.prog w = .ok (.string K) w := fun w => by
            rw [hKe, run_slice_string_to_if w _ s .i64 1 Tryd.underlying9, if_pos (by omega)]; rfl
          have hsr : ∀ w : World, (Instr.slice 9 (.string s) (some (.int .i64 1)) none none).run Tryd.prog w = .ok (.string R) w := fun w => by
            rw [hRe, run_slice_string_from_if w _ s .i64 1 Tryd.underlying9, if_pos (by omega)]; rfl
          have hK : K.data.toList = s.data.toList.take 1 := by rw [hKe, Lib.extract_data, List.drop_zero]
          have hR : R.data.toList = s.data.toList.drop 1 := by rw [hRe]; exact Lib.extract_to_end s 1
          obtain ⟨U, hU⟩ : ∃ U : ByteArray, U = if 1 < s.size then V ++ K ++ ⟨#[46]⟩ ++ R else V ++ K := ⟨_, rfl⟩
          have hUs : U.size ≤ 3000 := by
            have h46 : (⟨#[46]⟩ : ByteArray).size = 1 := rfl
            rw [hU]; split <;> simp only [ByteArray.size_append, h46] <;> omega
          have hUl : U.data.toList = if 1 < s.size then V.data.toList ++ s.data.toList.take 1 ++ [46] ++ s.data.toList.drop 1 else V.data.toList ++ s.data.toList.take 1 := by
            rw [hU]
            split
            · rw [Dc.ba_app, Dc.ba_app, Dc.ba_app, hK, hR]
            · rw [Dc.ba_app, hK]
          have HUU := Lib.hid hU; have HUL := Lib.hid hUl
          clear hU hUl hKe hRe hK hR
          have s1 : ¬ 9223372036854775807 < V.size + K.size := by omega
          have s2 : ¬ 9223372036854775807 < V.size + K.size + 1 := by omega
          have s3 : ¬ 9223372036854775807 < V.size + K.size + 1 + R.size := by omega
          have s4 : ¬ 9223372036854775807 < U.size + 2 := by omega
          have n1 : ¬ (1 ≤ p ∧ p ≤ 21) := by have := HGO.out; omega
          have n2 : ¬ (-5 ≤ p ∧ p ≤ 0) := by have := HGO.out; omega
          rcases HGO.out with hg | hg
          · obtain ⟨I, hI⟩ : ∃ I : ByteArray, I = ⟨(Lib.itoa (1 - p)).toArray⟩ := ⟨_, rfl⟩
            have hIs : I.size ≤ 30 := by rw [hI, size_mk]; exact Dc.itoa_len _ (by omega)
            have hit : ∀ w1, Calls Tryd.prog 61 #[.int .i64 (1 - p)] w1 (RetB (.string I) w1) := fun w1 => by
              have h := r7_number_any (1 - p).toNat w1 (by omega)
              rw [Int.toNat_of_nonneg (by omega), ← hI] at h; exact h
            have hf : U ++ ⟨#[101, 45]⟩ ++ I = r := by
              rw [HBX.out, if_pos (by omega)]; refine Dc.ba_eq _ _ ?_
              rw [Dc.ba_app, Dc.ba_app, hI, HUL.out]; simp [bs_length]
            have HF := Lib.hid hf; have HI := Lib.hid hit; clear hf hit hI n1 n2
            have s5 : ¬ 9223372036854775807 < U.size + 2 + I.size := by omega
            go_upto_if 85 with (fail)
            go_cut [4] (fun a wr => a = .string U ∧ wr = w2)
            case first =>
              by_cases c9 : 1 < s.size
              · have hu := HUU.out; rw [if_pos c9] at hu
                have HU2 := Lib.hid hu; clear hu
                go_wp2; go_meet
                exact ⟨by rw [HU2.out], rfl⟩
              · have hu := HUU.out; rw [if_neg c9] at hu
                have HU2 := Lib.hid hu; clear hu
                go_wp2; go_meet
                exact ⟨by rw [HU2.out], rfl⟩
            case rest =>
              obtain ⟨rfl, hwc⟩ := hcut
              subst hwc
              go_wp2_with (go_at_call 61; (with_reducible refine (HI.out _).mono ?_); rintro e w5 ⟨rfl, hb_w5⟩; have hB_w5 : Below (w).heap.size (w) w5 := Below.trans (by (repeat (first | exact Below.refl _ _ | assumption | refine Below.setCell ?_ (by first | omega | (simp <;> omega)) _ | refine Below.alloc ?_ (by first | omega | (simp <;> omega)) _ | refine Below.drew ?_ | refine below_drewN' ?_ _))) (hb_w5.mono (by first | omega | (simp <;> omega))); obtain ⟨hc_w5, hf_w5⟩ := bcell hb_w5; have hz_w5 := hb_w5.size; (try simp only [size_drew', size_drewN', World.size_alloc, World.size_setCell] at hz_w5); have hl0_w5 : w.heap.size < w5.heap.size := (by omega); have hm0_w5 : w.heap.size ≤ w5.heap.size := (by omega); have hn0_w5 : ¬ w.heap.size = w5.heap.size := (by omega); have hq0_w5 : ¬ w5.heap.size = w.heap.size := (by omega); have hr0_w5 := fun o => hc_w5 (w.heap.size) o (by (try simp only [size_drew', size_drewN', World.size_alloc, World.size_setCell]); omega); have hg0_w5 := fun o => hf_w5 (w.heap.size) o (by (try simp only [size_drew', size_drewN', World.size_alloc, World.size_setCell]); omega))
              go_ret
              exact RetB.of (congrArg Value.string HF.out) hB_w5
          · obtain ⟨I, hI⟩ : ∃ I : ByteArray, I = ⟨(Lib.itoa (p - 1)).toArray⟩ := ⟨_, rfl⟩
            have hIs : I.size ≤ 30 := by rw [hI, size_mk]; exact Dc.itoa_len _ (by omega)
            have hit : ∀ w1, Calls Tryd.prog 61 #[.int .i64 (p - 1)] w1 (RetB (.string I) w1) := fun w1 => by
              have h := r7_number_any (p - 1).toNat w1 (by omega)
              rw [Int.toNat_of_nonneg (by omega), ← hI] at h; exact h
            have hf : U ++ ⟨#[101, 43]⟩ ++ I = r := by
              rw [HBX.out, if_neg (by omega)]; refine Dc.ba_eq _ _ ?_
              rw [Dc.ba_app, Dc.ba_app, hI, HUL.out]; simp [bs_length]
            have HF := Lib.hid hf; have HI := Lib.hid hit; clear hf hit hI n1 n2
            have s5 : ¬ 9223372036854775807 < U.size + 2 + I.size := by omega
            go_upto_if 85 with (fail)
            go_cut [4] (fun a wr => a = .string U ∧ wr = w2)
            case first =>
              by_cases c9 : 1 < s.size
              · have hu := HUU.out; rw [if_pos c9] at hu
                have HU2 := Lib.hid hu; clear hu
                go_wp2; go_meet
                exact ⟨by rw [HU2.out], rfl⟩
              · have hu := HUU.out; rw [if_neg c9] at hu
                have HU2 := Lib.hid hu; clear hu
                go_wp2; go_meet
                exact ⟨by rw [HU2.out], rfl⟩
            case rest =>
              obtain ⟨rfl, hwc⟩ := hcut
              subst hwc
              go_wp2_with (go_at_call 61; (with_reducible refine (HI.out _).mono ?_); rintro e w5 ⟨rfl, hb_w5⟩; have hB_w5 : Below (w).heap.size (w) w5 := Below.trans (by (repeat (first | exact Below.refl _ _ | assumption | refine Below.setCell ?_ (by first | omega | (simp <;> omega)) _ | refine Below.alloc ?_ (by first | omega | (simp <;> omega)) _ | refine Below.drew ?_ | refine below_drewN' ?_ _))) (hb_w5.mono (by first | omega | (simp <;> omega))); obtain ⟨hc_w5, hf_w5⟩ := bcell hb_w5; have hz_w5 := hb_w5.size; (try simp only [size_drew', size_drewN', World.size_alloc, World.size_setCell] at hz_w5); have hl0_w5 : w.heap.size < w5.heap.size := (by omega); have hm0_w5 : w.heap.size ≤ w5.heap.size := (by omega); have hn0_w5 : ¬ w.heap.size = w5.heap.size := (by omega); have hq0_w5 : ¬ w5.heap.size = w.heap.size := (by omega); have hr0_w5 := fun o => hc_w5 (w.heap.size) o (by (try simp only [size_drew', size_drewN', World.size_alloc, World.size_setCell]); omega); have hg0_w5 := fun o => hf_w5 (w.heap.size) o (by (try simp only [size_drew', size_drewN', World.size_alloc, World.size_setCell]); omega))
              go_ret
              exact RetB.of (congrArg Value.string HF.out) hB_w5

theorem r7_print_any (n : Bool) (s : ByteArray) (x : Int) (w : World) (hs : s.size ≤ 1000000) (hx : -9223372036854775808 ≤ x ∧ x ≤ 9223372036854775807) :
    Calls Tryd.prog 38 #[.agg #[.bool n, .string s, .int .i64 x]] w (RetB (.string ⟨(Dc.print n s.data.toList x).toArray⟩) w) := by
  have hright := fun w => r7_right_any n s x w (by omega)
  cases hr : Dc.right s.data.toList x with
  | true =>
    have hl := Dc.right_len hr
    have hxx := Dc.right_exp hr
    rw [bs_length] at hl
    have := r7_print_body n s (if n then ⟨#[45]⟩ else ⟨#[]⟩) x w hl hxx rfl hr
    rw [Dc.print, if_pos hr, bs_length]
    cases n
    · exact this
    · exact this
  | false =>
    rw [hr] at hright
    rw [Dc.print, if_neg (by rw [hr]; simp)]
    have HR := Lib.hid hright; clear hright hr
    go_enter Tryd.func38, Tryd.ntmps38
    go_wp2_with (go_at_call 23; (with_reducible refine (HR.out _).mono ?_); rintro e w1 ⟨rfl, hb_w1⟩; have hB_w1 : Below (w).heap.size (w) w1 := Below.trans (by (repeat (first | exact Below.refl _ _ | assumption | refine Below.setCell ?_ (by first | omega | (simp <;> omega)) _ | refine Below.alloc ?_ (by first | omega | (simp <;> omega)) _ | refine Below.drew ?_ | refine below_drewN' ?_ _))) (hb_w1.mono (by first | omega | (simp <;> omega))); obtain ⟨hc_w1, hf_w1⟩ := bcell hb_w1; have hz_w1 := hb_w1.size; (try simp only [size_drew', size_drewN', World.size_alloc, World.size_setCell] at hz_w1); have hl0_w1 : w.heap.size < w1.heap.size := (by omega); have hm0_w1 : w.heap.size ≤ w1.heap.size := (by omega); have hn0_w1 : ¬ w.heap.size = w1.heap.size := (by omega); have hq0_w1 : ¬ w1.heap.size = w.heap.size := (by omega); have hr0_w1 := fun o => hc_w1 (w.heap.size) o (by (try simp only [size_drew', size_drewN', World.size_alloc, World.size_setCell]); omega); have hg0_w1 := fun o => hf_w1 (w.heap.size) o (by (try simp only [size_drew', size_drewN', World.size_alloc, World.size_setCell]); omega))
    go_ret
    exact RetB.of rfl hB_w1
end Go.Proofs.YtcbepojookbceaaDoor
