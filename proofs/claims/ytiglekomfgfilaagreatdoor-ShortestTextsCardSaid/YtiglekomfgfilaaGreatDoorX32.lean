import Derived.Test.YtiglekomfgfilaaGreatDoorX14
import Derived.Test.YtiglekomfgfilaaGreatDoorX31
import Derived.Test.YtiglekomfgfilaaGreatDoorX30
import Derived.Test.YtiglekomfgfilaaGreatDoorX27
import Derived.Test.YtiglekomfgfilaaGreatDoorX28
import Derived.Test.YtiglekomfgfilaaGreatDoorX1
import Derived.JoinedOf
namespace Go.Proofs.YtiglekomfgfilaaGreatDoor
set_option maxRecDepth 100000
set_option maxHeartbeats 2000000
set_option linter.all false
open Go.RowKit
attribute [local go_sem] Dc.Res.val
theorem box3' {w w1 : World} {a b c : Value} {t : TypeId} {B : Nat} (hb : Below B (w.alloc (.cells #[a, b, c] t)) w1) (hB : w.heap.size < B) :
    w1.cell? ⟨w.heap.size, 0, none⟩ = some a ∧ w1.cell? ⟨w.heap.size, 1, none⟩ = some b ∧ w1.cell? ⟨w.heap.size, 2, none⟩ = some c := by
  refine ⟨?_, ?_, ?_⟩ <;> (rw [hb.cell (p := ⟨w.heap.size, _, none⟩) hB]; simp [go_sem])
theorem digAt_getD (s : ByteArray) (k : Nat) : digAt s k = s.data.toList.getD k 48 := by
  by_cases h : k < s.size
  · rw [← digAt_in s k k h rfl, List.getD_eq_getElem?_getD, Dc.get?_bytes s k h]; rfl
  · rw [digAt_out s k (by omega), List.getD_eq_getElem?_getD, List.getElem?_eq_none (by rw [bs_length]; omega)]; rfl
theorem one_byte (W : World) (c : UInt8) : (convert 110 9 (.slice (some ⟨W.heap.size, 0, none⟩) 1 1)).run Tryz.prog (W.alloc (.cells #[.int .u8 (c.toNat : Int)] 5)) = .ok (.string ⟨#[c]⟩) (W.alloc (.cells #[.int .u8 (c.toNat : Int)] 5)) := by
  refine run_convert_bytes_back _ _ _ 5 ⟨W.heap.size, 0, none⟩ 1 [c] Tryz.underlying110 Tryz.underlying5 Tryz.underlying9 ?_
  intro j hj
  obtain rfl : j = 0 := by simp at hj; omega
  have ha : (⟨W.heap.size, 0, none⟩ : Addr).add 0 = ⟨W.heap.size, 0, none⟩ := by unfold Addr.add; simp
  rw [ha]; simp [go_sem]
theorem r7_print_body (n : Bool) (s V : ByteArray) (x : Int) (w : World) (hs : s.size ≤ 1100) (hx : -100000 ≤ x ∧ x ≤ 100000) (hV : V = if n then ⟨#[45]⟩ else ⟨#[]⟩) (hr : Dc.right s.data.toList x = true) :
    Calls Tryz.prog 43 #[.agg #[.bool n, .string s, .int .i64 x]] w (RetB (.string ⟨(Dc.body V.data.toList s.data.toList ((s.size : Int) + x)).toArray⟩) w) := by
  have hright := fun w => r7_right_any n s x w (by omega)
  rw [hr] at hright
  have hpt := fun w => r7_point_any n s x w (by omega)
  have hpe : Dc.point s.data.toList x = (s.size : Int) + x := by rw [Dc.point_eq, if_pos hr]
  rw [hpe] at hpt
  obtain ⟨p, hp⟩ : ∃ p, p = (s.size : Int) + x := ⟨_, rfl⟩
  obtain ⟨r, hrr⟩ : ∃ r : ByteArray, r = ⟨(Dc.body V.data.toList s.data.toList p).toArray⟩ := ⟨_, rfl⟩
  have hpb : -100000 ≤ p ∧ p ≤ 110000 := by omega
  rw [← hp, ← hrr]
  rw [← hp] at hpt
  obtain ⟨hp1, hp2⟩ := hpb
  have hVs : V.size ≤ 1 := by rw [hV]; cases n <;> decide
  have hb0 : Below w.heap.size w (w.alloc (.cells #[.bool n, .string s, .int .i64 x] 27)) := (Below.refl _ _).alloc (Nat.le_refl _) _
  have HPE := Lib.hid hp
  have HB0 := Lib.hid hb0; have HRT := Lib.hid hright; have HPT := Lib.hid hpt; have HRR := Lib.hid hrr; have HVV := Lib.hid hV
  clear hb0 hright hpt hrr hV hr hp hpe hx
  go_enter Tryz.func43, Tryz.ntmps43
  go_upto_if 14 with (go_at_call 59; (with_reducible refine (HRT.out _).mono ?_); rintro e w1 ⟨rfl, hb_w1⟩; have hB_w1 : Below (w.alloc (.cells #[.bool n, .string s, .int .i64 x] 27)).heap.size (w.alloc (.cells #[.bool n, .string s, .int .i64 x] 27)) w1 := Below.trans (by (repeat (first | exact Below.refl _ _ | assumption | refine Below.setCell ?_ (by first | omega | (simp <;> omega)) _ | refine Below.alloc ?_ (by first | omega | (simp <;> omega)) _ | refine Below.drew ?_ | refine below_drewN' ?_ _))) (hb_w1.mono (by first | omega | (simp <;> omega))); obtain ⟨hc_w1, hf_w1⟩ := bcell hb_w1; have hz_w1 := hb_w1.size; (try simp only [zD, zN, zA, zS] at hz_w1); have hk := own6 hb_w1 (w.heap.size) (by (try simp only [zD, zN, zA, zS]); omega); obtain ⟨hl0_w1, hm0_w1, hn0_w1, hq0_w1, hr0_w1, hg0_w1⟩ := hk)
  go_cut [4] (fun a wr => a = .string V ∧ wr = w1)
  case first =>
    have hvv := HVV.out
    cases n
    · have e : V = ⟨#[]⟩ := hvv
      subst e
      go_wp2; go_meet; exact ⟨rfl, rfl⟩
    · have e : V = ⟨#[45]⟩ := hvv
      subst e
      go_wp2; go_meet; exact ⟨rfl, rfl⟩
  case rest =>
    obtain ⟨rfl, hwc⟩ := hcut
    subst hwc
    obtain ⟨k0, k1, k2⟩ := box3' hB_w1 (by simp)
    go_upto_if 20 with (go_at_call 46; (with_reducible refine (HPT.out _).mono ?_); rintro e w2 ⟨rfl, hb_w2⟩; have hB_w2 : Below (w.alloc (.cells #[.bool n, .string s, .int .i64 x] 27)).heap.size (w.alloc (.cells #[.bool n, .string s, .int .i64 x] 27)) w2 := Below.trans (by (repeat (first | exact Below.refl _ _ | assumption | refine Below.setCell ?_ (by first | omega | (simp <;> omega)) _ | refine Below.alloc ?_ (by first | omega | (simp <;> omega)) _ | refine Below.drew ?_ | refine below_drewN' ?_ _))) (hb_w2.mono (by first | omega | (simp <;> omega))); obtain ⟨hc_w2, hf_w2⟩ := bcell hb_w2; have hz_w2 := hb_w2.size; (try simp only [zD, zN, zA, zS] at hz_w2); have hk := own6 hb_w2 (w.heap.size) (by (try simp only [zD, zN, zA, zS]); omega); obtain ⟨hl0_w2, hm0_w2, hn0_w2, hq0_w2, hr0_w2, hg0_w2⟩ := hk)
    have k3 := box3' hB_w2 (by simp)
    obtain ⟨m0, m1, m2⟩ := k3
    clear k0 k1 k2
    have hBw := HB0.out.trans (hB_w2.mono (by simp))
    by_cases c0 : s.size = 0
    · have e0 : ((s.size : Int) == 0) = true := beq_iff_eq.2 (by omega)
      have hf : V ++ ⟨#[48]⟩ = r := by
        rw [HRR.out]; refine Dc.ba_eq _ _ ?_
        rw [Dc.ba_app, Dc.body, if_pos (List.length_eq_zero_iff.1 (by simpa using c0))]
      have HF := Lib.hid hf; have HC0 := Lib.hid c0; clear c0 hf
      replace c0 : s.size ≤ 0 := by have := HC0.out; omega
      go_wp2
      go_ret
      exact RetB.of (congrArg Value.string HF.out) hBw
    · have e0 : ((s.size : Int) == 0) = false := beq_eq_false_iff_ne.2 (by omega)
      have hne : s.data.toList ≠ [] := fun e => c0 (by have := congrArg List.length e; rwa [bs_length] at this)
      have hl : s.data.toList.length = s.size := bs_length s
      have hbody := HRR.out
      rw [Dc.body, if_neg hne, hl] at hbody
      have HBD := Lib.hid hbody; have HL := Lib.hid hl; clear hbody hne hl
      have hc0 : 0 < s.size := by omega
      clear c0
      by_cases c1 : 1 ≤ p ∧ p ≤ 21
      · obtain ⟨c1, c2⟩ := c1
        obtain ⟨P, hP⟩ : ∃ P : Nat, p = P := ⟨p.toNat, by omega⟩
        have hfin : ∀ (i : Nat), i = max P s.size → pre V.data.toList s.data.toList P i = Dc.body V.data.toList s.data.toList p := fun i hi => by
          rw [hP]; exact pre_body _ _ P (fun e => by have := congrArg List.length e; rw [bs_length, List.length_nil] at this; omega) (by omega) (by omega) i (by rw [bs_length]; exact hi)
        have HFN := Lib.hid hfin; clear hfin
        have hcv := fun (W : World) (c : UInt8) => one_byte W c
        subst hP
        have hat : ∀ (k : Nat) (W : World), k ≤ 10000 → Calls Tryz.prog 76 #[.agg #[.bool n, .string s, .int .i64 x], .int .i64 ((P : Int) - 1 - k)] W (RetB (.int .u8 ((s.data.toList.getD k 48).toNat)) W) := fun k W hk => by
          rw [← digAt_getD]; exact r7_at_any n s x _ k W (by omega) (by have := HPE.out; omega) (by omega) (by have := HPE.out; omega)
        have HAT := Lib.hid hat; clear hat
        go_wp2_with fail
        go_loopw [4, 7] (fun a i wr => ∃ k : Nat, k ≤ max P s.size ∧ i = .int .i64 k ∧ a = .string ⟨(pre V.data.toList s.data.toList P k).toArray⟩ ∧ Below (w.heap.size + 1) (w.alloc (.cells #[.bool n, .string s, .int .i64 x] 27)) wr) (fun _ i _ => max P s.size - (intOf i).toNat)
        case atStart => exact ⟨0, Nat.zero_le _, rfl, by rw [pre_zero], hB_w2.mono (by simp)⟩
        case round =>
          obtain ⟨k, hk, rfl, rfl, hbw⟩ := hrel
          obtain ⟨A, hA⟩ : ∃ A : ByteArray, A = ⟨(pre V.data.toList s.data.toList P k).toArray⟩ := ⟨_, rfl⟩
          have hAs : A.size ≤ 10000 := by rw [hA, size_mk]; have := pre_len V.data.toList s.data.toList P k; rw [bs_length] at this; omega
          rw [← hA]
          obtain ⟨q0, q1, q2⟩ := box3' hbw (by omega)
          have hbz := hbw.size
          simp only [World.size_alloc] at hbz
          have HBW := Lib.hid hbw; have HA := Lib.hid hA; clear hbw hA
          by_cases hlt : k < max P s.size
          · obtain ⟨c, hc⟩ : ∃ c, c = s.data.toList.getD k 48 := ⟨_, rfl⟩
            have h1 := fun W => HAT.out k W (by omega)
            rw [← hc] at h1
            have hs := pre_succ V.data.toList s.data.toList P k
            rw [← hc] at hs
            have H1 := Lib.hid h1; have HS := Lib.hid hs; clear h1 hs hc
            have s1 : ¬ 9223372036854775807 < A.size + 1 := by omega
            have s2 : ¬ 9223372036854775807 < A.size + 1 + 1 := by omega
            by_cases hkp : k < P
            · have e1 : ((k : Int) == P) = false := beq_eq_false_iff_ne.2 (by omega)
              go_wp2_with (go_at_call 76; (with_reducible refine (H1.out _).mono ?_); rintro e w5 ⟨rfl, hb_w5⟩; have hB_w5 : Below (wr).heap.size (wr) w5 := Below.trans (by (repeat (first | exact Below.refl _ _ | assumption | refine Below.setCell ?_ (by first | omega | (simp <;> omega)) _ | refine Below.alloc ?_ (by first | omega | (simp <;> omega)) _ | refine Below.drew ?_ | refine below_drewN' ?_ _))) (hb_w5.mono (by first | omega | (simp <;> omega))); obtain ⟨hc_w5, hf_w5⟩ := bcell hb_w5; have hz_w5 := hb_w5.size; (try simp only [zD, zN, zA, zS] at hz_w5))
              go_roundw
              case rel => exact ⟨k + 1, by omega, by go_num, by rw [HS.out, if_neg (by omega)]; congr 1; exact Dc.ba_eq _ _ (by rw [Dc.ba_app, HA.out]; rfl), HBW.out.trans ((hB_w5.mono (by omega)).alloc (by omega) _)⟩
              case measure => simp [intOf]; omega
            · by_cases hkq : k = P
              · have e1 : ((k : Int) == P) = true := beq_iff_eq.2 (by omega)
                have HKQ := Lib.hid hkq; clear hkq
                go_wp2_with (go_at_call 76; (with_reducible refine (H1.out _).mono ?_); rintro e w6 ⟨rfl, hb_w6⟩; have hB_w6 : Below (wr).heap.size (wr) w6 := Below.trans (by (repeat (first | exact Below.refl _ _ | assumption | refine Below.setCell ?_ (by first | omega | (simp <;> omega)) _ | refine Below.alloc ?_ (by first | omega | (simp <;> omega)) _ | refine Below.drew ?_ | refine below_drewN' ?_ _))) (hb_w6.mono (by first | omega | (simp <;> omega))); obtain ⟨hc_w6, hf_w6⟩ := bcell hb_w6; have hz_w6 := hb_w6.size; (try simp only [zD, zN, zA, zS] at hz_w6))
                go_roundw
                case rel => exact ⟨k + 1, by omega, by go_num, by rw [HS.out, if_pos HKQ.out]; congr 1; exact Dc.ba_eq _ _ (by rw [Dc.ba_app, Dc.ba_app, HA.out]; simp), HBW.out.trans ((hB_w6.mono (by omega)).alloc (by omega) _)⟩
                case measure => simp [intOf]; omega
              · have e1 : ((k : Int) == P) = false := beq_eq_false_iff_ne.2 (by omega)
                go_wp2_with (go_at_call 76; (with_reducible refine (H1.out _).mono ?_); rintro e w7 ⟨rfl, hb_w7⟩; have hB_w7 : Below (wr).heap.size (wr) w7 := Below.trans (by (repeat (first | exact Below.refl _ _ | assumption | refine Below.setCell ?_ (by first | omega | (simp <;> omega)) _ | refine Below.alloc ?_ (by first | omega | (simp <;> omega)) _ | refine Below.drew ?_ | refine below_drewN' ?_ _))) (hb_w7.mono (by first | omega | (simp <;> omega))); obtain ⟨hc_w7, hf_w7⟩ := bcell hb_w7; have hz_w7 := hb_w7.size; (try simp only [zD, zN, zA, zS] at hz_w7))
                go_roundw
                case rel => exact ⟨k + 1, by omega, by go_num, by rw [HS.out, if_neg (by omega)]; congr 1; exact Dc.ba_eq _ _ (by rw [Dc.ba_app, HA.out]; rfl), HBW.out.trans ((hB_w7.mono (by omega)).alloc (by omega) _)⟩
                case measure => simp [intOf]; omega
          · go_wp2
            go_ret
            exact RetB.of (congrArg Value.string (by rw [HA.out, HFN.out k (by omega)]; exact HRR.out.symm)) (HB0.out.trans (HBW.out.mono (by omega)))
      · by_cases c2 : -5 ≤ p ∧ p ≤ 0
        · obtain ⟨c3, c4⟩ := c2
          have hf : ∀ k : Nat, (k : Int) = -p → V.data.toList ++ [48, 46] ++ Lib.repeatL [48] k ++ s.data.toList = r.data.toList := fun k hk => by
            rw [HBD.out, if_neg (fun h => c1 ⟨h.1, h.2.1⟩), if_neg c1, if_pos ⟨c3, c4⟩, show (-p).toNat = k by omega]
          have HF := Lib.hid hf; clear hf c1
          have hwr : IntKind.i64.wrap (-p) = -p := IntWalk.i64_in _ (by omega)
          have s0 : ¬ 9223372036854775807 < V.size + 2 := by omega
          go_wp2_with fail
          go_loop [4, 8] (fun a i => ∃ k : Nat, (k : Int) ≤ -p ∧ i = .int .i64 k ∧ a = .string ⟨(V.data.toList ++ [48, 46] ++ Lib.repeatL [48] k).toArray⟩) (fun _ i => (-p - intOf i).toNat)
          case atStart => exact ⟨0, by omega, rfl, by congr 1; exact Dc.ba_eq _ _ (by rw [Dc.ba_app]; simp [Lib.repeatL])⟩
          case round =>
            obtain ⟨k, hk, rfl, rfl⟩ := hrel
            obtain ⟨A, hA⟩ : ∃ A : ByteArray, A = ⟨(V.data.toList ++ [48, 46] ++ Lib.repeatL [48] k).toArray⟩ := ⟨_, rfl⟩
            have hAs : A.size ≤ 100 := by rw [hA, size_mk, List.length_append, List.length_append, Lib.repeatL_length, bs_length]; simp; omega
            rw [← hA]
            have HA := Lib.hid hA; clear hA
            have s1 : ¬ 9223372036854775807 < A.size + 1 := by omega
            have s2 : ¬ 9223372036854775807 < A.size + s.size := by omega
            by_cases hlt : (k : Int) < -p
            · go_wp2
              go_round
              case rel => exact ⟨k + 1, by omega, by go_num, by congr 1; exact Dc.ba_eq _ _ (by rw [Dc.ba_app, HA.out, show k + 1 = k + 1 from rfl, Lib.repeatL_add, Lib.repeatL_one]; simp)⟩
              case measure => simp [intOf]; omega
            · go_wp2
              go_ret
              exact RetB.of (congrArg Value.string (Dc.ba_eq _ _ (by rw [Dc.ba_app, HA.out]; exact HF.out k (by omega)))) hBw
        · have hbody := HBD.out
          rw [if_neg (fun h => c1 ⟨h.1, h.2.1⟩), if_neg c1, if_neg c2] at hbody
          have HBX := Lib.hid hbody
          have hgo : p < -5 ∨ 21 < p := by omega
          have HGO := Lib.hid hgo; clear hbody c1 c2 hgo
          obtain ⟨K, hKe⟩ : ∃ K, K = s.extract 0 1 := ⟨_, rfl⟩
          obtain ⟨R, hRe⟩ : ∃ R, R = s.extract 1 s.size := ⟨_, rfl⟩
          have hKs : K.size ≤ 1100 := by rw [hKe, ByteArray.size_extract]; omega
          have hRs : R.size ≤ 1100 := by rw [hRe, ByteArray.size_extract]; omega
          have hsl : ∀ w : World, (Instr.slice 9 (.string s) none (some (.int .i64 1)) none).run Tryz.prog w = .ok (.string K) w := fun w => by
            rw [hKe, run_slice_string_to_if w _ s .i64 1 Tryz.underlying9, if_pos (by omega)]; rfl
          have hsr : ∀ w : World, (Instr.slice 9 (.string s) (some (.int .i64 1)) none none).run Tryz.prog w = .ok (.string R) w := fun w => by
            rw [hRe, run_slice_string_from_if w _ s .i64 1 Tryz.underlying9, if_pos (by omega)]; rfl
          have hK : K.data.toList = s.data.toList.take 1 := by rw [hKe, Lib.extract_data, List.drop_zero]
          have hR : R.data.toList = s.data.toList.drop 1 := by rw [hRe]; exact Lib.extract_to_end s 1
          obtain ⟨U, hU⟩ : ∃ U : ByteArray, U = if 1 < s.size then V ++ K ++ ⟨#[46]⟩ ++ R else V ++ K := ⟨_, rfl⟩
          have hUs : U.size ≤ 3000 := by
            have h46 : (⟨#[46]⟩ : ByteArray).size = 1 := rfl
            rw [hU]; split <;> simp only [ByteArray.size_append, h46] <;> omega
          have hUl : U.data.toList = if 1 < s.size then V.data.toList ++ s.data.toList.take 1 ++ [46] ++ s.data.toList.drop 1 else V.data.toList ++ s.data.toList.take 1 := by
            rw [hU]
            split
            · rw [Dc.ba_app, Dc.ba_app, Dc.ba_app, hK, hR]
            · rw [Dc.ba_app, hK]
          have HUU := Lib.hid hU; have HUL := Lib.hid hUl
          clear hU hUl hKe hRe hK hR
          have s1 : ¬ 9223372036854775807 < V.size + K.size := by omega
          have s2 : ¬ 9223372036854775807 < V.size + K.size + 1 := by omega
          have s3 : ¬ 9223372036854775807 < V.size + K.size + 1 + R.size := by omega
          have s4 : ¬ 9223372036854775807 < U.size + 2 := by omega
          have n1 : ¬ (1 ≤ p ∧ p ≤ 21) := by have := HGO.out; omega
          have n2 : ¬ (-5 ≤ p ∧ p ≤ 0) := by have := HGO.out; omega
          rcases HGO.out with hg | hg
          · obtain ⟨I, hI⟩ : ∃ I : ByteArray, I = ⟨(Lib.itoa (1 - p)).toArray⟩ := ⟨_, rfl⟩
            have hIs : I.size ≤ 30 := by rw [hI, size_mk]; exact Dc.itoa_len _ (by omega)
            have hit : ∀ w1, Calls Tryz.prog 77 #[.int .i64 (1 - p)] w1 (RetB (.string I) w1) := fun w1 => by
              have h := r7_number_any (1 - p).toNat w1 (by omega)
              rw [Int.toNat_of_nonneg (by omega), ← hI] at h; exact h
            have hf : U ++ ⟨#[101, 45]⟩ ++ I = r := by
              rw [HBX.out, if_pos (by omega)]; refine Dc.ba_eq _ _ ?_
              rw [Dc.ba_app, Dc.ba_app, hI, HUL.out]; simp [bs_length]
            have HF := Lib.hid hf; have HI := Lib.hid hit; clear hf hit hI n1 n2
            have s5 : ¬ 9223372036854775807 < U.size + 2 + I.size := by omega
            go_upto_if 85 with (fail)
            go_cut [4] (fun a wr => a = .string U ∧ wr = w2)
            case first =>
              by_cases c9 : 1 < s.size
              · have hu := HUU.out; rw [if_pos c9] at hu
                have HU2 := Lib.hid hu; clear hu
                go_wp2; go_meet
                exact ⟨by rw [HU2.out], rfl⟩
              · have hu := HUU.out; rw [if_neg c9] at hu
                have HU2 := Lib.hid hu; clear hu
                go_wp2; go_meet
                exact ⟨by rw [HU2.out], rfl⟩
            case rest =>
              obtain ⟨rfl, hwc⟩ := hcut
              subst hwc
              go_wp2_with (go_at_call 77; (with_reducible refine (HI.out _).mono ?_); rintro e w5 ⟨rfl, hb_w5⟩; have hB_w5 : Below (w).heap.size (w) w5 := Below.trans (by (repeat (first | exact Below.refl _ _ | assumption | refine Below.setCell ?_ (by first | omega | (simp <;> omega)) _ | refine Below.alloc ?_ (by first | omega | (simp <;> omega)) _ | refine Below.drew ?_ | refine below_drewN' ?_ _))) (hb_w5.mono (by first | omega | (simp <;> omega))); obtain ⟨hc_w5, hf_w5⟩ := bcell hb_w5; have hz_w5 := hb_w5.size; (try simp only [zD, zN, zA, zS] at hz_w5); have hk := own6 hb_w5 (w.heap.size) (by (try simp only [zD, zN, zA, zS]); omega); obtain ⟨hl0_w5, hm0_w5, hn0_w5, hq0_w5, hr0_w5, hg0_w5⟩ := hk)
              go_ret
              exact RetB.of (congrArg Value.string HF.out) hB_w5
          · obtain ⟨I, hI⟩ : ∃ I : ByteArray, I = ⟨(Lib.itoa (p - 1)).toArray⟩ := ⟨_, rfl⟩
            have hIs : I.size ≤ 30 := by rw [hI, size_mk]; exact Dc.itoa_len _ (by omega)
            have hit : ∀ w1, Calls Tryz.prog 77 #[.int .i64 (p - 1)] w1 (RetB (.string I) w1) := fun w1 => by
              have h := r7_number_any (p - 1).toNat w1 (by omega)
              rw [Int.toNat_of_nonneg (by omega), ← hI] at h; exact h
            have hf : U ++ ⟨#[101, 43]⟩ ++ I = r := by
              rw [HBX.out, if_neg (by omega)]; refine Dc.ba_eq _ _ ?_
              rw [Dc.ba_app, Dc.ba_app, hI, HUL.out]; simp [bs_length]
            have HF := Lib.hid hf; have HI := Lib.hid hit; clear hf hit hI n1 n2
            have s5 : ¬ 9223372036854775807 < U.size + 2 + I.size := by omega
            go_upto_if 85 with (fail)
            go_cut [4] (fun a wr => a = .string U ∧ wr = w2)
            case first =>
              by_cases c9 : 1 < s.size
              · have hu := HUU.out; rw [if_pos c9] at hu
                have HU2 := Lib.hid hu; clear hu
                go_wp2; go_meet
                exact ⟨by rw [HU2.out], rfl⟩
              · have hu := HUU.out; rw [if_neg c9] at hu
                have HU2 := Lib.hid hu; clear hu
                go_wp2; go_meet
                exact ⟨by rw [HU2.out], rfl⟩
            case rest =>
              obtain ⟨rfl, hwc⟩ := hcut
              subst hwc
              go_wp2_with (go_at_call 77; (with_reducible refine (HI.out _).mono ?_); rintro e w5 ⟨rfl, hb_w5⟩; have hB_w5 : Below (w).heap.size (w) w5 := Below.trans (by (repeat (first | exact Below.refl _ _ | assumption | refine Below.setCell ?_ (by first | omega | (simp <;> omega)) _ | refine Below.alloc ?_ (by first | omega | (simp <;> omega)) _ | refine Below.drew ?_ | refine below_drewN' ?_ _))) (hb_w5.mono (by first | omega | (simp <;> omega))); obtain ⟨hc_w5, hf_w5⟩ := bcell hb_w5; have hz_w5 := hb_w5.size; (try simp only [zD, zN, zA, zS] at hz_w5); have hk := own6 hb_w5 (w.heap.size) (by (try simp only [zD, zN, zA, zS]); omega); obtain ⟨hl0_w5, hm0_w5, hn0_w5, hq0_w5, hr0_w5, hg0_w5⟩ := hk)
              go_ret
              exact RetB.of (congrArg Value.string HF.out) hB_w5
theorem r7_print_any (n : Bool) (s : ByteArray) (x : Int) (w : World) (hs : s.size ≤ 1000000) (hx : -9223372036854775808 ≤ x ∧ x ≤ 9223372036854775807) :
    Calls Tryz.prog 43 #[.agg #[.bool n, .string s, .int .i64 x]] w (RetB (.string ⟨(Dc.print n s.data.toList x).toArray⟩) w) := by
  have hright := fun w => r7_right_any n s x w (by omega)
  cases hr : Dc.right s.data.toList x with
  | true =>
    have hl := Dc.right_len hr
    have hxx := Dc.right_exp hr
    rw [bs_length] at hl
    have := r7_print_body n s (if n then ⟨#[45]⟩ else ⟨#[]⟩) x w hl hxx rfl hr
    rw [Dc.print, if_pos hr, bs_length]
    cases n
    · exact this
    · exact this
  | false =>
    rw [hr] at hright
    rw [Dc.print, if_neg (by rw [hr]; simp)]
    have HR := Lib.hid hright; clear hright hr
    go_enter Tryz.func43, Tryz.ntmps43
    go_wp2_with (go_at_call 59; (with_reducible refine (HR.out _).mono ?_); rintro e w1 ⟨rfl, hb_w1⟩; have hB_w1 : Below (w).heap.size (w) w1 := Below.trans (by (repeat (first | exact Below.refl _ _ | assumption | refine Below.setCell ?_ (by first | omega | (simp <;> omega)) _ | refine Below.alloc ?_ (by first | omega | (simp <;> omega)) _ | refine Below.drew ?_ | refine below_drewN' ?_ _))) (hb_w1.mono (by first | omega | (simp <;> omega))); obtain ⟨hc_w1, hf_w1⟩ := bcell hb_w1; have hz_w1 := hb_w1.size; (try simp only [zD, zN, zA, zS] at hz_w1); have hk := own6 hb_w1 (w.heap.size) (by (try simp only [zD, zN, zA, zS]); omega); obtain ⟨hl0_w1, hm0_w1, hn0_w1, hq0_w1, hr0_w1, hg0_w1⟩ := hk)
    go_ret
    exact RetB.of rfl hB_w1
end Go.Proofs.YtiglekomfgfilaaGreatDoor

/- The reference of chapter 10: Print, Parse. -/
namespace Go.Proofs.YtiglekomfgfilaaGreatDoor
set_option maxRecDepth 100000
set_option maxHeartbeats 4000000
set_option linter.all false
open Go.RowKit
theorem lit_eq_true {s : ByteArray} {l : Dc.Bs} (h : s.data.toList = l) : (s.toList == l) = true := by
  rw [toList_data, h]; exact beq_self_eq_true _
theorem lit_eq_false {s : ByteArray} {l : Dc.Bs} (h : s.data.toList ≠ l) : (s.toList == l) = false := by
  rw [toList_data]; exact beq_eq_false_iff_ne.2 h
theorem r10_print_any (x : Nat) (W : World) (hx : x < 18446744073709551616) :
    Calls Tryz.prog 18 #[.int .u64 x] W (RetB (.string ⟨(Fl.wprint x).toArray⟩) W) := by
  have hK := fun w => r3_kind_any x hx w
  have hI := fun w => r3_is_any x w
  have hkl := Fl.kind_le x
  by_cases h4 : Fl.kind x = 4
  · have hv : Fl.wprint x = Fl.nanS := by rw [Fl.wprint, Fl.wname, if_pos h4]; rfl
    rw [h4] at hK
    rw [hv]
    have HK := Lib.hid hK
    clear hK hI hv h4 hkl
    go_enter Tryz.func18, Tryz.ntmps18
    go_wp2_with (first | (go_at_call 12; (with_reducible refine (HK.out _).mono ?_); rintro e w' ⟨rfl, rfl⟩))
    go_ret
    exact RetB.of rfl (Below.refl _ _)
  · by_cases h3 : Fl.kind x = 3
    · rcases Fl.inf_kind hx h3 with e | e
      · have hv : Fl.wprint x = Fl.infS := by rw [e]; decide +kernel
        have hn : Fl.neg x = false := by rw [e]; decide
        rw [hn] at hI
        rw [h3] at hK
        rw [hv]
        have HK := Lib.hid hK; have HI := Lib.hid hI
        clear hK hI hv hn h4 hkl h3 e
        go_enter Tryz.func18, Tryz.ntmps18
        go_wp2_with (first | (go_at_call 12; (with_reducible refine (HK.out _).mono ?_); rintro e w' ⟨rfl, rfl⟩) | (go_at_call 34; (with_reducible refine (HI.out _).mono ?_); rintro e w' ⟨rfl, rfl⟩))
        go_ret
        exact RetB.of rfl (Below.refl _ _)
      · have hv : Fl.wprint x = Fl.ninfS := by rw [e]; decide +kernel
        have hn : Fl.neg x = true := by rw [e]; decide
        rw [hn] at hI
        rw [h3] at hK
        rw [hv]
        have HK := Lib.hid hK; have HI := Lib.hid hI
        clear hK hI hv hn h4 hkl h3 e
        go_enter Tryz.func18, Tryz.ntmps18
        go_wp2_with (first | (go_at_call 12; (with_reducible refine (HK.out _).mono ?_); rintro e w' ⟨rfl, rfl⟩) | (go_at_call 34; (with_reducible refine (HI.out _).mono ?_); rintro e w' ⟨rfl, rfl⟩))
        go_ret
        exact RetB.of rfl (Below.refl _ _)
    · have hk : Fl.kind x < 3 := by omega
      obtain ⟨-, k2, k3, k4, -⟩ := Fl.wdec_fine x hk
      have hv : Fl.wprint x = Dc.print (Fl.wdec x).n (Fl.wdec x).l (Fl.wdec x).x := by rw [Fl.wprint, Fl.name_fin hk, if_neg (by simp)]
      have hD := fun w1 => r10_dec_any x w1 hx hk
      have hx2 := Dc.right_exp k3
      have hP := fun w1 => r7_print_any (Fl.wdec x).n ⟨(Fl.wdec x).l.toArray⟩ (Fl.wdec x).x w1 (by rw [← bs_length, bs_mk]; omega) (by omega)
      rw [bs_mk, ← hv] at hP
      unfold drv dag at hD
      obtain ⟨k, hkk⟩ : ∃ k, k = Fl.kind x := ⟨_, rfl⟩
      obtain ⟨n, hn⟩ : ∃ k, k = (Fl.wdec x).n := ⟨_, rfl⟩
      obtain ⟨S, hS⟩ : ∃ k : ByteArray, k = ⟨(Fl.wdec x).l.toArray⟩ := ⟨_, rfl⟩
      obtain ⟨X, hX⟩ : ∃ k, k = (Fl.wdec x).x := ⟨_, rfl⟩
      obtain ⟨P, hP2⟩ : ∃ k : ByteArray, k = ⟨(Fl.wprint x).toArray⟩ := ⟨_, rfl⟩
      rw [← hn, ← hS, ← hX] at hD hP
      rw [← hP2] at hP ⊢
      rw [← hkk] at hK hk
      have HK := Lib.hid hK; have HD := Lib.hid hD; have HP := Lib.hid hP
      clear hK hI hD hP hv h4 hkl h3 k2 k3 k4 hx2 hkk hn hS hX hP2
      go_enter Tryz.func18, Tryz.ntmps18
      go_wp2_with (first
        | (go_at_call 12; (with_reducible refine (HK.out _).mono ?_); rintro e w' ⟨rfl, rfl⟩)
        | (go_at_call 13; (with_reducible refine (HD.out _).mono ?_); rintro e w1 ⟨rfl, hb1⟩)
        | (go_at_call 43; (with_reducible refine (HP.out _).mono ?_); rintro e w2 ⟨rfl, hb2⟩))
      go_ret
      exact RetB.of rfl (hb1.trans (hb2.mono hb1.size))
theorem r10_parse_any (s : ByteArray) (W : World) (hs : s.size ≤ 1000000) :
    Calls Tryz.prog 16 #[.string s] W (RetB (.tuple #[.int .u64 ((Fl.wparse s.data.toList).1 : Nat), .int .i64 (Fl.wparse s.data.toList).2]) W) := by
  by_cases m1 : s.data.toList = Fl.nanS
  · have hv : Fl.wparse s.data.toList = (9221120237041090560, 0) := by rw [Fl.wparse, if_pos m1]
    rw [hv]
    have hb : (s.toList == [110, 97, 110]) = true := lit_eq_true m1
    clear hv m1
    go_enter Tryz.func16, Tryz.ntmps16
    go_wp2_with fail
    refine bodyPost_ret (v := .tuple #[.int .u64 9221120237041090560, .int .i64 0]) (by (simp [results, Tryz.results16, go_sem]; done)) rfl (RetB.of rfl (Below.refl _ _))
  · have b1 : (s.toList == [110, 97, 110]) = false := lit_eq_false (l := Fl.nanS) m1
    by_cases m2 : s.data.toList = Fl.infS
    · have hv : Fl.wparse s.data.toList = (9218868437227405312, 0) := by rw [Fl.wparse, if_neg m1, if_pos m2]
      rw [hv]
      have hb : (s.toList == [105, 110, 102]) = true := lit_eq_true m2
      clear hv m1 m2
      go_enter Tryz.func16, Tryz.ntmps16
      go_wp2_with fail
      refine bodyPost_ret (v := .tuple #[.int .u64 9218868437227405312, .int .i64 0]) (by (simp [results, Tryz.results16, go_sem]; done)) rfl (RetB.of rfl (Below.refl _ _))
    · have b2 : (s.toList == [105, 110, 102]) = false := lit_eq_false (l := Fl.infS) m2
      by_cases m3 : s.data.toList = Fl.ninfS
      · have hv : Fl.wparse s.data.toList = (18442240474082181120, 0) := by rw [Fl.wparse, if_neg m1, if_neg m2, if_pos m3]
        rw [hv]
        have hb : (s.toList == [45, 105, 110, 102]) = true := lit_eq_true m3
        clear hv m1 m2 m3
        go_enter Tryz.func16, Tryz.ntmps16
        go_wp2_with fail
        refine bodyPost_ret (v := .tuple #[.int .u64 18442240474082181120, .int .i64 0]) (by (simp [results, Tryz.results16, go_sem]; done)) rfl (RetB.of rfl (Below.refl _ _))
      · have b3 : (s.toList == [45, 105, 110, 102]) = false := lit_eq_false (l := Fl.ninfS) m3
        have hw : Fl.wparse s.data.toList = (if (Fl.readS s.data.toList).2 ≠ 0 then (0, (Fl.readS s.data.toList).2) else if Fl.wprint (Fl.readS s.data.toList).1 ≠ s.data.toList then (0, 3) else ((Fl.readS s.data.toList).1, 0)) := by
          rw [Fl.wparse, if_neg m1, if_neg m2, if_neg m3]
        have hlt := Fl.readS_lt s.data.toList
        have hP := fun w1 => r8_parse_any s w1 hs
        obtain ⟨R, hR⟩ : ∃ R, R = Fl.wparse s.data.toList := ⟨_, rfl⟩
        have hRe := hR
        rw [hw] at hRe
        rw [← hR]
        have hEr : (Fl.readS s.data.toList).2 = 0 ∨ (Fl.readS s.data.toList).2 = 2 ∨ (Fl.readS s.data.toList).2 = 3 := by
          unfold Fl.readS
          split
          · exact Or.inl rfl
          · rename_i hne
            rcases Dc.parse_fine s.data.toList with ⟨q, -⟩ | ⟨q, q1, q2⟩
            · exact absurd q hne
            · rw [q2]; exact Or.inr q1
        obtain ⟨Q, hQ⟩ : ∃ Q, Q = (Fl.readS s.data.toList).1 := ⟨_, rfl⟩
        obtain ⟨E, hE⟩ : ∃ Q, Q = (Fl.readS s.data.toList).2 := ⟨_, rfl⟩
        rw [← hQ, ← hE] at hRe hP
        rw [← hQ] at hlt
        rw [← hE] at hEr
        have PR := fun w1 => r10_print_any Q w1 hlt
        have HP := Lib.hid hP
        have hex : (E ≠ 0 ∧ R = (0, E)) ∨ (E = 0 ∧ Fl.wprint Q ≠ s.data.toList ∧ R = (0, 3)) ∨ (E = 0 ∧ Fl.wprint Q = s.data.toList ∧ R = (Q, 0)) := by
          by_cases c : E ≠ 0
          · rw [if_pos c] at hRe; exact Or.inl ⟨c, hRe⟩
          · rw [if_neg c] at hRe
            have c0 : E = 0 := Decidable.not_not.1 c
            by_cases c2 : Fl.wprint Q ≠ s.data.toList
            · rw [if_pos c2] at hRe; exact Or.inr (Or.inl ⟨c0, c2, hRe⟩)
            · rw [if_neg c2] at hRe; exact Or.inr (Or.inr ⟨c0, Decidable.not_not.1 c2, hRe⟩)
        clear hRe hR hw hP hQ hE m1 m2 m3
        rcases hex with ⟨c, rfl⟩ | ⟨rfl, c, rfl⟩ | ⟨rfl, c, rfl⟩
        · have hE2 : E = 2 ∨ E = 3 := by omega
          clear c hEr PR
          rcases hE2 with rfl | rfl
          all_goals (
            go_enter Tryz.func16, Tryz.ntmps16
            go_wp2_with (first | (go_at_call 41; (with_reducible refine (HP.out _).mono ?_); rintro e w1 ⟨rfl, hb1⟩))
            refine bodyPost_ret (v := .tuple #[.int .u64 0, .int .i64 _]) (by (simp [results, Tryz.results16, go_sem]; done)) rfl (RetB.of rfl hb1))
        · obtain ⟨P, hP⟩ : ∃ P : ByteArray, P = ⟨(Fl.wprint Q).toArray⟩ := ⟨_, rfl⟩
          have hb : (P.toList == s.toList) = false := by
            rw [hP, toList_data, toList_data, bs_mk]; exact beq_eq_false_iff_ne.2 c
          rw [← hP] at PR
          have HPR := Lib.hid PR
          clear PR hP c hEr
          go_enter Tryz.func16, Tryz.ntmps16
          go_wp2_with (first
            | (go_at_call 41; (with_reducible refine (HP.out _).mono ?_); rintro e w1 ⟨rfl, hb1⟩)
            | (go_at_call 18; (with_reducible refine (HPR.out _).mono ?_); rintro e w2 ⟨rfl, hb2⟩))
          refine bodyPost_ret (v := .tuple #[.int .u64 0, .int .i64 3]) (by (simp [results, Tryz.results16, go_sem]; done)) rfl (RetB.of rfl (hb1.trans (hb2.mono hb1.size)))
        · obtain ⟨P, hP⟩ : ∃ P : ByteArray, P = ⟨(Fl.wprint Q).toArray⟩ := ⟨_, rfl⟩
          have hb : (P.toList == s.toList) = true := by
            rw [hP, toList_data, toList_data, bs_mk, c]; exact beq_self_eq_true _
          rw [← hP] at PR
          have HPR := Lib.hid PR
          clear PR hP c hEr
          go_enter Tryz.func16, Tryz.ntmps16
          go_wp2_with (first
            | (go_at_call 41; (with_reducible refine (HP.out _).mono ?_); rintro e w1 ⟨rfl, hb1⟩)
            | (go_at_call 18; (with_reducible refine (HPR.out _).mono ?_); rintro e w2 ⟨rfl, hb2⟩))
          refine bodyPost_ret (v := .tuple #[.int .u64 (Q : Nat), .int .i64 0]) (by (simp [results, Tryz.results16, go_sem]; done)) rfl (RetB.of rfl (hb1.trans (hb2.mono hb1.size)))
end Go.Proofs.YtiglekomfgfilaaGreatDoor

/- Chapter 10's laws: a number is written, a text is read or refused, as the document says; the decimals. -/
namespace Go.Proofs.YtiglekomfgfilaaGreatDoor
set_option maxRecDepth 100000
set_option maxHeartbeats 4000000
set_option linter.all false
open Go.RowKit
attribute [local go_sem] dc_guard
theorem l10_texts_any (x : Nat) (s : ByteArray) (w : World) (hx : x < 18446744073709551616) (hs : s.size ≤ 9223372036854775807) (ht : Tab w) : Calls Tryz.prog 4 #[.int .u64 x, .string s] w (RetB (.bool true) w) := by
  have HS := Lib.hid (l10_shown_any w ht)
  by_cases hl : 1200 < s.size
  · clear ht
    go_enter Tryz.func4, Tryz.ntmps4
    go_wp2_with (first | (go_at_call 8; (with_reducible refine (HS.out).mono ?_); rintro e w1 ⟨rfl, hb1⟩))
    go_ret
    exact RetB.of rfl hb1
  · have HP := Lib.hid (fun v b w1 (h : St10 w v b w1) => sh_parse_any v b s w1 h.tb (by omega) h.wt)
    have HQ := Lib.hid (fun w1 => r10_parse_any s w1 (by omega))
    have hp := fun v b w1 (h : St10 w v b w1) => sh_print_any v b x w1 h.tb hx h.wt
    have hq := fun w1 => r10_print_any x w1 hx
    obtain ⟨P, hP⟩ : ∃ q : ByteArray, q = ⟨(Fl.wprint x).toArray⟩ := ⟨_, rfl⟩
    rw [← hP] at hp hq
    have HPR := Lib.hid hp; have HQR := Lib.hid hq
    have HN := Lib.hid (fun w1 => sh_new_any w1)
    have HT := Lib.hid ht
    obtain ⟨Y, hY⟩ : ∃ Y, Y = (Fl.wparse s.data.toList).1 := ⟨_, rfl⟩
    obtain ⟨F, hF⟩ : ∃ Y, Y = (Fl.wparse s.data.toList).2 := ⟨_, rfl⟩
    rw [← hY, ← hF] at HP HQ
    clear hp hq hP ht hY hF
    go_enter Tryz.func4, Tryz.ntmps4
    go_wp2_with (first
      | (go_at_call 8; (with_reducible refine (HS.out).mono ?_); rintro e w1 ⟨rfl, hb1⟩)
      | (go_at_call 9; (with_reducible refine (HN.out _).mono ?_); rintro e w2 ⟨v, b, rfl, gv, gb, wt2, hb2⟩; have hB2 := hb1.trans (hb2.mono hb1.size); have S2 : St10 w v b w2 := ⟨⟨w, HT.out, Nat.le_trans hb1.size gb, hB2⟩, wt2, hB2, Nat.le_trans hb1.size gb⟩)
      | (go_at_call 15; (with_reducible refine (HP.out _ _ _ S2).mono ?_); rintro e w3 ⟨rfl, ho3, rd3⟩; have S3 := S2.onl ho3 rd3)
      | (go_at_call 16; (with_reducible refine (HQ.out _).mono ?_); rintro e w4 ⟨rfl, hb4⟩; have S4 := S3.on hb4)
      | (go_at_call 17; (with_reducible refine (HPR.out _ _ _ S4).mono ?_); rintro e w5 ⟨rfl, ho5, rd5⟩; have S5 := S4.onl ho5 rd5)
      | (go_at_call 18; (with_reducible refine (HQR.out _).mono ?_); rintro e w6 ⟨rfl, hb6⟩; have S6 := S5.on hb6))
    go_ret
    exact RetB.of (by simp) S6.be
end Go.Proofs.YtiglekomfgfilaaGreatDoor

/- What all cards of this seat ask of the program as a whole: each a fact of its own (together they outgrow the memory's lid). -/
namespace Go.Proofs.YtiglekomfgfilaaGreatDoor
set_option linter.all false
open Go.ChangeShapes Go.WideShapes Go.ChangeAt Go.RowKit Go.WideMaps Go.WideElems
theorem and_mk {a b : Bool} (ha : a = true) (hb : b = true) : (a && b) = true := by rw [ha, hb]; rfl
theorem cf_laid : laidOutB Tryz.pinned.checked.prog = true := laidOut
theorem cf_maps : mapsRowed Tryz.pinned.checked.prog = true := by kernel_rfl
theorem cf_stops : (Tryz.pinned.checked.prog.stops == []) = true := by kernel_rfl
theorem cf_knobs : (Tryz.pinned.checked.prog.stopKnobs == []) = true := by kernel_rfl
theorem cf_plain : (true == Tryz.pinned.checked.prog.plainKeys) = true := by kernel_rfl
theorem cf_heard : Tryz.pinned.checked.prog.stopsHeard = true := by kernel_rfl
theorem cf_enter : Tryz.pinned.checked.prog.mayEnter = true := by kernel_rfl
theorem cf_lifted : (Rows.shortestDecsRow.lifted == Tryz.pinned.checked.prog.liftsFinal) = true := by kernel_rfl
theorem cf_make : (Tryz.pinned.checked.prog.make == some Rows.shortestDecsRow.make) = true := by kernel_rfl
end Go.Proofs.YtiglekomfgfilaaGreatDoor
