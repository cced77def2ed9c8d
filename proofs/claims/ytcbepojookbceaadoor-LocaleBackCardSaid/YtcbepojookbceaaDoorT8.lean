import Derived.Test.YtcbepojookbceaaDoorT6
import Derived.Test.YtcbepojookbceaaDoorDec5
import Derived.Deep.DeepCutAuto
import Derived.Lib.AppendIntMem
namespace Go.Proofs.YtcbepojookbceaaDoor
set_option linter.all false
open Go.RowKit
attribute [local go_sem] Dc.Res.val

/-- The table of powers of ten lies as it is laid, and goes on to. -/
def Tab (w : World) : Prop := Lib.TabBelow Tryd.prog w.heap.size w "internal/strconv.uint64pow10" .u64 Lib.pow10Tab
theorem Tab.on {w w1 : World} (h : Tab w) (hb : Below w.heap.size w w1) : Lib.TabIs Tryd.prog w1 "internal/strconv.uint64pow10" .u64 Lib.pow10Tab := h w1 hb
theorem Tab.below {w w1 : World} (h : Tab w) (hb : Below w.heap.size w w1) : Tab w1 := fun w' hb' => h w' (hb.trans (hb'.mono hb.size))

theorem itoa_any (n : Int) (w : World) (h0 : -9223372036854775808 ≤ n) (h1 : n ≤ 9223372036854775807) (ht : Lib.TabIs Tryd.prog w "internal/strconv.uint64pow10" .u64 Lib.pow10Tab) :
    Calls Tryd.prog 59 #[.int .i64 n] w (RetB (.string ⟨(Lib.itoa n).toArray⟩) w) :=
  (Tryd.strconv_Itoa n h0 h1 w ht).mono fun e w' he => ⟨he.1, by obtain ⟨k, os, e⟩ := he.2; rw [e]; exact Lib.below_grow _ w (Nat.le_refl _) k os⟩

theorem box3 {w w1 : World} {a b c : Value} {t : TypeId} {B : Nat} (hb : Below B (w.alloc (.cells #[a, b, c] t)) w1) (hB : w.heap.size < B) :
    w1.cell? ⟨w.heap.size, 0, none⟩ = some a ∧ w1.cell? ⟨w.heap.size, 1, none⟩ = some b ∧ w1.cell? ⟨w.heap.size, 2, none⟩ = some c := by
  refine ⟨?_, ?_, ?_⟩ <;> (rw [hb.cell (p := ⟨w.heap.size, _, none⟩) hB]; simp [go_sem])

set_option maxRecDepth 100000 in
set_option maxHeartbeats 2000000 in
theorem d_print_body (n : Bool) (s V : ByteArray) (x : Int) (w : World) (hs : s.size ≤ 1100) (hx : -100000 ≤ x ∧ x ≤ 100000) (hV : V = if n then ⟨#[45]⟩ else ⟨#[]⟩) (ht : Tab w) (hr : Dc.right s.data.toList x = true) :
    Calls Tryd.prog 37 #[.agg #[.bool n, .string s, .int .i64 x]] w (RetB (.string ⟨(Dc.body V.data.toList s.data.toList ((s.size : Int) + x)).toArray⟩) w) := by
  have hright := fun w => d_right_any n s x w (by omega)
  rw [hr] at hright
  have hpt := fun w => d_point_any n s x w (by omega)
  have hpe : Dc.point s.data.toList x = (s.size : Int) + x := by rw [Dc.point_eq, if_pos hr]
  rw [hpe] at hpt
  obtain ⟨p, hp⟩ : ∃ p, p = (s.size : Int) + x := ⟨_, rfl⟩
  obtain ⟨r, hrr⟩ : ∃ r : ByteArray, r = ⟨(Dc.body V.data.toList s.data.toList p).toArray⟩ := ⟨_, rfl⟩
  have hpb : -100000 ≤ p ∧ p ≤ 110000 := by omega
  rw [← hp, ← hrr]
  rw [← hp] at hpt
  obtain ⟨hp1, hp2⟩ := hpb
  have hVs : V.size ≤ 1 := by rw [hV]; cases n <;> decide
  have hb0 : Below w.heap.size w (w.alloc (.cells #[.bool n, .string s, .int .i64 x] 36)) := (Below.refl _ _).alloc (Nat.le_refl _) _
  have HB0 := Lib.hid hb0; have HRT := Lib.hid hright; have HPT := Lib.hid hpt; have HRR := Lib.hid hrr; have HVV := Lib.hid hV; have HT := Lib.hid ht
  clear hb0 hright hpt hrr hV hr hp hpe hx ht
  go_enter Tryd.func37, Tryd.ntmps37
  go_upto_if 10 with (go_at_call 39; (with_reducible refine (HRT.out _).mono ?_); rintro e w1 ⟨rfl, hb_w1⟩; have hB_w1 : Below (w.alloc (.cells #[.bool n, .string s, .int .i64 x] 36)).heap.size (w.alloc (.cells #[.bool n, .string s, .int .i64 x] 36)) w1 := Below.trans (by (repeat (first | exact Below.refl _ _ | assumption | refine Below.setCell ?_ (by first | omega | (simp <;> omega)) _ | refine Below.alloc ?_ (by first | omega | (simp <;> omega)) _ | refine Below.drew ?_ | refine below_drewN' ?_ _))) (hb_w1.mono (by first | omega | (simp <;> omega))); obtain ⟨hc_w1, hf_w1⟩ := bcell hb_w1; have hz_w1 := hb_w1.size; (try simp only [size_drew', size_drewN', World.size_alloc, World.size_setCell] at hz_w1); have hl0_w1 : w.heap.size < w1.heap.size := (by omega); have hm0_w1 : w.heap.size ≤ w1.heap.size := (by omega); have hn0_w1 : ¬ w.heap.size = w1.heap.size := (by omega); have hq0_w1 : ¬ w1.heap.size = w.heap.size := (by omega); have hr0_w1 := fun o => hc_w1 (w.heap.size) o (by (try simp only [size_drew', size_drewN', World.size_alloc, World.size_setCell]); omega); have hg0_w1 := fun o => hf_w1 (w.heap.size) o (by (try simp only [size_drew', size_drewN', World.size_alloc, World.size_setCell]); omega))
  go_cut [3] (fun a wr => a = .string V ∧ wr = w1)
  case first =>
    have hvv := HVV.out
    cases n
    · have e : V = ⟨#[]⟩ := hvv
      subst e
      go_wp2; go_meet; exact ⟨rfl, rfl⟩
    · have e : V = ⟨#[45]⟩ := hvv
      subst e
      go_wp2; go_meet; exact ⟨rfl, rfl⟩
  case rest =>
    obtain ⟨rfl, hwc⟩ := hcut
    subst hwc
    obtain ⟨k0, k1, k2⟩ := box3 hB_w1 (by simp)
    go_wp2_with fail
    go_region_held3 (fun w' => w'.cell? ⟨w.heap.size, 0, none⟩ = some (.bool n) ∧ w'.cell? ⟨w.heap.size, 1, none⟩ = some (.string s) ∧ w'.cell? ⟨w.heap.size, 2, none⟩ = some (.int .i64 x)) (first | go_keep | exact box3 hB_w2 (by simp)) (first | (go_at_call 53; (with_reducible refine (HPT.out _).mono ?_); rintro e w2 ⟨rfl, hb_w2⟩; have hB_w2 : Below (w.alloc (.cells #[.bool n, .string s, .int .i64 x] 36)).heap.size (w.alloc (.cells #[.bool n, .string s, .int .i64 x] 36)) w2 := Below.trans (by (repeat (first | exact Below.refl _ _ | assumption | refine Below.setCell ?_ (by first | omega | (simp <;> omega)) _ | refine Below.alloc ?_ (by first | omega | (simp <;> omega)) _ | refine Below.drew ?_ | refine below_drewN' ?_ _))) (hb_w2.mono (by first | omega | (simp <;> omega))); obtain ⟨hc_w2, hf_w2⟩ := bcell hb_w2; have hz_w2 := hb_w2.size; (try simp only [size_drew', size_drewN', World.size_alloc, World.size_setCell] at hz_w2); have hl0_w2 : w.heap.size < w2.heap.size := (by omega); have hm0_w2 : w.heap.size ≤ w2.heap.size := (by omega); have hn0_w2 : ¬ w.heap.size = w2.heap.size := (by omega); have hq0_w2 : ¬ w2.heap.size = w.heap.size := (by omega); have hr0_w2 := fun o => hc_w2 (w.heap.size) o (by (try simp only [size_drew', size_drewN', World.size_alloc, World.size_setCell]); omega); have hg0_w2 := fun o => hf_w2 (w.heap.size) o (by (try simp only [size_drew', size_drewN', World.size_alloc, World.size_setCell]); omega)))
    have k3 := box3 hB_w2 (by simp)
    obtain ⟨m0, m1, m2⟩ := k3
    clear k0 k1 k2
    have hBw := HB0.out.trans (hB_w2.mono (by simp))
    by_cases c0 : s.size = 0
    · have e0 : ((s.size : Int) == 0) = true := beq_iff_eq.2 (by omega)
      have hf : V ++ ⟨#[48]⟩ = r := by
        rw [HRR.out]; refine Dc.ba_eq _ _ ?_
        rw [Dc.ba_app, Dc.body, if_pos (List.length_eq_zero_iff.1 (by simpa using c0))]
      have HF := Lib.hid hf; have HC0 := Lib.hid c0; clear c0 hf
      replace c0 : s.size ≤ 0 := by have := HC0.out; omega
      go_wp2
      go_ret
      exact RetB.of (congrArg Value.string HF.out) hBw
    · have e0 : ((s.size : Int) == 0) = false := beq_eq_false_iff_ne.2 (by omega)
      have hne : s.data.toList ≠ [] := fun e => c0 (by have := congrArg List.length e; rwa [bs_length] at this)
      have hl : s.data.toList.length = s.size := bs_length s
      have hbody := HRR.out
      rw [Dc.body, if_neg hne, hl] at hbody
      have HBD := Lib.hid hbody; have HL := Lib.hid hl; clear hbody hne hl
      have hc0 : 0 < s.size := by omega
      clear c0
      by_cases c1 : 1 ≤ p ∧ p ≤ 21
      · obtain ⟨c1, c2⟩ := c1
        by_cases c3 : (s.size : Int) ≤ p
        · obtain ⟨Z, hZ⟩ : ∃ Z : ByteArray, Z = ⟨(Lib.repeatL [48] (p - s.size).toNat).toArray⟩ := ⟨_, rfl⟩
          have hzs : Z.size ≤ 21 := by rw [hZ, size_mk, Lib.repeatL_length]; simp; omega
          have hrep : ∀ w, Calls Tryd.prog 58 #[.string ⟨#[48]⟩, .int .i64 (p - s.size)] w (RetB (.string Z) w) := fun w => by rw [hZ]; exact rep0i _ w (by omega)
          have hf : V ++ s ++ Z = r := by
            rw [HBD.out, if_pos ⟨c1, c2, c3⟩]; refine Dc.ba_eq _ _ ?_
            rw [Dc.ba_app, Dc.ba_app, hZ]
          have HF := Lib.hid hf; have HP := Lib.hid hrep; clear hf hrep hZ
          have s1 : ¬ 9223372036854775807 < V.size + s.size := by omega
          have s2 : ¬ 9223372036854775807 < V.size + s.size + Z.size := by omega
          have hwr : IntKind.i64.wrap (p - s.size) = p - s.size := IntWalk.i64_in _ (by omega)
          go_wp2_with fail
          go_region_held3 (fun w' => w'.cell? ⟨w.heap.size, 0, none⟩ = some (.bool n) ∧ w'.cell? ⟨w.heap.size, 1, none⟩ = some (.string s) ∧ w'.cell? ⟨w.heap.size, 2, none⟩ = some (.int .i64 x)) (first | go_keep | exact box3 hB_w3 (by simp)) (first | (go_at_call 58; (with_reducible refine (HP.out _).mono ?_); rintro e w3 ⟨rfl, hb_w3⟩; have hB_w3 : Below (w.alloc (.cells #[.bool n, .string s, .int .i64 x] 36)).heap.size (w.alloc (.cells #[.bool n, .string s, .int .i64 x] 36)) w3 := Below.trans (by (repeat (first | exact Below.refl _ _ | assumption | refine Below.setCell ?_ (by first | omega | (simp <;> omega)) _ | refine Below.alloc ?_ (by first | omega | (simp <;> omega)) _ | refine Below.drew ?_ | refine below_drewN' ?_ _))) (hb_w3.mono (by first | omega | (simp <;> omega))); obtain ⟨hc_w3, hf_w3⟩ := bcell hb_w3; have hz_w3 := hb_w3.size; (try simp only [size_drew', size_drewN', World.size_alloc, World.size_setCell] at hz_w3); have hl0_w3 : w.heap.size < w3.heap.size := (by omega); have hm0_w3 : w.heap.size ≤ w3.heap.size := (by omega); have hn0_w3 : ¬ w.heap.size = w3.heap.size := (by omega); have hq0_w3 : ¬ w3.heap.size = w.heap.size := (by omega); have hr0_w3 := fun o => hc_w3 (w.heap.size) o (by (try simp only [size_drew', size_drewN', World.size_alloc, World.size_setCell]); omega); have hg0_w3 := fun o => hf_w3 (w.heap.size) o (by (try simp only [size_drew', size_drewN', World.size_alloc, World.size_setCell]); omega)))
          go_wp2
          go_ret
          exact RetB.of (congrArg Value.string HF.out) (HB0.out.trans (hB_w3.mono (by simp)))
        · have hK : (s.extract 0 p.toNat).data.toList = s.data.toList.take p.toNat := by rw [Lib.extract_data, List.drop_zero, Nat.sub_zero]
          have hR : (s.extract p.toNat s.size).data.toList = s.data.toList.drop p.toNat := Lib.extract_to_end s p.toNat
          obtain ⟨K, hKe⟩ : ∃ K, K = s.extract 0 p.toNat := ⟨_, rfl⟩
          obtain ⟨R, hRe⟩ : ∃ R, R = s.extract p.toNat s.size := ⟨_, rfl⟩
          have hKs : K.size ≤ 1100 := by rw [hKe, ByteArray.size_extract]; omega
          have hRs : R.size ≤ 1100 := by rw [hRe, ByteArray.size_extract]; omega
          have hsl : ∀ w : World, (Instr.slice 9 (.string s) none (some (.int .i64 p)) none).run Tryd.prog w = .ok (.string K) w := fun w => by
            rw [hKe, run_slice_string_to_if w _ s .i64 p Tryd.underlying9, if_pos (by omega)]
          have hsr : ∀ w : World, (Instr.slice 9 (.string s) (some (.int .i64 p)) none none).run Tryd.prog w = .ok (.string R) w := fun w => by
            rw [hRe, run_slice_string_from_if w _ s .i64 p Tryd.underlying9, if_pos (by omega)]
          have hf : V ++ K ++ ⟨#[46]⟩ ++ R = r := by
            rw [HBD.out, if_neg (fun h => c3 h.2.2), if_pos ⟨c1, c2⟩]; refine Dc.ba_eq _ _ ?_
            rw [Dc.ba_app, Dc.ba_app, Dc.ba_app, hKe, hRe, hK, hR]
          have HF := Lib.hid hf; clear hf hKe hRe hK hR
          have s1 : ¬ 9223372036854775807 < V.size + K.size := by omega
          have s2 : ¬ 9223372036854775807 < V.size + K.size + 1 := by omega
          have s3 : ¬ 9223372036854775807 < V.size + K.size + 1 + R.size := by omega
          go_wp2_with fail
          go_quiet (fail)
          go_wp2
          go_ret
          exact RetB.of (congrArg Value.string HF.out) (by (repeat (first | exact Below.refl _ _ | assumption | refine Below.setCell ?_ (by first | omega | (simp <;> omega)) _ | refine Below.alloc ?_ (by first | omega | (simp <;> omega)) _ | refine Below.drew ?_ | refine below_drewN' ?_ _)))
      · by_cases c2 : -5 ≤ p ∧ p ≤ 0
        · obtain ⟨c3, c4⟩ := c2
          obtain ⟨Z, hZ⟩ : ∃ Z : ByteArray, Z = ⟨(Lib.repeatL [48] (-p).toNat).toArray⟩ := ⟨_, rfl⟩
          have hzs : Z.size ≤ 21 := by rw [hZ, size_mk, Lib.repeatL_length]; simp; omega
          have hrep : ∀ w, Calls Tryd.prog 58 #[.string ⟨#[48]⟩, .int .i64 (-p)] w (RetB (.string Z) w) := fun w => by rw [hZ]; exact rep0i _ w (by omega)
          have hf : V ++ ⟨#[48, 46]⟩ ++ Z ++ s = r := by
            rw [HBD.out, if_neg (fun h => c1 ⟨h.1, h.2.1⟩), if_neg c1, if_pos ⟨c3, c4⟩]; refine Dc.ba_eq _ _ ?_
            rw [Dc.ba_app, Dc.ba_app, Dc.ba_app, hZ]
          have HF := Lib.hid hf; have HP := Lib.hid hrep; clear hf hrep hZ c1
          have s1 : ¬ 9223372036854775807 < V.size + 2 := by omega
          have s2 : ¬ 9223372036854775807 < V.size + 2 + Z.size := by omega
          have s3 : ¬ 9223372036854775807 < V.size + 2 + Z.size + s.size := by omega
          have hwr : IntKind.i64.wrap (-p) = -p := IntWalk.i64_in _ (by omega)
          go_wp2_with fail
          go_region_held3 (fun w' => w'.cell? ⟨w.heap.size, 0, none⟩ = some (.bool n) ∧ w'.cell? ⟨w.heap.size, 1, none⟩ = some (.string s) ∧ w'.cell? ⟨w.heap.size, 2, none⟩ = some (.int .i64 x)) (first | go_keep | exact box3 hB_w3 (by simp)) (first | (go_at_call 58; (with_reducible refine (HP.out _).mono ?_); rintro e w3 ⟨rfl, hb_w3⟩; have hB_w3 : Below (w.alloc (.cells #[.bool n, .string s, .int .i64 x] 36)).heap.size (w.alloc (.cells #[.bool n, .string s, .int .i64 x] 36)) w3 := Below.trans (by (repeat (first | exact Below.refl _ _ | assumption | refine Below.setCell ?_ (by first | omega | (simp <;> omega)) _ | refine Below.alloc ?_ (by first | omega | (simp <;> omega)) _ | refine Below.drew ?_ | refine below_drewN' ?_ _))) (hb_w3.mono (by first | omega | (simp <;> omega))); obtain ⟨hc_w3, hf_w3⟩ := bcell hb_w3; have hz_w3 := hb_w3.size; (try simp only [size_drew', size_drewN', World.size_alloc, World.size_setCell] at hz_w3); have hl0_w3 : w.heap.size < w3.heap.size := (by omega); have hm0_w3 : w.heap.size ≤ w3.heap.size := (by omega); have hn0_w3 : ¬ w.heap.size = w3.heap.size := (by omega); have hq0_w3 : ¬ w3.heap.size = w.heap.size := (by omega); have hr0_w3 := fun o => hc_w3 (w.heap.size) o (by (try simp only [size_drew', size_drewN', World.size_alloc, World.size_setCell]); omega); have hg0_w3 := fun o => hf_w3 (w.heap.size) o (by (try simp only [size_drew', size_drewN', World.size_alloc, World.size_setCell]); omega)))
          go_wp2
          go_ret
          exact RetB.of (congrArg Value.string HF.out) (HB0.out.trans (hB_w3.mono (by simp)))
        · have hbody := HBD.out
          rw [if_neg (fun h => c1 ⟨h.1, h.2.1⟩), if_neg c1, if_neg c2] at hbody
          have HBX := Lib.hid hbody
          have hgo : p < -5 ∨ 21 < p := by omega
          have HGO := Lib.hid hgo; clear hbody c1 c2 hgo
          obtain ⟨K, hKe⟩ : ∃ K, K = s.extract 0 1 := ⟨_, rfl⟩
          obtain ⟨R, hRe⟩ : ∃ R, R = s.extract 1 s.size := ⟨_, rfl⟩
          have hKs : K.size ≤ 1100 := by rw [hKe, ByteArray.size_extract]; omega
          have hRs : R.size ≤ 1100 := by rw [hRe, ByteArray.size_extract]; omega
          have hsl : ∀ w : World, (Instr.slice 9 (.string s) none (some (.int .i64 1)) none).run Tryd.prog w = .ok (.string K) w := fun w => by
            rw [hKe, run_slice_string_to_if w _ s .i64 1 Tryd.underlying9, if_pos (by omega)]; rfl
          have hsr : ∀ w : World, (Instr.slice 9 (.string s) (some (.int .i64 1)) none none).run Tryd.prog w = .ok (.string R) w := fun w => by
            rw [hRe, run_slice_string_from_if w _ s .i64 1 Tryd.underlying9, if_pos (by omega)]; rfl
          have hK : K.data.toList = s.data.toList.take 1 := by rw [hKe, Lib.extract_data, List.drop_zero]
          have hR : R.data.toList = s.data.toList.drop 1 := by rw [hRe]; exact Lib.extract_to_end s 1
          obtain ⟨U, hU⟩ : ∃ U : ByteArray, U = if 1 < s.size then V ++ K ++ (⟨#[46]⟩ ++ R) else V ++ K := ⟨_, rfl⟩
          have hUs : U.size ≤ 3000 := by
            have h46 : (⟨#[46]⟩ : ByteArray).size = 1 := rfl
            rw [hU]; split <;> simp only [ByteArray.size_append, h46] <;> omega
          have hUl : U.data.toList = if 1 < s.size then V.data.toList ++ s.data.toList.take 1 ++ ([46] ++ s.data.toList.drop 1) else V.data.toList ++ s.data.toList.take 1 := by
            rw [hU]
            split
            · rw [Dc.ba_app, Dc.ba_app, Dc.ba_app, hK, hR]
            · rw [Dc.ba_app, hK]
          have HUU := Lib.hid hU; have HUL := Lib.hid hUl
          clear hU hUl hKe hRe hK hR
          have s1 : ¬ 9223372036854775807 < V.size + K.size := by omega
          have s2 : ¬ 9223372036854775807 < 1 + R.size := by omega
          have s3 : ¬ 9223372036854775807 < V.size + K.size + (1 + R.size) := by omega
          have s4 : ¬ 9223372036854775807 < U.size + 2 := by omega
          have n1 : ¬ (1 ≤ p ∧ p ≤ 21) := by have := HGO.out; omega
          have n2 : ¬ (-5 ≤ p ∧ p ≤ 0) := by have := HGO.out; omega
          rcases HGO.out with hg | hg
          · obtain ⟨I, hI⟩ : ∃ I : ByteArray, I = ⟨(Lib.itoa (1 - p)).toArray⟩ := ⟨_, rfl⟩
            have hIs : I.size ≤ 30 := by rw [hI, size_mk]; exact Dc.itoa_len _ (by omega)
            have hit : ∀ w1, Below w.heap.size w w1 → Calls Tryd.prog 59 #[.int .i64 (1 - p)] w1 (RetB (.string I) w1) := fun w1 hb => by rw [hI]; exact itoa_any _ w1 (by omega) (by omega) (HT.out.on hb)
            have hf : U ++ ⟨#[101, 45]⟩ ++ I = r := by
              rw [HBX.out, if_pos (by omega)]; refine Dc.ba_eq _ _ ?_
              rw [Dc.ba_app, Dc.ba_app, hI, HUL.out]
            have HF := Lib.hid hf; have HI := Lib.hid hit; clear hf hit hI n1 n2
            have s5 : ¬ 9223372036854775807 < U.size + 2 + I.size := by omega
            go_upto_if 83 with (fail)
            go_cut [3] (fun a wr => a = .string U ∧ wr = w2)
            case first =>
              by_cases c9 : 1 < s.size
              · have hu := HUU.out; rw [if_pos c9] at hu
                have HU2 := Lib.hid hu; clear hu
                go_wp2; go_meet
                exact ⟨by rw [HU2.out], rfl⟩
              · have hu := HUU.out; rw [if_neg c9] at hu
                have HU2 := Lib.hid hu; clear hu
                go_wp2; go_meet
                exact ⟨by rw [HU2.out], rfl⟩
            case rest =>
              obtain ⟨rfl, hwc⟩ := hcut
              subst hwc
              go_wp2_with (go_at_call 59; (with_reducible refine (HI.out _ hBw).mono ?_); rintro e w5 ⟨rfl, hb_w5⟩; have hB_w5 : Below (w).heap.size (w) w5 := Below.trans (by (repeat (first | exact Below.refl _ _ | assumption | refine Below.setCell ?_ (by first | omega | (simp <;> omega)) _ | refine Below.alloc ?_ (by first | omega | (simp <;> omega)) _ | refine Below.drew ?_ | refine below_drewN' ?_ _))) (hb_w5.mono (by first | omega | (simp <;> omega))); obtain ⟨hc_w5, hf_w5⟩ := bcell hb_w5; have hz_w5 := hb_w5.size; (try simp only [size_drew', size_drewN', World.size_alloc, World.size_setCell] at hz_w5); have hl0_w5 : w.heap.size < w5.heap.size := (by omega); have hm0_w5 : w.heap.size ≤ w5.heap.size := (by omega); have hn0_w5 : ¬ w.heap.size = w5.heap.size := (by omega); have hq0_w5 : ¬ w5.heap.size = w.heap.size := (by omega); have hr0_w5 := fun o => hc_w5 (w.heap.size) o (by (try simp only [size_drew', size_drewN', World.size_alloc, World.size_setCell]); omega); have hg0_w5 := fun o => hf_w5 (w.heap.size) o (by (try simp only [size_drew', size_drewN', World.size_alloc, World.size_setCell]); omega))
              go_ret
              exact RetB.of (congrArg Value.string HF.out) hB_w5
          · obtain ⟨I, hI⟩ : ∃ I : ByteArray, I = ⟨(Lib.itoa (p - 1)).toArray⟩ := ⟨_, rfl⟩
            have hIs : I.size ≤ 30 := by rw [hI, size_mk]; exact Dc.itoa_len _ (by omega)
            have hit : ∀ w1, Below w.heap.size w w1 → Calls Tryd.prog 59 #[.int .i64 (p - 1)] w1 (RetB (.string I) w1) := fun w1 hb => by rw [hI]; exact itoa_any _ w1 (by omega) (by omega) (HT.out.on hb)
            have hf : U ++ ⟨#[101, 43]⟩ ++ I = r := by
              rw [HBX.out, if_neg (by omega)]; refine Dc.ba_eq _ _ ?_
              rw [Dc.ba_app, Dc.ba_app, hI, HUL.out]
            have HF := Lib.hid hf; have HI := Lib.hid hit; clear hf hit hI n1 n2
            have s5 : ¬ 9223372036854775807 < U.size + 2 + I.size := by omega
            go_upto_if 83 with (fail)
            go_cut [3] (fun a wr => a = .string U ∧ wr = w2)
            case first =>
              by_cases c9 : 1 < s.size
              · have hu := HUU.out; rw [if_pos c9] at hu
                have HU2 := Lib.hid hu; clear hu
                go_wp2; go_meet
                exact ⟨by rw [HU2.out], rfl⟩
              · have hu := HUU.out; rw [if_neg c9] at hu
                have HU2 := Lib.hid hu; clear hu
                go_wp2; go_meet
                exact ⟨by rw [HU2.out], rfl⟩
            case rest =>
              obtain ⟨rfl, hwc⟩ := hcut
              subst hwc
              go_wp2_with (go_at_call 59; (with_reducible refine (HI.out _ hBw).mono ?_); rintro e w5 ⟨rfl, hb_w5⟩; have hB_w5 : Below (w).heap.size (w) w5 := Below.trans (by (repeat (first | exact Below.refl _ _ | assumption | refine Below.setCell ?_ (by first | omega | (simp <;> omega)) _ | refine Below.alloc ?_ (by first | omega | (simp <;> omega)) _ | refine Below.drew ?_ | refine below_drewN' ?_ _))) (hb_w5.mono (by first | omega | (simp <;> omega))); obtain ⟨hc_w5, hf_w5⟩ := bcell hb_w5; have hz_w5 := hb_w5.size; (try simp only [size_drew', size_drewN', World.size_alloc, World.size_setCell] at hz_w5); have hl0_w5 : w.heap.size < w5.heap.size := (by omega); have hm0_w5 : w.heap.size ≤ w5.heap.size := (by omega); have hn0_w5 : ¬ w.heap.size = w5.heap.size := (by omega); have hq0_w5 : ¬ w5.heap.size = w.heap.size := (by omega); have hr0_w5 := fun o => hc_w5 (w.heap.size) o (by (try simp only [size_drew', size_drewN', World.size_alloc, World.size_setCell]); omega); have hg0_w5 := fun o => hf_w5 (w.heap.size) o (by (try simp only [size_drew', size_drewN', World.size_alloc, World.size_setCell]); omega))
              go_ret
              exact RetB.of (congrArg Value.string HF.out) hB_w5

theorem d_print_any (n : Bool) (s : ByteArray) (x : Int) (w : World) (hs : s.size ≤ 1000000) (hx : -9223372036854775808 ≤ x ∧ x ≤ 9223372036854775807) (ht : Tab w) :
    Calls Tryd.prog 37 #[.agg #[.bool n, .string s, .int .i64 x]] w (RetB (.string ⟨(Dc.print n s.data.toList x).toArray⟩) w) := by
  have hright := fun w => d_right_any n s x w (by omega)
  cases hr : Dc.right s.data.toList x with
  | true =>
    have hl := Dc.right_len hr
    have hxx := Dc.right_exp hr
    rw [bs_length] at hl
    have := d_print_body n s (if n then ⟨#[45]⟩ else ⟨#[]⟩) x w hl hxx rfl ht hr
    rw [Dc.print, if_pos hr, bs_length]
    cases n
    · exact this
    · exact this
  | false =>
    rw [hr] at hright
    rw [Dc.print, if_neg (by rw [hr]; simp)]
    have HR := Lib.hid hright; clear hright hr
    go_enter Tryd.func37, Tryd.ntmps37
    go_wp2_with (go_at_call 39; (with_reducible refine (HR.out _).mono ?_); rintro e w1 ⟨rfl, hb_w1⟩; have hB_w1 : Below (w).heap.size (w) w1 := Below.trans (by (repeat (first | exact Below.refl _ _ | assumption | refine Below.setCell ?_ (by first | omega | (simp <;> omega)) _ | refine Below.alloc ?_ (by first | omega | (simp <;> omega)) _ | refine Below.drew ?_ | refine below_drewN' ?_ _))) (hb_w1.mono (by first | omega | (simp <;> omega))); obtain ⟨hc_w1, hf_w1⟩ := bcell hb_w1; have hz_w1 := hb_w1.size; (try simp only [size_drew', size_drewN', World.size_alloc, World.size_setCell] at hz_w1); have hl0_w1 : w.heap.size < w1.heap.size := (by omega); have hm0_w1 : w.heap.size ≤ w1.heap.size := (by omega); have hn0_w1 : ¬ w.heap.size = w1.heap.size := (by omega); have hq0_w1 : ¬ w1.heap.size = w.heap.size := (by omega); have hr0_w1 := fun o => hc_w1 (w.heap.size) o (by (try simp only [size_drew', size_drewN', World.size_alloc, World.size_setCell]); omega); have hg0_w1 := fun o => hf_w1 (w.heap.size) o (by (try simp only [size_drew', size_drewN', World.size_alloc, World.size_setCell]); omega))
    go_ret
    exact RetB.of rfl hB_w1
end Go.Proofs.YtcbepojookbceaaDoor
