import Derived.Test.YtiglekomfgfilaaGreatDoorY14
import Derived.Test.YtiglekomfgfilaaGreatDoorY6
import Derived.Shelf.Strings.SlTrimAscii
import Derived.Deep.QuietTactic
import Derived.BigQuiet
import Derived.Deep.RegionWith
import Derived.Deep.RegionHeld3
import Derived.Test.YtiglekomfgfilaaGreatDoorY1
import Derived.Test.YtiglekomfgfilaaGreatDoorY18
import Derived.Test.YtiglekomfgfilaaGreatDoorY7
namespace Go.Proofs.YtiglekomfgfilaaGreatDoor
set_option maxRecDepth 100000
set_option maxHeartbeats 1000000
set_option linter.all false
open Go.RowKit
theorem d_up_any (n : Bool) (kept rest : ByteArray) (way : Int) (w : World) (hk : kept.size ≤ 1000000000) (hw : 0 ≤ way ∧ way ≤ 5) :
    Calls Tryz.prog 97 #[.bool n, .string kept, .string rest, .int .i64 way] w (Ret0 (.bool (Dc.up n kept.data.toList rest.data.toList way)) w) := by
  obtain ⟨r, hr⟩ : ∃ r, r = Dc.up n kept.data.toList rest.data.toList way := ⟨_, rfl⟩
  rw [← hr]
  by_cases h0 : rest.size = 0
  · have he := isEmpty_of_zero h0
    have hz : rest.data.toList = [] := List.length_eq_zero_iff.1 (by simpa using h0)
    rw [Dc.up, if_pos hz] at hr
    have HR := Lib.hid hr; clear hr h0 hz
    go_enter Tryz.func97, Tryz.ntmps97
    go_wp2
    go_ret
    exact Ret0.of (congrArg _ HR.out.symm)
  · have he := isEmpty_of_pos (by omega : 0 < rest.size)
    have hz : rest.data.toList ≠ [] := fun e => h0 (by have := congrArg List.length e; simpa using this)
    rw [Dc.up, if_neg hz] at hr
    obtain ⟨h, hh⟩ : ∃ h, h = Dc.half rest.data.toList := ⟨_, rfl⟩
    rw [← hh] at hr
    have hcmp : ∀ w, Calls Tryz.prog 121 #[.string rest, .string ⟨#[53]⟩] w (Ret0 (.int .i64 h) w) := fun w => (Tryz.strings_Compare rest ⟨#[53]⟩ w).mono fun _ _ e => ⟨by rw [e.1, hh]; rfl, e.2.symm⟩
    have HC := Lib.hid hcmp; clear hcmp hh h0 hz
    have hcase : way = 0 ∨ way = 1 ∨ way = 2 ∨ way = 3 ∨ way = 4 ∨ way = 5 := by omega
    clear hw
    rcases hcase with rfl | rfl | rfl | rfl | rfl | rfl
    case inl =>
      have HR := Lib.hid hr; clear hr
      by_cases hk0 : kept.size = 0
      · have hke := isEmpty_of_zero hk0
        have HZ := Lib.hid hk0; clear hk0
        go_enter Tryz.func97, Tryz.ntmps97
        go_wp2_with (go_at_call 121; (with_reducible refine (HC.out _).mono ?_); rintro e w' ⟨rfl, rfl⟩)
        all_goals go_ret
        all_goals refine Ret0.of (congrArg _ (HR.out.trans ?_).symm)
        all_goals rw [if_pos trivial, Dc.odd_nil (by simpa using HZ.out)]
        all_goals simp [*]
      · have hke := isEmpty_of_pos (by omega : 0 < kept.size)
        replace hk0 : 0 < kept.size := by omega
        go_enter Tryz.func97, Tryz.ntmps97
        go_wp2_with (go_at_call 121; (with_reducible refine (HC.out _).mono ?_); rintro e w' ⟨rfl, rfl⟩)
        all_goals go_ret
        all_goals refine Ret0.of (congrArg _ (HR.out.trans ?_).symm)
        all_goals rw [if_pos trivial, Dc.odd_last kept hk0]
        all_goals simp [*, Dc.and_one]
        all_goals (rw [Bool.eq_iff_iff]; simp)
    all_goals (
      have HR := Lib.hid hr; clear hr
      go_enter Tryz.func97, Tryz.ntmps97
      go_wp2_with (go_at_call 121; (with_reducible refine (HC.out _).mono ?_); rintro e w' ⟨rfl, rfl⟩)
      go_ret
      exact Ret0.of (congrArg _ (HR.out.trans (by first | rfl | (cases n <;> rfl))).symm))
theorem trimR9 (s : ByteArray) (w : World) (hs : s.size ≤ 1000000000) : Calls Tryz.prog 119 #[.string s, .string ⟨#[57]⟩] w (Ret0 (.string ⟨(Dc.no9 s.data.toList).toArray⟩) w) :=
  (Tryz.strings_TrimRight_one s 57 (by decide) w (by omega)).mono fun _ _ h => ⟨h.1, h.2.symm⟩
theorem rep0 (k : Nat) (w : World) (hk : k ≤ 1000000000) : Calls Tryz.prog 74 #[.string ⟨#[48]⟩, .int .i64 k] w (RetB (.string ⟨(Lib.repeatL [48] k).toArray⟩) w) :=
  (Tryz.strings_Repeat ⟨#[48]⟩ k w (by omega) (by simp [ByteArray.size]; omega)).mono fun _ _ h => h
theorem d_more_any (s : ByteArray) (w : World) (hs : s.size ≤ 1000000000) (hd : Dc.allDig s.data.toList = true) :
    Calls Tryz.prog 98 #[.string s] w (RetB (.string ⟨(Dc.more s.data.toList).toArray⟩) w) := by
  obtain ⟨T, Z, hT, hZ, hTs, hcase⟩ := Dc.more_parts s hd
  have htr : ∀ w, Calls Tryz.prog 119 #[.string s, .string ⟨#[57]⟩] w (Ret0 (.string T) w) := fun w => by rw [hT]; exact trimR9 s w hs
  have hrep : ∀ w, Calls Tryz.prog 74 #[.string ⟨#[48]⟩, .int .i64 ((s.size : Int) - T.size)] w (RetB (.string Z) w) := fun w => by
    rw [hZ, show (s.size : Int) - T.size = ((s.size - T.size : Nat) : Int) by omega]; exact rep0 _ w (by omega)
  have hzs : Z.size ≤ 1000000000 := by rw [hZ, size_mk, Lib.repeatL_length]; simp; omega
  obtain ⟨r, hr⟩ : ∃ r, r = Dc.more s.data.toList := ⟨_, rfl⟩
  rw [← hr] at hcase ⊢
  have HP := Lib.hid hrep; have HT := Lib.hid htr; clear hr hrep hT hZ htr hd
  rcases hcase with ⟨h0, h2⟩ | ⟨c, hpos, hlast, hc1, hc2, h2⟩
  · have he' : T.toList.isEmpty = true := isEmpty_of_zero h0
    have HR := Lib.hid h2; clear h2 h0
    go_enter Tryz.func98, Tryz.ntmps98
    go_wp2_with (first
      | (go_at_call 119; (with_reducible refine (HT.out _).mono ?_); rintro e w' ⟨rfl, rfl⟩)
      | (go_at_call 74; (with_reducible refine (HP.out _).mono ?_); rintro e w1 ⟨rfl, hb_w1⟩; have hB_w1 : Below (w).heap.size (w) w1 := Below.trans (by (repeat (first | exact Below.refl _ _ | assumption | refine Below.setCell ?_ (by first | omega | (simp <;> omega)) _ | refine Below.alloc ?_ (by first | omega | (simp <;> omega)) _ | refine Below.drew ?_ | refine below_drewN' ?_ _))) (hb_w1.mono (by first | omega | (simp <;> omega))); obtain ⟨hc_w1, hf_w1⟩ := bcell hb_w1; have hz_w1 := hb_w1.size; (try simp only [zD, zN, zA, zS] at hz_w1)))
    go_ret
    exact RetB.of (congrArg _ HR.out) hB_w1
  · have he' : T.toList.isEmpty = false := isEmpty_of_pos hpos
    have HR := Lib.hid h2; clear h2
    have hi : ((T[T.size - 1].toNat : Int)) = c.toNat := by rw [hlast]
    clear hlast
    have hw : IntKind.i64.wrap ((T.size : Int) - 1) = (T.size : Int) - 1 := IntWalk.i64_in _ (by omega)
    have hw2 : IntKind.u8.wrap ((c.toNat : Int) + 1) = (c.toNat : Int) + 1 := IntWalk.u8_in _ (by omega)
    have hn : ((T.size : Int) - 1).toNat = T.size - 1 := by omega
    have hge : 0 ≤ (T.size : Int) - 1 := by omega
    have hlt : (T.size : Int) - 1 < T.size := by omega
    have hle : (T.size : Int) - 1 ≤ T.size := by omega
    have h1l : 1 ≤ (T.size : Int) := by omega
    have hen := Dc.encode_next c hc1 hc2
    have hs1 : ¬ 9223372036854775807 < T.size - 1 + 1 := by omega
    have hs2 : ¬ 9223372036854775807 < T.size - 1 + 1 + Z.size := by omega
    have h1n : T.size - 1 < T.size := by omega
    have h1s : T.size - 1 ≤ T.size := by omega
    go_enter Tryz.func98, Tryz.ntmps98
    go_wp2_with (first
      | (go_at_call 119; (with_reducible refine (HT.out _).mono ?_); rintro e w' ⟨rfl, rfl⟩)
      | (go_at_call 74; (with_reducible refine (HP.out _).mono ?_); rintro e w1 ⟨rfl, hb_w1⟩; have hB_w1 : Below (w).heap.size (w) w1 := Below.trans (by (repeat (first | exact Below.refl _ _ | assumption | refine Below.setCell ?_ (by first | omega | (simp <;> omega)) _ | refine Below.alloc ?_ (by first | omega | (simp <;> omega)) _ | refine Below.drew ?_ | refine below_drewN' ?_ _))) (hb_w1.mono (by first | omega | (simp <;> omega))); obtain ⟨hc_w1, hf_w1⟩ := bcell hb_w1; have hz_w1 := hb_w1.size; (try simp only [zD, zN, zA, zS] at hz_w1)))
    go_quiet (fail)
    go_wp2
    go_ret
    exact RetB.of (congrArg _ HR.out) (by (repeat (first | exact Below.refl _ _ | assumption | refine Below.setCell ?_ (by first | omega | (simp <;> omega)) _ | refine Below.alloc ?_ (by first | omega | (simp <;> omega)) _ | refine Below.drew ?_ | refine below_drewN' ?_ _)))
theorem trimLd (s : ByteArray) (w : World) : Calls Tryz.prog 118 #[.string s, .string ⟨#[48, 49, 50, 51, 52, 53, 54, 55, 56, 57]⟩] w (RetB (.string ⟨(s.data.toList.dropWhile Dc.isDig).toArray⟩) w) :=
  (Any.strings_TrimLeft_laid Tryz.lays161 (by kernel_rfl) s ⟨#[48, 49, 50, 51, 52, 53, 54, 55, 56, 57]⟩ w (by decide) (Go.Proofs.ascii_of_all (by decide))).mono fun _ _ h => ⟨by rw [h.1]; exact congrArg (fun l : Dc.Bs => Ending.returned (.string ⟨l.toArray⟩)) (Dc.dropWhile_digs _), h.2⟩
theorem d_digits_any (s : ByteArray) (w : World) (hs : s.size ≤ 1000000000) :
    Calls Tryz.prog 102 #[.string s] w (RetB (.tuple #[.string ⟨(s.data.toList.takeWhile Dc.isDig).toArray⟩, .string ⟨(s.data.toList.dropWhile Dc.isDig).toArray⟩]) w) := by
  obtain ⟨T, hT⟩ : ∃ T : ByteArray, T = ⟨(s.data.toList.dropWhile Dc.isDig).toArray⟩ := ⟨_, rfl⟩
  have h1 : T.size ≤ s.size := by rw [hT, size_mk]; have := (List.dropWhile_sublist Dc.isDig (l := s.data.toList)).length_le; rwa [bs_length] at this
  have h2 : s.extract 0 (s.size - T.size) = ⟨(s.data.toList.takeWhile Dc.isDig).toArray⟩ := by
    have e2 : (s.extract 0 (s.size - T.size)).data.toList = s.data.toList.takeWhile Dc.isDig := by
      rw [Lib.extract_data, List.drop_zero, Nat.sub_zero]
      refine Dc.take_tw _ _ _ ?_
      have hs' : T.size = (s.data.toList.dropWhile Dc.isDig).length := by rw [hT, size_mk]
      rw [bs_length]; omega
    rw [← e2]
  have h3 : ∀ w, Calls Tryz.prog 118 #[.string s, .string ⟨#[48, 49, 50, 51, 52, 53, 54, 55, 56, 57]⟩] w (RetB (.string T) w) := fun w => by rw [hT]; exact trimLd s w
  rw [← hT]
  have H2 := Lib.hid h2; have H3 := Lib.hid h3; clear h2 h3 hT
  go_enter Tryz.func102, Tryz.ntmps102
  go_wp2_with (go_at_call 118; (with_reducible refine (H3.out _).mono ?_); rintro e w1 ⟨rfl, hb_w1⟩; have hB_w1 : Below (w).heap.size (w) w1 := Below.trans (by (repeat (first | exact Below.refl _ _ | assumption | refine Below.setCell ?_ (by first | omega | (simp <;> omega)) _ | refine Below.alloc ?_ (by first | omega | (simp <;> omega)) _ | refine Below.drew ?_ | refine below_drewN' ?_ _))) (hb_w1.mono (by first | omega | (simp <;> omega))); obtain ⟨hc_w1, hf_w1⟩ := bcell hb_w1; have hz_w1 := hb_w1.size; (try simp only [zD, zN, zA, zS] at hz_w1))
  go_ret2
  exact RetB.of (by rw [← H2.out]; rfl) hB_w1
end Go.Proofs.YtiglekomfgfilaaGreatDoor

namespace Go.Proofs.YtiglekomfgfilaaGreatDoor
set_option maxRecDepth 100000
set_option maxHeartbeats 1000000
set_option linter.all false
open Go.RowKit
attribute [local go_sem] Dc.Res.val
theorem rep0i (k : Int) (w : World) (hk : 0 ≤ k ∧ k ≤ 1000000000) : Calls Tryz.prog 74 #[.string ⟨#[48]⟩, .int .i64 k] w (RetB (.string ⟨(Lib.repeatL [48] k.toNat).toArray⟩) w) := by
  have := rep0 k.toNat w (by omega)
  rwa [Int.toNat_of_nonneg hk.1] at this
theorem d_cut_any (n : Bool) (s : ByteArray) (x k way : Int) (w : World) (hs : s.size ≤ 1000000) (hd : Dc.allDig s.data.toList = true) (hx : -1000000 ≤ x ∧ x ≤ 1000000) (hk : -1000000 ≤ k ∧ k ≤ s.size) (hw : 0 ≤ way ∧ way ≤ 5) :
    Calls Tryz.prog 66 #[.agg #[.bool n, .string s, .int .i64 x], .int .i64 k, .int .i64 way] w (RetB (Dc.cut n s.data.toList x k way).val w) := by
  obtain ⟨hx1, hx2⟩ := hx
  obtain ⟨hk1, hk2⟩ := hk
  have hkt := fun h => Dc.cut_rest s k h
  obtain ⟨Z, hZ⟩ : ∃ Z : ByteArray, Z = ⟨(Lib.repeatL [48] (max 0 (min (-k) 1)).toNat).toArray⟩ := ⟨_, rfl⟩
  have hzs : Z.size ≤ 1 := by rw [hZ, size_mk, Lib.repeatL_length]; simp; omega
  have hrep : ∀ m w, m = max 0 (min (-k) 1) → Calls Tryz.prog 74 #[.string ⟨#[48]⟩, .int .i64 m] w (RetB (.string Z) w) := fun m w hm => by rw [hm, hZ]; exact rep0i _ w (by omega)
  have HP := Lib.hid hrep; have HZ := Lib.hid hZ; have HKT := Lib.hid hkt; clear hrep hZ hkt
  have hadd : ∀ w : World, (Op.stringOp .add Z s).run Tryz.prog w = .ok (.string (Z ++ s)) w := fun w => run_string_add_sum w Z s (by omega)
  have hwr : IntKind.i64.wrap (-k) = -k := IntWalk.i64_in _ (by omega)
  by_cases hneg : k ≤ 0
  · go_enter Tryz.func66, Tryz.ntmps66
    go_wp2_with fail
    go_region_held3 (fun w' => w'.cell? ⟨w.heap.size, 1, none⟩ = some (.string s)) (first | go_keep | (rw [hr0_w1]; simp [go_sem])) (first | (go_at_call 74; (with_reducible refine (HP.out _ _ (by omega)).mono ?_); rintro e w1 ⟨rfl, hb_w1⟩; have hB_w1 : Below (w).heap.size (w) w1 := Below.trans (by (repeat (first | exact Below.refl _ _ | assumption | refine Below.setCell ?_ (by first | omega | (simp <;> omega)) _ | refine Below.alloc ?_ (by first | omega | (simp <;> omega)) _ | refine Below.drew ?_ | refine below_drewN' ?_ _))) (hb_w1.mono (by first | omega | (simp <;> omega))); obtain ⟨hc_w1, hf_w1⟩ := bcell hb_w1; have hz_w1 := hb_w1.size; (try simp only [zD, zN, zA, zS] at hz_w1); have hk := own6 hb_w1 (w.heap.size) (by (try simp only [zD, zN, zA, zS]); omega); obtain ⟨hl0_w1, hm0_w1, hn0_w1, hq0_w1, hr0_w1, hg0_w1⟩ := hk; have hk := own6 hb_w1 (w.heap.size + 1) (by (try simp only [zD, zN, zA, zS]); omega); obtain ⟨hl1_w1, hm1_w1, hn1_w1, hq1_w1, hr1_w1, hg1_w1⟩ := hk))
    have hU : Dc.up n (s.data.toList.take k.toNat) (if k < 0 then 48 :: s.data.toList else s.data.toList.drop k.toNat) way = Dc.up n [] (Z.data.toList ++ s.data.toList) way := by
      have e := congrArg (fun b : ByteArray => b.data.toList) (HKT.out hneg)
      simp only [← HZ.out] at e
      rw [show k.toNat = 0 by omega, List.take_zero, ← show k.toNat = 0 by omega]
      congr 1
      rw [← e]; simp
    have hC : Dc.cut n s.data.toList x k way = Dc.mk n (if Dc.up n (s.data.toList.take k.toNat) (if k < 0 then 48 :: s.data.toList else s.data.toList.drop k.toNat) way = true then Dc.more [] else []) (x + s.size - k) := by
      rw [Dc.cut, bs_length, show List.take k.toNat s.data.toList = [] by rw [show k.toNat = 0 by omega, List.take_zero]]
    have HU := Lib.hid hU; have HC := Lib.hid hC; clear hU hC
    have hKs : (⟨#[]⟩ : ByteArray).size ≤ 1000000000 := by decide
    have hKd : Dc.allDig (⟨#[]⟩ : ByteArray).data.toList = true := by decide
    have hMs : (⟨(Dc.more (⟨#[]⟩ : ByteArray).data.toList).toArray⟩ : ByteArray).size ≤ 1000000000 := by decide +kernel
    have hX : -9223372036854775808 ≤ x + (s.size : Int) - k ∧ x + (s.size : Int) - k ≤ 9223372036854775807 := by omega
    go_wp2_with (first
      | (go_at_call 97; (with_reducible refine (d_up_any _ _ _ _ _ hKs hw).mono ?_); rintro e w' ⟨rfl, rfl⟩)
      | (go_at_call 98; (with_reducible refine (d_more_any _ _ hKs hKd).mono ?_); rintro e w2 ⟨rfl, hb_w2⟩; have hB_w2 : Below (w).heap.size (w) w2 := Below.trans (by (repeat (first | exact Below.refl _ _ | assumption | refine Below.setCell ?_ (by first | omega | (simp <;> omega)) _ | refine Below.alloc ?_ (by first | omega | (simp <;> omega)) _ | refine Below.drew ?_ | refine below_drewN' ?_ _))) (hb_w2.mono (by first | omega | (simp <;> omega))); obtain ⟨hc_w2, hf_w2⟩ := bcell hb_w2; have hz_w2 := hb_w2.size; (try simp only [zD, zN, zA, zS] at hz_w2); have hk := own6 hb_w2 (w.heap.size) (by (try simp only [zD, zN, zA, zS]); omega); obtain ⟨hl0_w2, hm0_w2, hn0_w2, hq0_w2, hr0_w2, hg0_w2⟩ := hk; have hk := own6 hb_w2 (w.heap.size + 1) (by (try simp only [zD, zN, zA, zS]); omega); obtain ⟨hl1_w2, hm1_w2, hn1_w2, hq1_w2, hr1_w2, hg1_w2⟩ := hk)
      | (go_at_call 94; (with_reducible refine (d_make_any _ _ _ _ (by first | exact hKs | exact hMs) hX).mono ?_); rintro e w3 ⟨rfl, hb_w3⟩; have hB_w3 : Below (w).heap.size (w) w3 := Below.trans (by (repeat (first | exact Below.refl _ _ | assumption | refine Below.setCell ?_ (by first | omega | (simp <;> omega)) _ | refine Below.alloc ?_ (by first | omega | (simp <;> omega)) _ | refine Below.drew ?_ | refine below_drewN' ?_ _))) (hb_w3.mono (by first | omega | (simp <;> omega))); obtain ⟨hc_w3, hf_w3⟩ := bcell hb_w3; have hz_w3 := hb_w3.size; (try simp only [zD, zN, zA, zS] at hz_w3); have hk := own6 hb_w3 (w.heap.size) (by (try simp only [zD, zN, zA, zS]); omega); obtain ⟨hl0_w3, hm0_w3, hn0_w3, hq0_w3, hr0_w3, hg0_w3⟩ := hk; have hk := own6 hb_w3 (w.heap.size + 1) (by (try simp only [zD, zN, zA, zS]); omega); obtain ⟨hl1_w3, hm1_w3, hn1_w3, hq1_w3, hr1_w3, hg1_w3⟩ := hk))
    · have hu : Dc.up n [] (Z.data.toList ++ s.data.toList) way = true := by assumption
      (refine bodyPost_ret (v := Dc.Res.val (Dc.mk n (Dc.more []) (x + (s.size : Int) - k))) (by (simp [results, Tryz.results66, go_sem, Dc.Res.val, hr0_w1, hl0_w1, hm0_w1, hn0_w1, hq0_w1, hr1_w1, hl1_w1, hm1_w1, hn1_w1, hq1_w1, hr0_w2, hl0_w2, hm0_w2, hn0_w2, hq0_w2, hr1_w2, hl1_w2, hm1_w2, hn1_w2, hq1_w2, hr0_w3, hl0_w3, hm0_w3, hn0_w3, hq0_w3, hr1_w3, hl1_w3, hm1_w3, hn1_w3, hq1_w3]; done)) rfl (RetB.of (by rw [HC.out, if_pos (by rw [HU.out]; exact hu)]) (by (repeat (first | exact Below.refl _ _ | assumption | refine Below.setCell ?_ (by first | omega | (simp <;> omega)) _ | refine Below.alloc ?_ (by first | omega | (simp <;> omega)) _ | refine Below.drew ?_ | refine below_drewN' ?_ _)))))
    · have hu : Dc.up n [] (Z.data.toList ++ s.data.toList) way = false := by assumption
      (refine bodyPost_ret (v := Dc.Res.val (Dc.mk n [] (x + (s.size : Int) - k))) (by (simp [results, Tryz.results66, go_sem, Dc.Res.val, hr0_w1, hl0_w1, hm0_w1, hn0_w1, hq0_w1, hr1_w1, hl1_w1, hm1_w1, hn1_w1, hq1_w1, hr0_w3, hl0_w3, hm0_w3, hn0_w3, hq0_w3, hr1_w3, hl1_w3, hm1_w3, hn1_w3, hq1_w3]; done)) rfl (RetB.of (by rw [HC.out, if_neg (by rw [HU.out, hu]; simp)]) (by (repeat (first | exact Below.refl _ _ | assumption | refine Below.setCell ?_ (by first | omega | (simp <;> omega)) _ | refine Below.alloc ?_ (by first | omega | (simp <;> omega)) _ | refine Below.drew ?_ | refine below_drewN' ?_ _)))))
  · obtain ⟨m, rfl⟩ : ∃ m : Nat, k = m := ⟨k.toNat, by omega⟩
    have hK : (s.extract 0 m).data.toList = s.data.toList.take m := by rw [Lib.extract_data, List.drop_zero, Nat.sub_zero]
    have hR : (s.extract m s.size).data.toList = s.data.toList.drop m := Lib.extract_to_end s m
    have hKs : (s.extract 0 m).size ≤ 1000000000 := by rw [ByteArray.size_extract]; omega
    have hKd : Dc.allDig (s.extract 0 m).data.toList = true := by rw [hK]; exact Dc.dig_take hd m
    have hMs : (⟨(Dc.more (s.extract 0 m).data.toList).toArray⟩ : ByteArray).size ≤ 1000000000 := by
      rw [size_mk, hK]; have := Dc.more_len (s.data.toList.take m); rw [List.length_take, bs_length] at this; omega
    have hX : -9223372036854775808 ≤ x + (s.size : Int) - m ∧ x + (s.size : Int) - m ≤ 9223372036854775807 := by omega
    have hC : Dc.cut n s.data.toList x m way = Dc.mk n (if Dc.up n (s.extract 0 m).data.toList (s.extract m s.size).data.toList way = true then Dc.more (s.extract 0 m).data.toList else (s.extract 0 m).data.toList) (x + s.size - m) := by
      have e0 : (if (m : Int) < 0 then 48 :: s.data.toList else s.data.toList.drop (m : Int).toNat) = s.data.toList.drop m := by rw [if_neg (by omega), Int.toNat_natCast]
      unfold Dc.cut
      simp only [e0]
      rw [bs_length, hK, hR, Int.toNat_natCast]
    obtain ⟨K, hKe⟩ : ∃ K, K = s.extract 0 m := ⟨_, rfl⟩
    obtain ⟨R, hRe⟩ : ∃ R, R = s.extract m s.size := ⟨_, rfl⟩
    rw [← hKe] at hKs hKd hMs hC
    rw [← hRe] at hC
    have hsl : ∀ w : World, (Instr.slice 9 (.string s) none (some (.int .i64 m)) none).run Tryz.prog w = .ok (.string K) w := fun w => by
      rw [hKe, run_slice_string_to_if w _ s .i64 m Tryz.underlying9, if_pos (by omega), Int.toNat_natCast]
    have hsr : ∀ w : World, (Instr.slice 9 (.string s) (some (.int .i64 m)) none none).run Tryz.prog w = .ok (.string R) w := fun w => by
      rw [hRe, run_slice_string_from_if w _ s .i64 m Tryz.underlying9, if_pos (by omega), Int.toNat_natCast]
    have HC := Lib.hid hC; clear hC hKe hRe hK hR
    go_enter Tryz.func66, Tryz.ntmps66
    go_wp2_with fail
    go_region_held3 (fun w' => w'.cell? ⟨w.heap.size, 1, none⟩ = some (.string s)) (first | go_keep | (rw [hr0_w1]; simp [go_sem])) (first | (go_at_call 74; (with_reducible refine (HP.out _ _ (by omega)).mono ?_); rintro e w1 ⟨rfl, hb_w1⟩; have hB_w1 : Below (w).heap.size (w) w1 := Below.trans (by (repeat (first | exact Below.refl _ _ | assumption | refine Below.setCell ?_ (by first | omega | (simp <;> omega)) _ | refine Below.alloc ?_ (by first | omega | (simp <;> omega)) _ | refine Below.drew ?_ | refine below_drewN' ?_ _))) (hb_w1.mono (by first | omega | (simp <;> omega))); obtain ⟨hc_w1, hf_w1⟩ := bcell hb_w1; have hz_w1 := hb_w1.size; (try simp only [zD, zN, zA, zS] at hz_w1); have hk := own6 hb_w1 (w.heap.size) (by (try simp only [zD, zN, zA, zS]); omega); obtain ⟨hl0_w1, hm0_w1, hn0_w1, hq0_w1, hr0_w1, hg0_w1⟩ := hk; have hk := own6 hb_w1 (w.heap.size + 1) (by (try simp only [zD, zN, zA, zS]); omega); obtain ⟨hl1_w1, hm1_w1, hn1_w1, hq1_w1, hr1_w1, hg1_w1⟩ := hk))
    go_wp2_with fail
    go_quiet (fail)
    go_wp2_with (first
      | (go_at_call 97; (with_reducible refine (d_up_any _ _ _ _ _ hKs hw).mono ?_); rintro e w' ⟨rfl, rfl⟩)
      | (go_at_call 98; (with_reducible refine (d_more_any _ _ hKs hKd).mono ?_); rintro e w2 ⟨rfl, hb_w2⟩; have hB_w2 : Below (w).heap.size (w) w2 := Below.trans (by (repeat (first | exact Below.refl _ _ | assumption | refine Below.setCell ?_ (by first | omega | (simp <;> omega)) _ | refine Below.alloc ?_ (by first | omega | (simp <;> omega)) _ | refine Below.drew ?_ | refine below_drewN' ?_ _))) (hb_w2.mono (by first | omega | (simp <;> omega))); obtain ⟨hc_w2, hf_w2⟩ := bcell hb_w2; have hz_w2 := hb_w2.size; (try simp only [zD, zN, zA, zS] at hz_w2); have hk := own6 hb_w2 (w.heap.size) (by (try simp only [zD, zN, zA, zS]); omega); obtain ⟨hl0_w2, hm0_w2, hn0_w2, hq0_w2, hr0_w2, hg0_w2⟩ := hk; have hk := own6 hb_w2 (w.heap.size + 1) (by (try simp only [zD, zN, zA, zS]); omega); obtain ⟨hl1_w2, hm1_w2, hn1_w2, hq1_w2, hr1_w2, hg1_w2⟩ := hk)
      | (go_at_call 94; (with_reducible refine (d_make_any _ _ _ _ (by first | exact hKs | exact hMs) hX).mono ?_); rintro e w3 ⟨rfl, hb_w3⟩; have hB_w3 : Below (w).heap.size (w) w3 := Below.trans (by (repeat (first | exact Below.refl _ _ | assumption | refine Below.setCell ?_ (by first | omega | (simp <;> omega)) _ | refine Below.alloc ?_ (by first | omega | (simp <;> omega)) _ | refine Below.drew ?_ | refine below_drewN' ?_ _))) (hb_w3.mono (by first | omega | (simp <;> omega))); obtain ⟨hc_w3, hf_w3⟩ := bcell hb_w3; have hz_w3 := hb_w3.size; (try simp only [zD, zN, zA, zS] at hz_w3); have hk := own6 hb_w3 (w.heap.size) (by (try simp only [zD, zN, zA, zS]); omega); obtain ⟨hl0_w3, hm0_w3, hn0_w3, hq0_w3, hr0_w3, hg0_w3⟩ := hk; have hk := own6 hb_w3 (w.heap.size + 1) (by (try simp only [zD, zN, zA, zS]); omega); obtain ⟨hl1_w3, hm1_w3, hn1_w3, hq1_w3, hr1_w3, hg1_w3⟩ := hk))
    · have hu : Dc.up n K.data.toList R.data.toList way = true := by assumption
      (refine bodyPost_ret (v := Dc.Res.val (Dc.mk n (Dc.more K.data.toList) (x + (s.size : Int) - m))) (by (simp [results, Tryz.results66, go_sem, Dc.Res.val, hr0_w1, hl0_w1, hm0_w1, hn0_w1, hq0_w1, hr1_w1, hl1_w1, hm1_w1, hn1_w1, hq1_w1, hr0_w2, hl0_w2, hm0_w2, hn0_w2, hq0_w2, hr1_w2, hl1_w2, hm1_w2, hn1_w2, hq1_w2, hr0_w3, hl0_w3, hm0_w3, hn0_w3, hq0_w3, hr1_w3, hl1_w3, hm1_w3, hn1_w3, hq1_w3]; done)) rfl (RetB.of (by rw [HC.out, if_pos hu]) (by (repeat (first | exact Below.refl _ _ | assumption | refine Below.setCell ?_ (by first | omega | (simp <;> omega)) _ | refine Below.alloc ?_ (by first | omega | (simp <;> omega)) _ | refine Below.drew ?_ | refine below_drewN' ?_ _)))))
    · have hu : Dc.up n K.data.toList R.data.toList way = false := by assumption
      (refine bodyPost_ret (v := Dc.Res.val (Dc.mk n K.data.toList (x + (s.size : Int) - m))) (by (simp [results, Tryz.results66, go_sem, Dc.Res.val, hr0_w1, hl0_w1, hm0_w1, hn0_w1, hq0_w1, hr1_w1, hl1_w1, hm1_w1, hn1_w1, hq1_w1, hr0_w3, hl0_w3, hm0_w3, hn0_w3, hq0_w3, hr1_w3, hl1_w3, hm1_w3, hn1_w3, hq1_w3]; done)) rfl (RetB.of (by rw [HC.out, if_neg (by rw [hu]; simp)]) (by (repeat (first | exact Below.refl _ _ | assumption | refine Below.setCell ?_ (by first | omega | (simp <;> omega)) _ | refine Below.alloc ?_ (by first | omega | (simp <;> omega)) _ | refine Below.drew ?_ | refine below_drewN' ?_ _)))))
theorem sig_bad {n : Bool} {l : Dc.Bs} {x k way : Int} (h : ¬ (Dc.right l x = true ∧ 0 ≤ way ∧ way ≤ 5 ∧ 1 ≤ k)) : Dc.sig n l x k way = ⟨false, [], 0, 1⟩ := by rw [Dc.sig, if_neg h]
theorem sig_same {n : Bool} {l : Dc.Bs} {x k way : Int} (h : Dc.right l x = true ∧ 0 ≤ way ∧ way ≤ 5 ∧ 1 ≤ k) (h2 : l.length ≤ k) : Dc.sig n l x k way = ⟨n, l, x, 0⟩ := by rw [Dc.sig, if_pos h, if_pos h2]
theorem sig_cut {n : Bool} {l : Dc.Bs} {x k way : Int} (h : Dc.right l x = true ∧ 0 ≤ way ∧ way ≤ 5 ∧ 1 ≤ k) (h2 : ¬ l.length ≤ k) : Dc.sig n l x k way = Dc.cut n l x k way := by rw [Dc.sig, if_pos h, if_neg h2]
theorem d_sig_any (n : Bool) (s : ByteArray) (x k way : Int) (w : World) (hs : s.size ≤ 1000000) (hx : -9223372036854775808 ≤ x ∧ x ≤ 9223372036854775807) (hk : -9223372036854775808 ≤ k ∧ k ≤ 9223372036854775807) :
    Calls Tryz.prog 31 #[.agg #[.bool n, .string s, .int .i64 x], .int .i64 k, .int .i64 way] w (RetB (Dc.sig n s.data.toList x k way).val w) := by
  obtain ⟨hk1, hk2⟩ := hk
  have hright := fun w => d_right_any n s x w (by omega)
  by_cases hok : Dc.right s.data.toList x = true ∧ 0 ≤ way ∧ way ≤ 5 ∧ 1 ≤ k
  · obtain ⟨h0, h1, h2, h3⟩ := id hok
    have hdx := Dc.right_exp h0
    have hdd := Dc.right_dig h0
    rw [h0] at hright
    have HR := Lib.hid hright; have HO := Lib.hid hok; have HD := Lib.hid hdd; clear hright hok h0 hdd
    by_cases hl : (s.size : Int) ≤ k
    · have hm := sig_same (n := n) HO.out (by rw [bs_length]; exact hl)
      have HM := Lib.hid hm; clear hm
      go_enter Tryz.func31, Tryz.ntmps31
      go_wp2_with (go_at_call 20; (with_reducible refine (HR.out _).mono ?_); rintro e w1 ⟨rfl, hb_w1⟩; have hB_w1 : Below (w).heap.size (w) w1 := Below.trans (by (repeat (first | exact Below.refl _ _ | assumption | refine Below.setCell ?_ (by first | omega | (simp <;> omega)) _ | refine Below.alloc ?_ (by first | omega | (simp <;> omega)) _ | refine Below.drew ?_ | refine below_drewN' ?_ _))) (hb_w1.mono (by first | omega | (simp <;> omega))); obtain ⟨hc_w1, hf_w1⟩ := bcell hb_w1; have hz_w1 := hb_w1.size; (try simp only [zD, zN, zA, zS] at hz_w1); have hk := own6 hb_w1 (w.heap.size) (by (try simp only [zD, zN, zA, zS]); omega); obtain ⟨hl0_w1, hm0_w1, hn0_w1, hq0_w1, hr0_w1, hg0_w1⟩ := hk; have hk := own6 hb_w1 (w.heap.size + 1) (by (try simp only [zD, zN, zA, zS]); omega); obtain ⟨hl1_w1, hm1_w1, hn1_w1, hq1_w1, hr1_w1, hg1_w1⟩ := hk)
      (refine bodyPost_ret (v := .tuple #[.agg #[.bool n, .string s, .int .i64 x], .int .i64 0]) (by (simp [results, Tryz.results31, go_sem, hr0_w1, hl0_w1, hm0_w1, hn0_w1, hq0_w1, hr1_w1, hl1_w1, hm1_w1, hn1_w1, hq1_w1]; done)) rfl (RetB.of (congrArg Dc.Res.val HM.out).symm (by (repeat (first | exact Below.refl _ _ | assumption | refine Below.setCell ?_ (by first | omega | (simp <;> omega)) _ | refine Below.alloc ?_ (by first | omega | (simp <;> omega)) _ | refine Below.drew ?_ | refine below_drewN' ?_ _)))))
    · have hm := sig_cut (n := n) HO.out (by rw [bs_length]; exact hl)
      have hcut := fun w => d_cut_any n s x k way w hs HD.out (by omega) (by omega) ⟨h1, h2⟩
      rw [← hm] at hcut
      have HC := Lib.hid hcut; clear hm hcut
      go_enter Tryz.func31, Tryz.ntmps31
      go_wp2_with (first
        | (go_at_call 20; (with_reducible refine (HR.out _).mono ?_); rintro e w1 ⟨rfl, hb_w1⟩; have hB_w1 : Below (w).heap.size (w) w1 := Below.trans (by (repeat (first | exact Below.refl _ _ | assumption | refine Below.setCell ?_ (by first | omega | (simp <;> omega)) _ | refine Below.alloc ?_ (by first | omega | (simp <;> omega)) _ | refine Below.drew ?_ | refine below_drewN' ?_ _))) (hb_w1.mono (by first | omega | (simp <;> omega))); obtain ⟨hc_w1, hf_w1⟩ := bcell hb_w1; have hz_w1 := hb_w1.size; (try simp only [zD, zN, zA, zS] at hz_w1); have hk := own6 hb_w1 (w.heap.size) (by (try simp only [zD, zN, zA, zS]); omega); obtain ⟨hl0_w1, hm0_w1, hn0_w1, hq0_w1, hr0_w1, hg0_w1⟩ := hk; have hk := own6 hb_w1 (w.heap.size + 1) (by (try simp only [zD, zN, zA, zS]); omega); obtain ⟨hl1_w1, hm1_w1, hn1_w1, hq1_w1, hr1_w1, hg1_w1⟩ := hk)
        | (go_at_call 66; (with_reducible refine (HC.out _).mono ?_); rintro e w3 ⟨rfl, hb_w3⟩; have hB_w3 : Below (w).heap.size (w) w3 := Below.trans (by (repeat (first | exact Below.refl _ _ | assumption | refine Below.setCell ?_ (by first | omega | (simp <;> omega)) _ | refine Below.alloc ?_ (by first | omega | (simp <;> omega)) _ | refine Below.drew ?_ | refine below_drewN' ?_ _))) (hb_w3.mono (by first | omega | (simp <;> omega))); obtain ⟨hc_w3, hf_w3⟩ := bcell hb_w3; have hz_w3 := hb_w3.size; (try simp only [zD, zN, zA, zS] at hz_w3); have hk := own6 hb_w3 (w.heap.size) (by (try simp only [zD, zN, zA, zS]); omega); obtain ⟨hl0_w3, hm0_w3, hn0_w3, hq0_w3, hr0_w3, hg0_w3⟩ := hk; have hk := own6 hb_w3 (w.heap.size + 1) (by (try simp only [zD, zN, zA, zS]); omega); obtain ⟨hl1_w3, hm1_w3, hn1_w3, hq1_w3, hr1_w3, hg1_w3⟩ := hk))
      (refine bodyPost_ret (v := Dc.Res.val (Dc.sig n s.data.toList x k way)) (by (simp [results, Tryz.results31, go_sem, Dc.Res.val, hr0_w1, hl0_w1, hm0_w1, hn0_w1, hq0_w1, hr1_w1, hl1_w1, hm1_w1, hn1_w1, hq1_w1, hr0_w3, hl0_w3, hm0_w3, hn0_w3, hq0_w3, hr1_w3, hl1_w3, hm1_w3, hn1_w3, hq1_w3]; done)) rfl (RetB.of rfl (by (repeat (first | exact Below.refl _ _ | assumption | refine Below.setCell ?_ (by first | omega | (simp <;> omega)) _ | refine Below.alloc ?_ (by first | omega | (simp <;> omega)) _ | refine Below.drew ?_ | refine below_drewN' ?_ _)))))
  · have hm := sig_bad (n := n) hok
    obtain ⟨b, hb⟩ : ∃ b, b = Dc.right s.data.toList x := ⟨_, rfl⟩
    rw [← hb] at hright hok
    have HR := Lib.hid hright; have HM := Lib.hid hm; clear hright hm hb
    cases b
    · clear hok
      go_enter Tryz.func31, Tryz.ntmps31
      go_wp2_with (go_at_call 20; (with_reducible refine (HR.out _).mono ?_); rintro e w1 ⟨rfl, hb_w1⟩; have hB_w1 : Below (w).heap.size (w) w1 := Below.trans (by (repeat (first | exact Below.refl _ _ | assumption | refine Below.setCell ?_ (by first | omega | (simp <;> omega)) _ | refine Below.alloc ?_ (by first | omega | (simp <;> omega)) _ | refine Below.drew ?_ | refine below_drewN' ?_ _))) (hb_w1.mono (by first | omega | (simp <;> omega))); obtain ⟨hc_w1, hf_w1⟩ := bcell hb_w1; have hz_w1 := hb_w1.size; (try simp only [zD, zN, zA, zS] at hz_w1); have hk := own6 hb_w1 (w.heap.size) (by (try simp only [zD, zN, zA, zS]); omega); obtain ⟨hl0_w1, hm0_w1, hn0_w1, hq0_w1, hr0_w1, hg0_w1⟩ := hk; have hk := own6 hb_w1 (w.heap.size + 1) (by (try simp only [zD, zN, zA, zS]); omega); obtain ⟨hl1_w1, hm1_w1, hn1_w1, hq1_w1, hr1_w1, hg1_w1⟩ := hk)
      all_goals (refine bodyPost_ret (v := .tuple #[.agg #[.bool false, .string ⟨#[]⟩, .int .i64 0], .int .i64 1]) (by (simp [results, Tryz.results31, go_sem, hr0_w1, hl0_w1, hm0_w1, hn0_w1, hq0_w1, hr1_w1, hl1_w1, hm1_w1, hn1_w1, hq1_w1]; done)) rfl (RetB.of (congrArg Dc.Res.val HM.out).symm (by (repeat (first | exact Below.refl _ _ | assumption | refine Below.setCell ?_ (by first | omega | (simp <;> omega)) _ | refine Below.alloc ?_ (by first | omega | (simp <;> omega)) _ | refine Below.drew ?_ | refine below_drewN' ?_ _)))))
    · have hn : ¬ (0 ≤ way ∧ way ≤ 5 ∧ 1 ≤ k) := fun h => hok ⟨rfl, h⟩
      have HN := Lib.hid hn; clear hok hn
      go_enter Tryz.func31, Tryz.ntmps31
      go_wp2_with (go_at_call 20; (with_reducible refine (HR.out _).mono ?_); rintro e w1 ⟨rfl, hb_w1⟩; have hB_w1 : Below (w).heap.size (w) w1 := Below.trans (by (repeat (first | exact Below.refl _ _ | assumption | refine Below.setCell ?_ (by first | omega | (simp <;> omega)) _ | refine Below.alloc ?_ (by first | omega | (simp <;> omega)) _ | refine Below.drew ?_ | refine below_drewN' ?_ _))) (hb_w1.mono (by first | omega | (simp <;> omega))); obtain ⟨hc_w1, hf_w1⟩ := bcell hb_w1; have hz_w1 := hb_w1.size; (try simp only [zD, zN, zA, zS] at hz_w1); have hk := own6 hb_w1 (w.heap.size) (by (try simp only [zD, zN, zA, zS]); omega); obtain ⟨hl0_w1, hm0_w1, hn0_w1, hq0_w1, hr0_w1, hg0_w1⟩ := hk; have hk := own6 hb_w1 (w.heap.size + 1) (by (try simp only [zD, zN, zA, zS]); omega); obtain ⟨hl1_w1, hm1_w1, hn1_w1, hq1_w1, hr1_w1, hg1_w1⟩ := hk)
      all_goals first
        | (exfalso; exact HN.out (by omega))
        | (refine bodyPost_ret (v := .tuple #[.agg #[.bool false, .string ⟨#[]⟩, .int .i64 0], .int .i64 1]) (by (simp [results, Tryz.results31, go_sem, hr0_w1, hl0_w1, hm0_w1, hn0_w1, hq0_w1, hr1_w1, hl1_w1, hm1_w1, hn1_w1, hq1_w1]; done)) rfl (RetB.of (congrArg Dc.Res.val HM.out).symm (by (repeat (first | exact Below.refl _ _ | assumption | refine Below.setCell ?_ (by first | omega | (simp <;> omega)) _ | refine Below.alloc ?_ (by first | omega | (simp <;> omega)) _ | refine Below.drew ?_ | refine below_drewN' ?_ _)))))
end Go.Proofs.YtiglekomfgfilaaGreatDoor

namespace Go.Proofs.YtiglekomfgfilaaGreatDoor
set_option linter.all false
open Go.RowKit
end Go.Proofs.YtiglekomfgfilaaGreatDoor

namespace Go.Proofs.YtiglekomfgfilaaGreatDoor
set_option linter.all false
open Go.RowKit
attribute [local go_sem] Dc.Res.val
end Go.Proofs.YtiglekomfgfilaaGreatDoor
