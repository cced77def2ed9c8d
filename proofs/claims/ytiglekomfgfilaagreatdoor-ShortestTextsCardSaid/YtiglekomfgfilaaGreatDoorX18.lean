import Derived.Test.YtiglekomfgfilaaGreatDoorX17
import Derived.Deep.RegionWith
import Derived.Deep.RegionHeld3
import Derived.Test.YtiglekomfgfilaaGreatDoorX1
import Derived.Test.YtiglekomfgfilaaGreatDoorX5
import Derived.Test.YtiglekomfgfilaaGreatDoorX7
namespace Go.Proofs.YtiglekomfgfilaaGreatDoor
set_option maxRecDepth 100000
set_option maxHeartbeats 1000000
set_option linter.all false
open Go.RowKit
attribute [local go_sem] Dc.Res.val
theorem rep0i (k : Int) (w : World) (hk : 0 ≤ k ∧ k ≤ 1000000000) : Calls Tryz.prog 74 #[.string ⟨#[48]⟩, .int .i64 k] w (RetB (.string ⟨(Lib.repeatL [48] k.toNat).toArray⟩) w) := by
  have := rep0 k.toNat w (by omega)
  rwa [Int.toNat_of_nonneg hk.1] at this
theorem d_cut_any (n : Bool) (s : ByteArray) (x k way : Int) (w : World) (hs : s.size ≤ 1000000) (hd : Dc.allDig s.data.toList = true) (hx : -1000000 ≤ x ∧ x ≤ 1000000) (hk : -1000000 ≤ k ∧ k ≤ s.size) (hw : 0 ≤ way ∧ way ≤ 5) :
    Calls Tryz.prog 66 #[.agg #[.bool n, .string s, .int .i64 x], .int .i64 k, .int .i64 way] w (RetB (Dc.cut n s.data.toList x k way).val w) := by
  obtain ⟨hx1, hx2⟩ := hx
  obtain ⟨hk1, hk2⟩ := hk
  have hkt := fun h => Dc.cut_rest s k h
  obtain ⟨Z, hZ⟩ : ∃ Z : ByteArray, Z = ⟨(Lib.repeatL [48] (max 0 (min (-k) 1)).toNat).toArray⟩ := ⟨_, rfl⟩
  have hzs : Z.size ≤ 1 := by rw [hZ, size_mk, Lib.repeatL_length]; simp; omega
  have hrep : ∀ m w, m = max 0 (min (-k) 1) → Calls Tryz.prog 74 #[.string ⟨#[48]⟩, .int .i64 m] w (RetB (.string Z) w) := fun m w hm => by rw [hm, hZ]; exact rep0i _ w (by omega)
  have HP := Lib.hid hrep; have HZ := Lib.hid hZ; have HKT := Lib.hid hkt; clear hrep hZ hkt
  have hadd : ∀ w : World, (Op.stringOp .add Z s).run Tryz.prog w = .ok (.string (Z ++ s)) w := fun w => run_string_add_sum w Z s (by omega)
  have hwr : IntKind.i64.wrap (-k) = -k := IntWalk.i64_in _ (by omega)
  by_cases hneg : k ≤ 0
  · go_enter Tryz.func66, Tryz.ntmps66
    go_wp2_with fail
    go_region_held3 (fun w' => w'.cell? ⟨w.heap.size, 1, none⟩ = some (.string s)) (first | go_keep | (rw [hr0_w1]; simp [go_sem])) (first | (go_at_call 74; (with_reducible refine (HP.out _ _ (by omega)).mono ?_); rintro e w1 ⟨rfl, hb_w1⟩; have hB_w1 : Below (w).heap.size (w) w1 := Below.trans (by (repeat (first | exact Below.refl _ _ | assumption | refine Below.setCell ?_ (by first | omega | (simp <;> omega)) _ | refine Below.alloc ?_ (by first | omega | (simp <;> omega)) _ | refine Below.drew ?_ | refine below_drewN' ?_ _))) (hb_w1.mono (by first | omega | (simp <;> omega))); obtain ⟨hc_w1, hf_w1⟩ := bcell hb_w1; have hz_w1 := hb_w1.size; (try simp only [zD, zN, zA, zS] at hz_w1); have hk := own6 hb_w1 (w.heap.size) (by (try simp only [zD, zN, zA, zS]); omega); obtain ⟨hl0_w1, hm0_w1, hn0_w1, hq0_w1, hr0_w1, hg0_w1⟩ := hk; have hk := own6 hb_w1 (w.heap.size + 1) (by (try simp only [zD, zN, zA, zS]); omega); obtain ⟨hl1_w1, hm1_w1, hn1_w1, hq1_w1, hr1_w1, hg1_w1⟩ := hk))
    have hU : Dc.up n (s.data.toList.take k.toNat) (if k < 0 then 48 :: s.data.toList else s.data.toList.drop k.toNat) way = Dc.up n [] (Z.data.toList ++ s.data.toList) way := by
      have e := congrArg (fun b : ByteArray => b.data.toList) (HKT.out hneg)
      simp only [← HZ.out] at e
      rw [show k.toNat = 0 by omega, List.take_zero, ← show k.toNat = 0 by omega]
      congr 1
      rw [← e]; simp
    have hC : Dc.cut n s.data.toList x k way = Dc.mk n (if Dc.up n (s.data.toList.take k.toNat) (if k < 0 then 48 :: s.data.toList else s.data.toList.drop k.toNat) way = true then Dc.more [] else []) (x + s.size - k) := by
      rw [Dc.cut, bs_length, show List.take k.toNat s.data.toList = [] by rw [show k.toNat = 0 by omega, List.take_zero]]
    have HU := Lib.hid hU; have HC := Lib.hid hC; clear hU hC
    have hKs : (⟨#[]⟩ : ByteArray).size ≤ 1000000000 := by decide
    have hKd : Dc.allDig (⟨#[]⟩ : ByteArray).data.toList = true := by decide
    have hMs : (⟨(Dc.more (⟨#[]⟩ : ByteArray).data.toList).toArray⟩ : ByteArray).size ≤ 1000000000 := by decide +kernel
    have hX : -9223372036854775808 ≤ x + (s.size : Int) - k ∧ x + (s.size : Int) - k ≤ 9223372036854775807 := by omega
    go_wp2_with (first
      | (go_at_call 97; (with_reducible refine (d_up_any _ _ _ _ _ hKs hw).mono ?_); rintro e w' ⟨rfl, rfl⟩)
      | (go_at_call 98; (with_reducible refine (d_more_any _ _ hKs hKd).mono ?_); rintro e w2 ⟨rfl, hb_w2⟩; have hB_w2 : Below (w).heap.size (w) w2 := Below.trans (by (repeat (first | exact Below.refl _ _ | assumption | refine Below.setCell ?_ (by first | omega | (simp <;> omega)) _ | refine Below.alloc ?_ (by first | omega | (simp <;> omega)) _ | refine Below.drew ?_ | refine below_drewN' ?_ _))) (hb_w2.mono (by first | omega | (simp <;> omega))); obtain ⟨hc_w2, hf_w2⟩ := bcell hb_w2; have hz_w2 := hb_w2.size; (try simp only [zD, zN, zA, zS] at hz_w2); have hk := own6 hb_w2 (w.heap.size) (by (try simp only [zD, zN, zA, zS]); omega); obtain ⟨hl0_w2, hm0_w2, hn0_w2, hq0_w2, hr0_w2, hg0_w2⟩ := hk; have hk := own6 hb_w2 (w.heap.size + 1) (by (try simp only [zD, zN, zA, zS]); omega); obtain ⟨hl1_w2, hm1_w2, hn1_w2, hq1_w2, hr1_w2, hg1_w2⟩ := hk)
      | (go_at_call 94; (with_reducible refine (d_make_any _ _ _ _ (by first | exact hKs | exact hMs) hX).mono ?_); rintro e w3 ⟨rfl, hb_w3⟩; have hB_w3 : Below (w).heap.size (w) w3 := Below.trans (by (repeat (first | exact Below.refl _ _ | assumption | refine Below.setCell ?_ (by first | omega | (simp <;> omega)) _ | refine Below.alloc ?_ (by first | omega | (simp <;> omega)) _ | refine Below.drew ?_ | refine below_drewN' ?_ _))) (hb_w3.mono (by first | omega | (simp <;> omega))); obtain ⟨hc_w3, hf_w3⟩ := bcell hb_w3; have hz_w3 := hb_w3.size; (try simp only [zD, zN, zA, zS] at hz_w3); have hk := own6 hb_w3 (w.heap.size) (by (try simp only [zD, zN, zA, zS]); omega); obtain ⟨hl0_w3, hm0_w3, hn0_w3, hq0_w3, hr0_w3, hg0_w3⟩ := hk; have hk := own6 hb_w3 (w.heap.size + 1) (by (try simp only [zD, zN, zA, zS]); omega); obtain ⟨hl1_w3, hm1_w3, hn1_w3, hq1_w3, hr1_w3, hg1_w3⟩ := hk))
    · have hu : Dc.up n [] (Z.data.toList ++ s.data.toList) way = true := by assumption
      (refine bodyPost_ret (v := Dc.Res.val (Dc.mk n (Dc.more []) (x + (s.size : Int) - k))) (by (simp [results, Tryz.results66, go_sem, Dc.Res.val, hr0_w1, hl0_w1, hm0_w1, hn0_w1, hq0_w1, hr1_w1, hl1_w1, hm1_w1, hn1_w1, hq1_w1, hr0_w2, hl0_w2, hm0_w2, hn0_w2, hq0_w2, hr1_w2, hl1_w2, hm1_w2, hn1_w2, hq1_w2, hr0_w3, hl0_w3, hm0_w3, hn0_w3, hq0_w3, hr1_w3, hl1_w3, hm1_w3, hn1_w3, hq1_w3]; done)) rfl (RetB.of (by rw [HC.out, if_pos (by rw [HU.out]; exact hu)]) (by (repeat (first | exact Below.refl _ _ | assumption | refine Below.setCell ?_ (by first | omega | (simp <;> omega)) _ | refine Below.alloc ?_ (by first | omega | (simp <;> omega)) _ | refine Below.drew ?_ | refine below_drewN' ?_ _)))))
    · have hu : Dc.up n [] (Z.data.toList ++ s.data.toList) way = false := by assumption
      (refine bodyPost_ret (v := Dc.Res.val (Dc.mk n [] (x + (s.size : Int) - k))) (by (simp [results, Tryz.results66, go_sem, Dc.Res.val, hr0_w1, hl0_w1, hm0_w1, hn0_w1, hq0_w1, hr1_w1, hl1_w1, hm1_w1, hn1_w1, hq1_w1, hr0_w3, hl0_w3, hm0_w3, hn0_w3, hq0_w3, hr1_w3, hl1_w3, hm1_w3, hn1_w3, hq1_w3]; done)) rfl (RetB.of (by rw [HC.out, if_neg (by rw [HU.out, hu]; simp)]) (by (repeat (first | exact Below.refl _ _ | assumption | refine Below.setCell ?_ (by first | omega | (simp <;> omega)) _ | refine Below.alloc ?_ (by first | omega | (simp <;> omega)) _ | refine Below.drew ?_ | refine below_drewN' ?_ _)))))
  · obtain ⟨m, rfl⟩ : ∃ m : Nat, k = m := ⟨k.toNat, by omega⟩
    have hK : (s.extract 0 m).data.toList = s.data.toList.take m := by rw [Lib.extract_data, List.drop_zero, Nat.sub_zero]
    have hR : (s.extract m s.size).data.toList = s.data.toList.drop m := Lib.extract_to_end s m
    have hKs : (s.extract 0 m).size ≤ 1000000000 := by rw [ByteArray.size_extract]; omega
    have hKd : Dc.allDig (s.extract 0 m).data.toList = true := by rw [hK]; exact Dc.dig_take hd m
    have hMs : (⟨(Dc.more (s.extract 0 m).data.toList).toArray⟩ : ByteArray).size ≤ 1000000000 := by
      rw [size_mk, hK]; have := Dc.more_len (s.data.toList.take m); rw [List.length_take, bs_length] at this; omega
    have hX : -9223372036854775808 ≤ x + (s.size : Int) - m ∧ x + (s.size : Int) - m ≤ 9223372036854775807 := by omega
    have hC : Dc.cut n s.data.toList x m way = Dc.mk n (if Dc.up n (s.extract 0 m).data.toList (s.extract m s.size).data.toList way = true then Dc.more (s.extract 0 m).data.toList else (s.extract 0 m).data.toList) (x + s.size - m) := by
      have e0 : (if (m : Int) < 0 then 48 :: s.data.toList else s.data.toList.drop (m : Int).toNat) = s.data.toList.drop m := by rw [if_neg (by omega), Int.toNat_natCast]
      unfold Dc.cut
      simp only [e0]
      rw [bs_length, hK, hR, Int.toNat_natCast]
    obtain ⟨K, hKe⟩ : ∃ K, K = s.extract 0 m := ⟨_, rfl⟩
    obtain ⟨R, hRe⟩ : ∃ R, R = s.extract m s.size := ⟨_, rfl⟩
    rw [← hKe] at hKs hKd hMs hC
    rw [← hRe] at hC
    have hsl : ∀ w : World, (Instr.slice 9 (.string s) none (some (.int .i64 m)) none).run Tryz.prog w = .ok (.string K) w := fun w => by
      rw [hKe, run_slice_string_to_if w _ s .i64 m Tryz.underlying9, if_pos (by omega), Int.toNat_natCast]
    have hsr : ∀ w : World, (Instr.slice 9 (.string s) (some (.int .i64 m)) none none).run Tryz.prog w = .ok (.string R) w := fun w => by
      rw [hRe, run_slice_string_from_if w _ s .i64 m Tryz.underlying9, if_pos (by omega), Int.toNat_natCast]
    have HC := Lib.hid hC; clear hC hKe hRe hK hR
    go_enter Tryz.func66, Tryz.ntmps66
    go_wp2_with fail
    go_region_held3 (fun w' => w'.cell? ⟨w.heap.size, 1, none⟩ = some (.string s)) (first | go_keep | (rw [hr0_w1]; simp [go_sem])) (first | (go_at_call 74; (with_reducible refine (HP.out _ _ (by omega)).mono ?_); rintro e w1 ⟨rfl, hb_w1⟩; have hB_w1 : Below (w).heap.size (w) w1 := Below.trans (by (repeat (first | exact Below.refl _ _ | assumption | refine Below.setCell ?_ (by first | omega | (simp <;> omega)) _ | refine Below.alloc ?_ (by first | omega | (simp <;> omega)) _ | refine Below.drew ?_ | refine below_drewN' ?_ _))) (hb_w1.mono (by first | omega | (simp <;> omega))); obtain ⟨hc_w1, hf_w1⟩ := bcell hb_w1; have hz_w1 := hb_w1.size; (try simp only [zD, zN, zA, zS] at hz_w1); have hk := own6 hb_w1 (w.heap.size) (by (try simp only [zD, zN, zA, zS]); omega); obtain ⟨hl0_w1, hm0_w1, hn0_w1, hq0_w1, hr0_w1, hg0_w1⟩ := hk; have hk := own6 hb_w1 (w.heap.size + 1) (by (try simp only [zD, zN, zA, zS]); omega); obtain ⟨hl1_w1, hm1_w1, hn1_w1, hq1_w1, hr1_w1, hg1_w1⟩ := hk))
    go_wp2_with fail
    go_quiet (fail)
    go_wp2_with (first
      | (go_at_call 97; (with_reducible refine (d_up_any _ _ _ _ _ hKs hw).mono ?_); rintro e w' ⟨rfl, rfl⟩)
      | (go_at_call 98; (with_reducible refine (d_more_any _ _ hKs hKd).mono ?_); rintro e w2 ⟨rfl, hb_w2⟩; have hB_w2 : Below (w).heap.size (w) w2 := Below.trans (by (repeat (first | exact Below.refl _ _ | assumption | refine Below.setCell ?_ (by first | omega | (simp <;> omega)) _ | refine Below.alloc ?_ (by first | omega | (simp <;> omega)) _ | refine Below.drew ?_ | refine below_drewN' ?_ _))) (hb_w2.mono (by first | omega | (simp <;> omega))); obtain ⟨hc_w2, hf_w2⟩ := bcell hb_w2; have hz_w2 := hb_w2.size; (try simp only [zD, zN, zA, zS] at hz_w2); have hk := own6 hb_w2 (w.heap.size) (by (try simp only [zD, zN, zA, zS]); omega); obtain ⟨hl0_w2, hm0_w2, hn0_w2, hq0_w2, hr0_w2, hg0_w2⟩ := hk; have hk := own6 hb_w2 (w.heap.size + 1) (by (try simp only [zD, zN, zA, zS]); omega); obtain ⟨hl1_w2, hm1_w2, hn1_w2, hq1_w2, hr1_w2, hg1_w2⟩ := hk)
      | (go_at_call 94; (with_reducible refine (d_make_any _ _ _ _ (by first | exact hKs | exact hMs) hX).mono ?_); rintro e w3 ⟨rfl, hb_w3⟩; have hB_w3 : Below (w).heap.size (w) w3 := Below.trans (by (repeat (first | exact Below.refl _ _ | assumption | refine Below.setCell ?_ (by first | omega | (simp <;> omega)) _ | refine Below.alloc ?_ (by first | omega | (simp <;> omega)) _ | refine Below.drew ?_ | refine below_drewN' ?_ _))) (hb_w3.mono (by first | omega | (simp <;> omega))); obtain ⟨hc_w3, hf_w3⟩ := bcell hb_w3; have hz_w3 := hb_w3.size; (try simp only [zD, zN, zA, zS] at hz_w3); have hk := own6 hb_w3 (w.heap.size) (by (try simp only [zD, zN, zA, zS]); omega); obtain ⟨hl0_w3, hm0_w3, hn0_w3, hq0_w3, hr0_w3, hg0_w3⟩ := hk; have hk := own6 hb_w3 (w.heap.size + 1) (by (try simp only [zD, zN, zA, zS]); omega); obtain ⟨hl1_w3, hm1_w3, hn1_w3, hq1_w3, hr1_w3, hg1_w3⟩ := hk))
    · have hu : Dc.up n K.data.toList R.data.toList way = true := by assumption
      (refine bodyPost_ret (v := Dc.Res.val (Dc.mk n (Dc.more K.data.toList) (x + (s.size : Int) - m))) (by (simp [results, Tryz.results66, go_sem, Dc.Res.val, hr0_w1, hl0_w1, hm0_w1, hn0_w1, hq0_w1, hr1_w1, hl1_w1, hm1_w1, hn1_w1, hq1_w1, hr0_w2, hl0_w2, hm0_w2, hn0_w2, hq0_w2, hr1_w2, hl1_w2, hm1_w2, hn1_w2, hq1_w2, hr0_w3, hl0_w3, hm0_w3, hn0_w3, hq0_w3, hr1_w3, hl1_w3, hm1_w3, hn1_w3, hq1_w3]; done)) rfl (RetB.of (by rw [HC.out, if_pos hu]) (by (repeat (first | exact Below.refl _ _ | assumption | refine Below.setCell ?_ (by first | omega | (simp <;> omega)) _ | refine Below.alloc ?_ (by first | omega | (simp <;> omega)) _ | refine Below.drew ?_ | refine below_drewN' ?_ _)))))
    · have hu : Dc.up n K.data.toList R.data.toList way = false := by assumption
      (refine bodyPost_ret (v := Dc.Res.val (Dc.mk n K.data.toList (x + (s.size : Int) - m))) (by (simp [results, Tryz.results66, go_sem, Dc.Res.val, hr0_w1, hl0_w1, hm0_w1, hn0_w1, hq0_w1, hr1_w1, hl1_w1, hm1_w1, hn1_w1, hq1_w1, hr0_w3, hl0_w3, hm0_w3, hn0_w3, hq0_w3, hr1_w3, hl1_w3, hm1_w3, hn1_w3, hq1_w3]; done)) rfl (RetB.of (by rw [HC.out, if_neg (by rw [hu]; simp)]) (by (repeat (first | exact Below.refl _ _ | assumption | refine Below.setCell ?_ (by first | omega | (simp <;> omega)) _ | refine Below.alloc ?_ (by first | omega | (simp <;> omega)) _ | refine Below.drew ?_ | refine below_drewN' ?_ _)))))
theorem sig_bad {n : Bool} {l : Dc.Bs} {x k way : Int} (h : ¬ (Dc.right l x = true ∧ 0 ≤ way ∧ way ≤ 5 ∧ 1 ≤ k)) : Dc.sig n l x k way = ⟨false, [], 0, 1⟩ := by rw [Dc.sig, if_neg h]
theorem sig_same {n : Bool} {l : Dc.Bs} {x k way : Int} (h : Dc.right l x = true ∧ 0 ≤ way ∧ way ≤ 5 ∧ 1 ≤ k) (h2 : l.length ≤ k) : Dc.sig n l x k way = ⟨n, l, x, 0⟩ := by rw [Dc.sig, if_pos h, if_pos h2]
theorem sig_cut {n : Bool} {l : Dc.Bs} {x k way : Int} (h : Dc.right l x = true ∧ 0 ≤ way ∧ way ≤ 5 ∧ 1 ≤ k) (h2 : ¬ l.length ≤ k) : Dc.sig n l x k way = Dc.cut n l x k way := by rw [Dc.sig, if_pos h, if_neg h2]
theorem d_sig_any (n : Bool) (s : ByteArray) (x k way : Int) (w : World) (hs : s.size ≤ 1000000) (hx : -9223372036854775808 ≤ x ∧ x ≤ 9223372036854775807) (hk : -9223372036854775808 ≤ k ∧ k ≤ 9223372036854775807) :
    Calls Tryz.prog 31 #[.agg #[.bool n, .string s, .int .i64 x], .int .i64 k, .int .i64 way] w (RetB (Dc.sig n s.data.toList x k way).val w) := by
  obtain ⟨hk1, hk2⟩ := hk
  have hright := fun w => d_right_any n s x w (by omega)
  by_cases hok : Dc.right s.data.toList x = true ∧ 0 ≤ way ∧ way ≤ 5 ∧ 1 ≤ k
  · obtain ⟨h0, h1, h2, h3⟩ := id hok
    have hdx := Dc.right_exp h0
    have hdd := Dc.right_dig h0
    rw [h0] at hright
    have HR := Lib.hid hright; have HO := Lib.hid hok; have HD := Lib.hid hdd; clear hright hok h0 hdd
    by_cases hl : (s.size : Int) ≤ k
    · have hm := sig_same (n := n) HO.out (by rw [bs_length]; exact hl)
      have HM := Lib.hid hm; clear hm
      go_enter Tryz.func31, Tryz.ntmps31
      go_wp2_with (go_at_call 20; (with_reducible refine (HR.out _).mono ?_); rintro e w1 ⟨rfl, hb_w1⟩; have hB_w1 : Below (w).heap.size (w) w1 := Below.trans (by (repeat (first | exact Below.refl _ _ | assumption | refine Below.setCell ?_ (by first | omega | (simp <;> omega)) _ | refine Below.alloc ?_ (by first | omega | (simp <;> omega)) _ | refine Below.drew ?_ | refine below_drewN' ?_ _))) (hb_w1.mono (by first | omega | (simp <;> omega))); obtain ⟨hc_w1, hf_w1⟩ := bcell hb_w1; have hz_w1 := hb_w1.size; (try simp only [zD, zN, zA, zS] at hz_w1); have hk := own6 hb_w1 (w.heap.size) (by (try simp only [zD, zN, zA, zS]); omega); obtain ⟨hl0_w1, hm0_w1, hn0_w1, hq0_w1, hr0_w1, hg0_w1⟩ := hk; have hk := own6 hb_w1 (w.heap.size + 1) (by (try simp only [zD, zN, zA, zS]); omega); obtain ⟨hl1_w1, hm1_w1, hn1_w1, hq1_w1, hr1_w1, hg1_w1⟩ := hk)
      (refine bodyPost_ret (v := .tuple #[.agg #[.bool n, .string s, .int .i64 x], .int .i64 0]) (by (simp [results, Tryz.results31, go_sem, hr0_w1, hl0_w1, hm0_w1, hn0_w1, hq0_w1, hr1_w1, hl1_w1, hm1_w1, hn1_w1, hq1_w1]; done)) rfl (RetB.of (congrArg Dc.Res.val HM.out).symm (by (repeat (first | exact Below.refl _ _ | assumption | refine Below.setCell ?_ (by first | omega | (simp <;> omega)) _ | refine Below.alloc ?_ (by first | omega | (simp <;> omega)) _ | refine Below.drew ?_ | refine below_drewN' ?_ _)))))
    · have hm := sig_cut (n := n) HO.out (by rw [bs_length]; exact hl)
      have hcut := fun w => d_cut_any n s x k way w hs HD.out (by omega) (by omega) ⟨h1, h2⟩
      rw [← hm] at hcut
      have HC := Lib.hid hcut; clear hm hcut
      go_enter Tryz.func31, Tryz.ntmps31
      go_wp2_with (first
        | (go_at_call 20; (with_reducible refine (HR.out _).mono ?_); rintro e w1 ⟨rfl, hb_w1⟩; have hB_w1 : Below (w).heap.size (w) w1 := Below.trans (by (repeat (first | exact Below.refl _ _ | assumption | refine Below.setCell ?_ (by first | omega | (simp <;> omega)) _ | refine Below.alloc ?_ (by first | omega | (simp <;> omega)) _ | refine Below.drew ?_ | refine below_drewN' ?_ _))) (hb_w1.mono (by first | omega | (simp <;> omega))); obtain ⟨hc_w1, hf_w1⟩ := bcell hb_w1; have hz_w1 := hb_w1.size; (try simp only [zD, zN, zA, zS] at hz_w1); have hk := own6 hb_w1 (w.heap.size) (by (try simp only [zD, zN, zA, zS]); omega); obtain ⟨hl0_w1, hm0_w1, hn0_w1, hq0_w1, hr0_w1, hg0_w1⟩ := hk; have hk := own6 hb_w1 (w.heap.size + 1) (by (try simp only [zD, zN, zA, zS]); omega); obtain ⟨hl1_w1, hm1_w1, hn1_w1, hq1_w1, hr1_w1, hg1_w1⟩ := hk)
        | (go_at_call 66; (with_reducible refine (HC.out _).mono ?_); rintro e w3 ⟨rfl, hb_w3⟩; have hB_w3 : Below (w).heap.size (w) w3 := Below.trans (by (repeat (first | exact Below.refl _ _ | assumption | refine Below.setCell ?_ (by first | omega | (simp <;> omega)) _ | refine Below.alloc ?_ (by first | omega | (simp <;> omega)) _ | refine Below.drew ?_ | refine below_drewN' ?_ _))) (hb_w3.mono (by first | omega | (simp <;> omega))); obtain ⟨hc_w3, hf_w3⟩ := bcell hb_w3; have hz_w3 := hb_w3.size; (try simp only [zD, zN, zA, zS] at hz_w3); have hk := own6 hb_w3 (w.heap.size) (by (try simp only [zD, zN, zA, zS]); omega); obtain ⟨hl0_w3, hm0_w3, hn0_w3, hq0_w3, hr0_w3, hg0_w3⟩ := hk; have hk := own6 hb_w3 (w.heap.size + 1) (by (try simp only [zD, zN, zA, zS]); omega); obtain ⟨hl1_w3, hm1_w3, hn1_w3, hq1_w3, hr1_w3, hg1_w3⟩ := hk))
      (refine bodyPost_ret (v := Dc.Res.val (Dc.sig n s.data.toList x k way)) (by (simp [results, Tryz.results31, go_sem, Dc.Res.val, hr0_w1, hl0_w1, hm0_w1, hn0_w1, hq0_w1, hr1_w1, hl1_w1, hm1_w1, hn1_w1, hq1_w1, hr0_w3, hl0_w3, hm0_w3, hn0_w3, hq0_w3, hr1_w3, hl1_w3, hm1_w3, hn1_w3, hq1_w3]; done)) rfl (RetB.of rfl (by (repeat (first | exact Below.refl _ _ | assumption | refine Below.setCell ?_ (by first | omega | (simp <;> omega)) _ | refine Below.alloc ?_ (by first | omega | (simp <;> omega)) _ | refine Below.drew ?_ | refine below_drewN' ?_ _)))))
  · have hm := sig_bad (n := n) hok
    obtain ⟨b, hb⟩ : ∃ b, b = Dc.right s.data.toList x := ⟨_, rfl⟩
    rw [← hb] at hright hok
    have HR := Lib.hid hright; have HM := Lib.hid hm; clear hright hm hb
    cases b
    · clear hok
      go_enter Tryz.func31, Tryz.ntmps31
      go_wp2_with (go_at_call 20; (with_reducible refine (HR.out _).mono ?_); rintro e w1 ⟨rfl, hb_w1⟩; have hB_w1 : Below (w).heap.size (w) w1 := Below.trans (by (repeat (first | exact Below.refl _ _ | assumption | refine Below.setCell ?_ (by first | omega | (simp <;> omega)) _ | refine Below.alloc ?_ (by first | omega | (simp <;> omega)) _ | refine Below.drew ?_ | refine below_drewN' ?_ _))) (hb_w1.mono (by first | omega | (simp <;> omega))); obtain ⟨hc_w1, hf_w1⟩ := bcell hb_w1; have hz_w1 := hb_w1.size; (try simp only [zD, zN, zA, zS] at hz_w1); have hk := own6 hb_w1 (w.heap.size) (by (try simp only [zD, zN, zA, zS]); omega); obtain ⟨hl0_w1, hm0_w1, hn0_w1, hq0_w1, hr0_w1, hg0_w1⟩ := hk; have hk := own6 hb_w1 (w.heap.size + 1) (by (try simp only [zD, zN, zA, zS]); omega); obtain ⟨hl1_w1, hm1_w1, hn1_w1, hq1_w1, hr1_w1, hg1_w1⟩ := hk)
      all_goals (refine bodyPost_ret (v := .tuple #[.agg #[.bool false, .string ⟨#[]⟩, .int .i64 0], .int .i64 1]) (by (simp [results, Tryz.results31, go_sem, hr0_w1, hl0_w1, hm0_w1, hn0_w1, hq0_w1, hr1_w1, hl1_w1, hm1_w1, hn1_w1, hq1_w1]; done)) rfl (RetB.of (congrArg Dc.Res.val HM.out).symm (by (repeat (first | exact Below.refl _ _ | assumption | refine Below.setCell ?_ (by first | omega | (simp <;> omega)) _ | refine Below.alloc ?_ (by first | omega | (simp <;> omega)) _ | refine Below.drew ?_ | refine below_drewN' ?_ _)))))
    · have hn : ¬ (0 ≤ way ∧ way ≤ 5 ∧ 1 ≤ k) := fun h => hok ⟨rfl, h⟩
      have HN := Lib.hid hn; clear hok hn
      go_enter Tryz.func31, Tryz.ntmps31
      go_wp2_with (go_at_call 20; (with_reducible refine (HR.out _).mono ?_); rintro e w1 ⟨rfl, hb_w1⟩; have hB_w1 : Below (w).heap.size (w) w1 := Below.trans (by (repeat (first | exact Below.refl _ _ | assumption | refine Below.setCell ?_ (by first | omega | (simp <;> omega)) _ | refine Below.alloc ?_ (by first | omega | (simp <;> omega)) _ | refine Below.drew ?_ | refine below_drewN' ?_ _))) (hb_w1.mono (by first | omega | (simp <;> omega))); obtain ⟨hc_w1, hf_w1⟩ := bcell hb_w1; have hz_w1 := hb_w1.size; (try simp only [zD, zN, zA, zS] at hz_w1); have hk := own6 hb_w1 (w.heap.size) (by (try simp only [zD, zN, zA, zS]); omega); obtain ⟨hl0_w1, hm0_w1, hn0_w1, hq0_w1, hr0_w1, hg0_w1⟩ := hk; have hk := own6 hb_w1 (w.heap.size + 1) (by (try simp only [zD, zN, zA, zS]); omega); obtain ⟨hl1_w1, hm1_w1, hn1_w1, hq1_w1, hr1_w1, hg1_w1⟩ := hk)
      all_goals first
        | (exfalso; exact HN.out (by omega))
        | (refine bodyPost_ret (v := .tuple #[.agg #[.bool false, .string ⟨#[]⟩, .int .i64 0], .int .i64 1]) (by (simp [results, Tryz.results31, go_sem, hr0_w1, hl0_w1, hm0_w1, hn0_w1, hq0_w1, hr1_w1, hl1_w1, hm1_w1, hn1_w1, hq1_w1]; done)) rfl (RetB.of (congrArg Dc.Res.val HM.out).symm (by (repeat (first | exact Below.refl _ _ | assumption | refine Below.setCell ?_ (by first | omega | (simp <;> omega)) _ | refine Below.alloc ?_ (by first | omega | (simp <;> omega)) _ | refine Below.drew ?_ | refine below_drewN' ?_ _)))))
end Go.Proofs.YtiglekomfgfilaaGreatDoor

namespace Go.Proofs.YtiglekomfgfilaaGreatDoor
set_option maxRecDepth 100000
set_option maxHeartbeats 400000
set_option linter.all false
open Go.RowKit
def digAt (s : ByteArray) (i : Int) : UInt8 := if h : 0 ≤ i ∧ i < s.size then s[i.toNat]'(by omega) else 48
theorem digAt_in (s : ByteArray) (i : Int) (k : Nat) (hk : k < s.size) (e : (k : Int) = i) : s[k] = digAt s i := by
  subst e
  rw [digAt, dif_pos ⟨by omega, by omega⟩]
  simp
theorem digAt_out (s : ByteArray) (i : Int) (h : i < 0 ∨ s.size ≤ i) : digAt s i = 48 := by
  rw [digAt, dif_neg (by omega)]
theorem r7_at_any (n : Bool) (s : ByteArray) (x pl i : Int) (w : World) (hs : s.size ≤ 1000000) (hx : -1000000 ≤ x ∧ x ≤ 1000000) (hi : -10000000 ≤ i ∧ i ≤ 10000000) (hpl : pl = (s.size : Int) - 1 + x - i) :
    Calls Tryz.prog 76 #[.agg #[.bool n, .string s, .int .i64 x], .int .i64 pl] w (RetB (.int .u8 (digAt s i).toNat) w) := by
  obtain ⟨hx1, hx2⟩ := hx
  obtain ⟨hi1, hi2⟩ := hi
  have he : (s.size : Int) - 1 + x - pl = i := by omega
  have hp1 : -20000000 ≤ pl ∧ pl ≤ 20000000 := by omega
  obtain ⟨hp1, hp2⟩ := hp1
  obtain ⟨r, hr⟩ : ∃ r, r = digAt s i := ⟨_, rfl⟩
  rw [← hr]
  have HR := Lib.hid hr; have HE := Lib.hid he; clear hr hpl he
  go_enter Tryz.func76, Tryz.ntmps76
  go_wp2_with fail
  all_goals go_ret
  · have h1 : (s.size : Int) - 1 + x - pl < 0 ∨ (s.size : Int) ≤ s.size - 1 + x - pl := by assumption
    exact RetB.of (by rw [HR.out, digAt_out s i (by have := HE.out; omega)]; rfl) (by (repeat (first | exact Below.refl _ _ | assumption | refine Below.setCell ?_ (by first | omega | (simp <;> omega)) _ | refine Below.alloc ?_ (by first | omega | (simp <;> omega)) _ | refine Below.drew ?_ | refine below_drewN' ?_ _)))
  · have h1 : 0 ≤ (s.size : Int) - 1 + x - pl ∧ (s.size : Int) - 1 + x - pl < s.size := by assumption
    exact RetB.of (by rw [HR.out, ← digAt_in s i ((s.size : Int) - 1 + x - pl).toNat (by omega) (by rw [← HE.out]; omega)]; rfl) (by (repeat (first | exact Below.refl _ _ | assumption | refine Below.setCell ?_ (by first | omega | (simp <;> omega)) _ | refine Below.alloc ?_ (by first | omega | (simp <;> omega)) _ | refine Below.drew ?_ | refine below_drewN' ?_ _)))
  · exact RetB.of (by rw [HR.out, digAt_out s i (by have := HE.out; omega)]; rfl) (by (repeat (first | exact Below.refl _ _ | assumption | refine Below.setCell ?_ (by first | omega | (simp <;> omega)) _ | refine Below.alloc ?_ (by first | omega | (simp <;> omega)) _ | refine Below.drew ?_ | refine below_drewN' ?_ _)))
end Go.Proofs.YtiglekomfgfilaaGreatDoor

namespace Go.Proofs.YtiglekomfgfilaaGreatDoor
set_option maxRecDepth 100000
set_option maxHeartbeats 400000
set_option linter.all false
open Go.RowKit
attribute [local go_sem] Dc.Res.val
theorem dec_one (k : Nat) (h : k < 10) : ((⟨#[48, 49, 50, 51, 52, 53, 54, 55, 56, 57]⟩ : ByteArray).extract k (k + 1)) = ⟨(Lib.itoa k).toArray⟩ := by
  have h1 : ∀ k : Fin 10, ((⟨#[48, 49, 50, 51, 52, 53, 54, 55, 56, 57]⟩ : ByteArray).extract k.val (k.val + 1)) = ⟨[UInt8.ofNat (48 + k.val)].toArray⟩ := by decide +kernel
  rw [h1 ⟨k, h⟩, Lib.itoa, if_neg (by omega), Int.toNat_natCast, Lib.decDigits, dif_pos h]
theorem dec_more (k : Nat) (h : ¬ k < 10) : (⟨(Lib.itoa ((k / 10 : Nat) : Int)).toArray⟩ : ByteArray) ++ ⟨(Lib.itoa ((k % 10 : Nat) : Int)).toArray⟩ = ⟨(Lib.itoa k).toArray⟩ := by
  rw [Lib.itoa, if_neg (by omega), Lib.itoa, if_neg (by omega), Lib.itoa, if_neg (by omega), Int.toNat_natCast, Int.toNat_natCast, Int.toNat_natCast]
  conv => rhs; rw [Lib.decDigits, dif_neg h]
  rw [ByteArray.mk_append_mk, Lib.decDigits_one (i := k % 10) (by omega)]
theorem r7_number_small (k : Nat) (w : World) (h : k < 10) : Calls Tryz.prog 77 #[.int .i64 k] w (Ret0 (.string ⟨(Lib.itoa k).toArray⟩) w) := by
  have h1 := dec_one k h
  have H1 := Lib.hid h1; clear h1
  go_enter Tryz.func77, Tryz.ntmps77
  go_wp2_with fail
  go_ret
  exact Ret0.of (by rw [← H1.out]; rfl)
theorem r7_number_any (k : Nat) : ∀ (w : World), k ≤ 1000000 → Calls Tryz.prog 77 #[.int .i64 k] w (RetB (.string ⟨(Lib.itoa k).toArray⟩) w) := by
  induction k using Nat.strongRecOn with
  | _ k ih =>
    intro w hb
    by_cases h : k < 10
    · exact (r7_number_small k w h).mono fun _ _ e => ⟨e.1, by rw [← e.2]; exact Below.refl _ _⟩
    · have h1 := dec_more k h
      have h2 := fun w => ih (k / 10) (by omega) w (by omega)
      have h3 := fun w => r7_number_small (k % 10) w (by omega)
      have hl1 : (⟨(Lib.itoa ((k / 10 : Nat) : Int)).toArray⟩ : ByteArray).size ≤ 30 := by rw [size_mk]; exact Dc.itoa_len _ (by omega)
      have hl2 : (⟨(Lib.itoa ((k % 10 : Nat) : Int)).toArray⟩ : ByteArray).size ≤ 30 := by rw [size_mk]; exact Dc.itoa_len _ (by omega)
      obtain ⟨a, ha⟩ : ∃ a : ByteArray, a = ⟨(Lib.itoa ((k / 10 : Nat) : Int)).toArray⟩ := ⟨_, rfl⟩
      obtain ⟨b, hb'⟩ : ∃ b : ByteArray, b = ⟨(Lib.itoa ((k % 10 : Nat) : Int)).toArray⟩ := ⟨_, rfl⟩
      rw [← ha] at h1 h2 hl1
      rw [← hb'] at h1 h3 hl2
      rw [show ((k / 10 : Nat) : Int) = (k : Int) / 10 by omega] at h2
      rw [show ((k % 10 : Nat) : Int) = (k : Int) % 10 by omega] at h3
      have H1 := Lib.hid h1; have H2 := Lib.hid h2; have H3 := Lib.hid h3; clear h1 h2 h3 ih ha hb'
      go_enter Tryz.func77, Tryz.ntmps77
      go_wp2_with (first
        | (go_at_call 77; (with_reducible refine (H2.out _).mono ?_); rintro e w1 ⟨rfl, hb_w1⟩; have hB_w1 : Below (w).heap.size (w) w1 := Below.trans (by (repeat (first | exact Below.refl _ _ | assumption | refine Below.setCell ?_ (by first | omega | (simp <;> omega)) _ | refine Below.alloc ?_ (by first | omega | (simp <;> omega)) _ | refine Below.drew ?_ | refine below_drewN' ?_ _))) (hb_w1.mono (by first | omega | (simp <;> omega))); obtain ⟨hc_w1, hf_w1⟩ := bcell hb_w1; have hz_w1 := hb_w1.size; (try simp only [zD, zN, zA, zS] at hz_w1))
        | (go_at_call 77; (with_reducible refine (H3.out _).mono ?_); rintro e w' ⟨rfl, rfl⟩))
      go_ret
      exact RetB.of (by rw [← H1.out]; rfl) (by (repeat (first | exact Below.refl _ _ | assumption | refine Below.setCell ?_ (by first | omega | (simp <;> omega)) _ | refine Below.alloc ?_ (by first | omega | (simp <;> omega)) _ | refine Below.drew ?_ | refine below_drewN' ?_ _)))
end Go.Proofs.YtiglekomfgfilaaGreatDoor
