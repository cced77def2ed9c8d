/- Patterns in the program: the shape of a section's items: a fraction. (Printed by gen/mkp9.py.) -/
import Derived.Test.YticodcecillciaaDoorZ3
namespace Go.Proofs.YticodcecillciaaDoor
set_option linter.all false
open Go.RowKit

set_option maxRecDepth 100000 in
set_option maxHeartbeats 4000000 in
theorem shp_frac (vi : Value) (g : Bool) (sc : Int) (l : List Pa.It) (B : Nat) (c0 c1 c2 c3 c4 c5 c6 c7 c8 c9 : Nat) (w : World) (h : ItsAt w B vi l) (hB : B ≤ w.heap.size) (hl : l.length ≤ 1000000) (hb : c2 ≤ 1000000 ∧ c3 ≤ 1000000 ∧ c4 ≤ 1000000 ∧ c5 ≤ 1000000 ∧ c6 ≤ 1000000 ∧ c7 ≤ 1000000 ∧ c8 ≤ 1000000)
    (hc : c7 = 0 ∧ c8 = 0 ∧ c6 = 1 ∧ c3 + c4 + c5 = 0 ∧ 0 < c2 + c3 + c4 + c5 + c6) :
    Calls Tryd.prog 21 #[.agg #[vi, .bool g, .int .i64 sc], .agg #[.int .i64 c0, .int .i64 c1, .int .i64 c2, .int .i64 c3, .int .i64 c4, .int .i64 c5, .int .i64 c6, .int .i64 c7, .int .i64 c8, .int .i64 c9]] w (RetB (.int .i64 (Pa.frac l)) w) := by
  have hle := cutAt_le [6] l
  obtain ⟨r, hr⟩ : ∃ r, r = Pa.frac l := ⟨_, rfl⟩
  rw [← hr]
  unfold Pa.frac at hr; simp only [] at hr
  have hcut : ∀ (W : World) (b c : Nat), Below w.heap.size w W → b < W.heap.size → W.cell? ⟨b, 0, none⟩ = some (.int .i64 6) → Calls Tryd.prog 39 #[vi, .slice (some ⟨b, 0, none⟩) 1 c] W (CutR W B l (Pa.cutAt [6] l)) := fun W b c hW hb hc =>
    pa_cut_any vi l B b c [6] W (h.below hW hB) (Nat.le_trans hB hW.size) hl (by simp) hb (fun j hj => by
      match j, hj with
      | 0, _ => exact hc)
  obtain ⟨k, hk⟩ : ∃ k, k = Pa.cutAt [6] l := ⟨_, rfl⟩
  rw [← hk] at hr hcut hle
  clear hk
  obtain ⟨m1, hm1⟩ : ∃ m, m = Pa.cnt 2 (l.take k) := ⟨_, rfl⟩
  obtain ⟨m2, hm2⟩ : ∃ m, m = Pa.cnt 2 (l.drop k) := ⟨_, rfl⟩
  rw [← hm1, ← hm2] at hr
  have hd1 : ∀ (v : Value) (W : World), ItsAt W B v (l.take k) → B ≤ W.heap.size → Calls Tryd.prog 22 #[v] W (RetB (.int .i64 (m1 : Nat)) W) := fun v W h hB => by
    rw [hm1]; exact pa_digits_any v _ B W h hB (by rw [List.length_take]; omega)
  have hd2 : ∀ (v : Value) (W : World), ItsAt W B v (l.drop k) → B ≤ W.heap.size → Calls Tryd.prog 22 #[v] W (RetB (.int .i64 (m2 : Nat)) W) := fun v W h hB => by
    rw [hm2]; exact pa_digits_any v _ B W h hB (by rw [List.length_drop]; omega)
  obtain ⟨M1, hM1⟩ : ∃ M : Int, M = (m1 : Int) := ⟨_, rfl⟩
  obtain ⟨M2, hM2⟩ : ∃ M : Int, M = (m2 : Int) := ⟨_, rfl⟩
  rw [← hM1] at hd1
  rw [← hM2] at hd2
  have HM1 := Lib.hid hM1; have HM2 := Lib.hid hM2; clear hM1 hM2
  have HR := Lib.hid hr; have HC := Lib.hid hcut; have HD1 := Lib.hid hd1; have HD2 := Lib.hid hd2
  clear hr hcut hm1 hm2 hd1 hd2 h
  obtain ⟨C0, hC0⟩ : ∃ C : Int, C = (c0 : Int) := ⟨_, rfl⟩
  obtain ⟨C1, hC1⟩ : ∃ C : Int, C = (c1 : Int) := ⟨_, rfl⟩
  obtain ⟨C2, hC2⟩ : ∃ C : Int, C = (c2 : Int) := ⟨_, rfl⟩
  obtain ⟨C3, hC3⟩ : ∃ C : Int, C = (c3 : Int) := ⟨_, rfl⟩
  obtain ⟨C4, hC4⟩ : ∃ C : Int, C = (c4 : Int) := ⟨_, rfl⟩
  obtain ⟨C5, hC5⟩ : ∃ C : Int, C = (c5 : Int) := ⟨_, rfl⟩
  obtain ⟨C6, hC6⟩ : ∃ C : Int, C = (c6 : Int) := ⟨_, rfl⟩
  obtain ⟨C7, hC7⟩ : ∃ C : Int, C = (c7 : Int) := ⟨_, rfl⟩
  obtain ⟨C8, hC8⟩ : ∃ C : Int, C = (c8 : Int) := ⟨_, rfl⟩
  obtain ⟨C9, hC9⟩ : ∃ C : Int, C = (c9 : Int) := ⟨_, rfl⟩
  rw [← hC0, ← hC1, ← hC2, ← hC3, ← hC4, ← hC5, ← hC6, ← hC7, ← hC8, ← hC9]
  obtain ⟨N, hN⟩ : ∃ N, C2 + C3 + C4 + C5 + C6 = N := ⟨_, rfl⟩
  first | (have p1 : decide (0 < C7 + C8) = true := decide_eq_true (by omega)) | (have p1 : decide (0 < C7 + C8) = false := decide_eq_false (by omega)) | skip
  first | (have pN : decide (0 < N) = true := decide_eq_true (by omega)) | (have pN : decide (0 < N) = false := decide_eq_false (by omega)) | skip
  first | (have e71 : (C7 == 1) = true := beq_iff_eq.2 (by omega)) | (have e71 : (C7 == 1) = false := beq_eq_false_iff_ne.2 (by omega)) | skip
  first | (have e80 : (C8 == 0) = true := beq_iff_eq.2 (by omega)) | (have e80 : (C8 == 0) = false := beq_eq_false_iff_ne.2 (by omega)) | skip
  first | (have e70 : (C7 == 0) = true := beq_iff_eq.2 (by omega)) | (have e70 : (C7 == 0) = false := beq_eq_false_iff_ne.2 (by omega)) | skip
  first | (have p8 : decide (0 < C8) = true := decide_eq_true (by omega)) | (have p8 : decide (0 < C8) = false := decide_eq_false (by omega)) | skip
  first | (have e90 : (C9 == 0) = true := beq_iff_eq.2 (by omega)) | (have e90 : (C9 == 0) = false := beq_eq_false_iff_ne.2 (by omega)) | skip
  first | (have eN0 : (N == 0) = true := beq_iff_eq.2 (by omega)) | (have eN0 : (N == 0) = false := beq_eq_false_iff_ne.2 (by omega)) | skip
  first | (have e61 : (C6 == 1) = true := beq_iff_eq.2 (by omega)) | (have e61 : (C6 == 1) = false := beq_eq_false_iff_ne.2 (by omega)) | skip
  first | (have s0 : (C3 + C4 + C5 == 0) = true := beq_iff_eq.2 (by omega)) | (have s0 : (C3 + C4 + C5 == 0) = false := beq_eq_false_iff_ne.2 (by omega)) | skip
  first | (have e60 : (C6 == 0) = true := beq_iff_eq.2 (by omega)) | (have e60 : (C6 == 0) = false := beq_eq_false_iff_ne.2 (by omega)) | skip
  first | (have p2 : decide (0 < C2) = true := decide_eq_true (by omega)) | (have p2 : decide (0 < C2) = false := decide_eq_false (by omega)) | skip
  first | (have l3 : decide (C3 ≤ 1) = true := decide_eq_true (by omega)) | (have l3 : decide (C3 ≤ 1) = false := decide_eq_false (by omega)) | skip
  first | (have l4 : decide (C4 ≤ 1) = true := decide_eq_true (by omega)) | (have l4 : decide (C4 ≤ 1) = false := decide_eq_false (by omega)) | skip
  first | (have l5 : decide (C5 ≤ 1) = true := decide_eq_true (by omega)) | (have l5 : decide (C5 ≤ 1) = false := decide_eq_false (by omega)) | skip
  have w1 : 0 ≤ C2 ∧ C2 ≤ 1000000 := by omega
  have w2 : 0 ≤ C3 ∧ C3 ≤ 1000000 := by omega
  have w3 : 0 ≤ C4 ∧ C4 ≤ 1000000 := by omega
  have w4 : 0 ≤ C5 ∧ C5 ≤ 1000000 := by omega
  have w5 : 0 ≤ C6 ∧ C6 ≤ 1000000 := by omega
  have w6 : 0 ≤ C7 ∧ C7 ≤ 1000000 := by omega
  have w7 : 0 ≤ C8 ∧ C8 ≤ 1000000 := by omega
  obtain ⟨⟨x1, y1⟩, ⟨x2, y2⟩, ⟨x3, y3⟩, ⟨x4, y4⟩, ⟨x5, y5⟩, ⟨x6, y6⟩, ⟨x7, y7⟩⟩ := (⟨w1, w2, w3, w4, w5, w6, w7⟩ : _ ∧ _ ∧ _ ∧ _ ∧ _ ∧ _ ∧ _)
  clear w1 w2 w3 w4 w5 w6 w7 hc hb hC0 hC1 hC2 hC3 hC4 hC5 hC6 hC7 hC8 hC9
  have HBB := Lib.hid hB
  by_cases hk0 : k = 0
  · have hr0 : .int .i64 0 = Value.int .i64 r := by rw [HR.out, if_neg (by omega)]
    have HR0 := Lib.hid hr0
    clear HR hr0
    subst hk0
    go_enter Tryd.func21, Tryd.ntmps21
    go_wp2_with (first
      | (go_at_call 39; (with_reducible refine (HC.out _ _ _ (by (repeat (first | exact Below.refl _ _ | assumption | refine Below.setCell ?_ (by first | omega | (simp <;> omega)) _ | refine Below.alloc ?_ (by first | omega | (simp <;> omega)) _ | refine Below.drew ?_ | refine below_drewN' ?_ _))) (by simp) (by simp [go_sem])).mono ?_); rintro e w1 ⟨v1, v2, rfl, h1, h2, hb_w1⟩; have hB_w1 : Below (w).heap.size (w) w1 := Below.trans (by (repeat (first | exact Below.refl _ _ | assumption | refine Below.setCell ?_ (by first | omega | (simp <;> omega)) _ | refine Below.alloc ?_ (by first | omega | (simp <;> omega)) _ | refine Below.drew ?_ | refine below_drewN' ?_ _))) (hb_w1.mono (by first | omega | (simp <;> omega))); obtain ⟨hc_w1, hf_w1⟩ := bcell hb_w1; have hz_w1 := hb_w1.size; (try simp only [size_drew', size_drewN', World.size_alloc, World.size_setCell] at hz_w1); obtain ⟨a1, d1, rfl, hd, hg⟩ := h1.taken hle; have H2 := Lib.hid h2; clear h1 h2 hd hg)
      | (go_at_call 22; (with_reducible refine (HD2.out _ _ (H2.out.below (by (repeat (first | exact Below.refl _ _ | assumption | refine Below.setCell ?_ (by first | omega | (simp <;> omega)) _ | refine Below.alloc ?_ (by first | omega | (simp <;> omega)) _ | refine Below.drew ?_ | refine below_drewN' ?_ _))) (Nat.le_trans HBB.out hB_w1.size)) (by have := HBB.out; omega)).mono ?_); rintro e w2 ⟨rfl, hb_w2⟩; have hB_w2 : Below (w1).heap.size (w1) w2 := Below.trans (by (repeat (first | exact Below.refl _ _ | assumption | refine Below.setCell ?_ (by first | omega | (simp <;> omega)) _ | refine Below.alloc ?_ (by first | omega | (simp <;> omega)) _ | refine Below.drew ?_ | refine below_drewN' ?_ _))) (hb_w2.mono (by first | omega | (simp <;> omega))); obtain ⟨hc_w2, hf_w2⟩ := bcell hb_w2; have hz_w2 := hb_w2.size; (try simp only [size_drew', size_drewN', World.size_alloc, World.size_setCell] at hz_w2)))
    go_ret
    exact RetB.of HR0.out (hB_w1.trans (hB_w2.mono hB_w1.size))
  · obtain ⟨j, rfl⟩ : ∃ j, k = j + 1 := ⟨k - 1, by omega⟩
    have hj : j < l.length := by omega
    obtain ⟨q, hq⟩ : ∃ q, q = l[j].kind := ⟨_, rfl⟩
    obtain ⟨b1, hb1⟩ : ∃ b, (q == 2) = b := ⟨_, rfl⟩
    obtain ⟨b2, hb2⟩ : ∃ b, decide (M1 ≤ 30) = b := ⟨_, rfl⟩
    obtain ⟨b3, hb3⟩ : ∃ b, decide (1 ≤ M2) = b := ⟨_, rfl⟩
    obtain ⟨b4, hb4⟩ : ∃ b, decide (M2 ≤ 4) = b := ⟨_, rfl⟩
    have hr0 : r = if (b1 && (b2 && (b3 && b4))) = true then 4 else 0 := by
      rw [HR.out, ← hb1, ← hb2, ← hb3, ← hb4]
      have e : l[j + 1 - 1]! = l[j] := by rw [Nat.add_sub_cancel, getElem!_pos l j hj]
      rw [e, ← hq, HM1.out, HM2.out]
      by_cases e1 : q = 2 <;> by_cases e2 : m1 ≤ 30 <;> by_cases e3 : 1 ≤ m2 <;> by_cases e4 : m2 ≤ 4 <;> simp [e1, e2, e3, e4] <;> omega
    have hcell : ∀ (W : World) (b o : Nat), (∀ k (h : k < j + 1), W.cell? ⟨b, o + k * 2, none⟩ = some (.int .i64 (l[k]'(Nat.lt_of_lt_of_le h hle)).kind) ∧ W.cell? ⟨b, o + k * 2 + 1, none⟩ = some (.string (l[k]'(Nat.lt_of_lt_of_le h hle)).text)) → W.cell? ⟨b, o + j * 2, none⟩ = some (.int .i64 q) := fun W b o h => by rw [hq]; exact (h j (by omega)).1
    have HCELL := Lib.hid hcell
    clear HR hcell hq hk0
    have i1 : (0 : Int) < (j : Int) + 1 := by omega
    have i2 : (j : Int) ≤ 1000000 := by omega
    cases b1 <;> cases b2 <;> cases b3 <;> cases b4 <;>
    (have HR0 := Lib.hid hr0; clear hr0
     go_enter Tryd.func21, Tryd.ntmps21
     go_wp2_with (first
       | (go_at_call 39; (with_reducible refine (HC.out _ _ _ (by (repeat (first | exact Below.refl _ _ | assumption | refine Below.setCell ?_ (by first | omega | (simp <;> omega)) _ | refine Below.alloc ?_ (by first | omega | (simp <;> omega)) _ | refine Below.drew ?_ | refine below_drewN' ?_ _))) (by simp) (by simp [go_sem])).mono ?_); rintro e w1 ⟨v1, v2, rfl, h1, h2, hb_w1⟩; have hB_w1 : Below (w).heap.size (w) w1 := Below.trans (by (repeat (first | exact Below.refl _ _ | assumption | refine Below.setCell ?_ (by first | omega | (simp <;> omega)) _ | refine Below.alloc ?_ (by first | omega | (simp <;> omega)) _ | refine Below.drew ?_ | refine below_drewN' ?_ _))) (hb_w1.mono (by first | omega | (simp <;> omega))); obtain ⟨hc_w1, hf_w1⟩ := bcell hb_w1; have hz_w1 := hb_w1.size; (try simp only [size_drew', size_drewN', World.size_alloc, World.size_setCell] at hz_w1); have H1 := Lib.hid h1; obtain ⟨a1, d1, rfl, hd, hg⟩ := h1.taken hle; have H2 := Lib.hid h2; obtain ⟨bb, oo, rfl, hbb, hcc⟩ := hg (by omega); have hq1 := HCELL.out _ _ _ hcc; have hbw : bb < w1.heap.size := Nat.lt_of_lt_of_le hbb (Nat.le_trans HBB.out hB_w1.size); clear h1 h2 hg hcc)
       | (go_at_call 22; (with_reducible refine (HD2.out _ _ (H2.out.below (by (repeat (first | exact Below.refl _ _ | assumption | refine Below.setCell ?_ (by first | omega | (simp <;> omega)) _ | refine Below.alloc ?_ (by first | omega | (simp <;> omega)) _ | refine Below.drew ?_ | refine below_drewN' ?_ _))) (Nat.le_trans HBB.out hB_w1.size)) (by have := HBB.out; omega)).mono ?_); rintro e w2 ⟨rfl, hb_w2⟩; have hB_w2 : Below (w1).heap.size (w1) w2 := Below.trans (by (repeat (first | exact Below.refl _ _ | assumption | refine Below.setCell ?_ (by first | omega | (simp <;> omega)) _ | refine Below.alloc ?_ (by first | omega | (simp <;> omega)) _ | refine Below.drew ?_ | refine below_drewN' ?_ _))) (hb_w2.mono (by first | omega | (simp <;> omega))); obtain ⟨hc_w2, hf_w2⟩ := bcell hb_w2; have hz_w2 := hb_w2.size; (try simp only [size_drew', size_drewN', World.size_alloc, World.size_setCell] at hz_w2))
       | (go_at_call 22; (with_reducible refine (HD1.out _ _ (H1.out.below (by (repeat (first | exact Below.refl _ _ | assumption | refine Below.setCell ?_ (by first | omega | (simp <;> omega)) _ | refine Below.alloc ?_ (by first | omega | (simp <;> omega)) _ | refine Below.drew ?_ | refine below_drewN' ?_ _))) (Nat.le_trans HBB.out hB_w1.size)) (by have := HBB.out; omega)).mono ?_); rintro e w3 ⟨rfl, hb_w3⟩; have hB_w3 : Below (w1).heap.size (w1) w3 := Below.trans (by (repeat (first | exact Below.refl _ _ | assumption | refine Below.setCell ?_ (by first | omega | (simp <;> omega)) _ | refine Below.alloc ?_ (by first | omega | (simp <;> omega)) _ | refine Below.drew ?_ | refine below_drewN' ?_ _))) (hb_w3.mono (by first | omega | (simp <;> omega))); obtain ⟨hc_w3, hf_w3⟩ := bcell hb_w3; have hz_w3 := hb_w3.size; (try simp only [size_drew', size_drewN', World.size_alloc, World.size_setCell] at hz_w3)))
     go_ret
     exact RetB.of (by rw [HR0.out]; rfl) (by first | exact hB_w1.trans (hB_w3.mono hB_w1.size) | exact hB_w1.trans (hB_w2.mono hB_w1.size)))
end Go.Proofs.YticodcecillciaaDoor
