/- The law CellCovers, walked. -/
import Derived.Test.YtbbeeglfgnabmaaDoorL22
namespace Go.Proofs.YtbbeeglfgnabmaaDoor
set_option linter.all false
open Go.RowKit
attribute [local go_sem high] ref_neq ref_eql ref_guard

theorem any_take_succ (l : List Ce.Rf) (p : Ce.Rf → Bool) (k : Nat) (h : k < l.length) : (l.take (k + 1)).any p = ((l.take k).any p || p l[k]) := by
  rw [List.take_succ_eq_append_getElem h, List.any_append]; simp

set_option maxRecDepth 100000 in
set_option maxHeartbeats 16000000 in
theorem l15_covers_any (c1 d1 : Int) (a1 b1 : Bool) (c2 d2 : Int) (a2 b2 : Bool) (c d : Int) (a b : Bool) (w : World) (ht : Tab w) :
    Calls Tryd.prog 8 #[.agg #[.int .i64 c1, .int .i64 d1, .bool a1, .bool b1], .agg #[.int .i64 c2, .int .i64 d2, .bool a2, .bool b2], .agg #[.int .i64 c, .int .i64 d, .bool a, .bool b]] w (RetB (.bool true) w) := by
  have hsh := fun w1 (hb : Below w.heap.size w w1) => l15_shown_any w1 (ht.below hb)
  have HSH := Lib.hid hsh; clear hsh
  have h1 := fun W => ce_area_any ⟨c1, d1, a1, b1⟩ ⟨c2, d2, a2, b2⟩ W
  have h2 := fun W => ce_area_any ⟨c2, d2, a2, b2⟩ ⟨c1, d1, a1, b1⟩ W
  rw [Ce.area_comm ⟨c2, d2, a2, b2⟩ ⟨c1, d1, a1, b1⟩] at h2
  have h3 := fun W => ce_inside_any ⟨c, d, a, b⟩ ⟨c1, d1, a1, b1⟩ ⟨c2, d2, a2, b2⟩ W
  have h4 := fun W => ce_inside_any ⟨c, d, a, b⟩ ⟨c2, d2, a2, b2⟩ ⟨c1, d1, a1, b1⟩ W
  rw [Ce.inside_comm _ ⟨c2, d2, a2, b2⟩ ⟨c1, d1, a1, b1⟩] at h4
  have hln := Ce.cells_len ⟨c1, d1, a1, b1⟩ ⟨c2, d2, a2, b2⟩
  have hmet := Ce.cell_met ⟨c1, d1, a1, b1⟩ ⟨c2, d2, a2, b2⟩ ⟨c, d, a, b⟩
  have h5 := fun (hl : ((Ce.cells ⟨c1, d1, a1, b1⟩ ⟨c2, d2, a2, b2⟩).length : Int) ≤ 4000) W => l15_cells_any ⟨c1, d1, a1, b1⟩ ⟨c2, d2, a2, b2⟩ 4000 W hl (by decide)
  have h6 := fun (x : Ce.Rf) (hx : Ce.inside x ⟨c1, d1, a1, b1⟩ ⟨c2, d2, a2, b2⟩ = true) W => by
    have := ce_inside_any x ⟨c1, d1, a1, b1⟩ ⟨c2, d2, a2, b2⟩ W
    rw [hx] at this; exact this
  obtain ⟨L, hL⟩ : ∃ z, z = Ce.cells ⟨c1, d1, a1, b1⟩ ⟨c2, d2, a2, b2⟩ := ⟨_, rfl⟩
  obtain ⟨ins, hins⟩ : ∃ z, z = Ce.inside ⟨c, d, a, b⟩ ⟨c1, d1, a1, b1⟩ ⟨c2, d2, a2, b2⟩ := ⟨_, rfl⟩
  rw [← hL] at hln h5 hmet
  have hcin : ∀ k (hk : k < L.length), Ce.inside L[k] ⟨c1, d1, a1, b1⟩ ⟨c2, d2, a2, b2⟩ = true ∧ L[k].ac = false ∧ L[k].ar = false ∧ Ce.right L[k] = true := by subst hL; exact fun k hk => Ce.cell_inside ⟨c1, d1, a1, b1⟩ ⟨c2, d2, a2, b2⟩ k hk
  have hcri : ∀ k (hk : k + 1 < L.length), Ce.index (L[k]'(Nat.lt_of_succ_lt hk)) < Ce.index (L[k + 1]'hk) := by subst hL; exact fun k hk => Ce.cell_rise ⟨c1, d1, a1, b1⟩ ⟨c2, d2, a2, b2⟩ k hk
  rw [← hins] at h3 h4 hmet
  obtain ⟨N, hN⟩ : ∃ N, N = L.length := ⟨_, rfl⟩
  rw [← hln, ← hN] at h1 h2
  simp only [rv_mk] at h1 h2 h3 h4 h5 h6
  have H1 := Lib.hid h1; have H2 := Lib.hid h2; have H3 := Lib.hid h3; have H4 := Lib.hid h4; have H5 := Lib.hid h5; have H6 := Lib.hid h6; have HM := Lib.hid hmet; have HCI := Lib.hid hcin; have HCR := Lib.hid hcri; have HN := Lib.hid hN
  clear h1 h2 h3 h4 h5 h6 hln hL hins hmet hcin hcri hN ht
  go_enter Tryd.func8, Tryd.ntmps8
  go_upto_region 2 with (go_at_call 9; (with_reducible refine (HSH.out _ (by (repeat (first | exact Below.refl _ _ | assumption | refine Below.setCell ?_ (by first | omega | (simp <;> omega)) _ | refine Below.alloc ?_ (by first | omega | (simp <;> omega)) _ | refine Below.drew ?_ | refine below_drewN' ?_ _)))).mono ?_); rintro e w1 ⟨rfl, hb_w1⟩; have hB_w1 : Below (w).heap.size (w) w1 := Below.trans (by (repeat (first | exact Below.refl _ _ | assumption | refine Below.setCell ?_ (by first | omega | (simp <;> omega)) _ | refine Below.alloc ?_ (by first | omega | (simp <;> omega)) _ | refine Below.drew ?_ | refine below_drewN' ?_ _))) (hb_w1.mono (by first | omega | (simp <;> omega))); obtain ⟨hc_w1, hf_w1⟩ := bcell hb_w1; have hz_w1 := hb_w1.size; (try simp only [size_drew', size_drewN', World.size_alloc, World.size_setCell] at hz_w1); have hl0_w1 : w.heap.size < w1.heap.size := (by omega); have hm0_w1 : w.heap.size ≤ w1.heap.size := (by omega); have hn0_w1 : ¬ w.heap.size = w1.heap.size := (by omega); have hq0_w1 : ¬ w1.heap.size = w.heap.size := (by omega); have hr0_w1 := fun o => hc_w1 (w.heap.size) o (by (try simp only [size_drew', size_drewN', World.size_alloc, World.size_setCell]); omega); have hg0_w1 := fun o => hf_w1 (w.heap.size) o (by (try simp only [size_drew', size_drewN', World.size_alloc, World.size_setCell]); omega); have hl1_w1 : w.heap.size + 1 < w1.heap.size := (by omega); have hm1_w1 : w.heap.size + 1 ≤ w1.heap.size := (by omega); have hn1_w1 : ¬ w.heap.size + 1 = w1.heap.size := (by omega); have hq1_w1 : ¬ w1.heap.size = w.heap.size + 1 := (by omega); have hr1_w1 := fun o => hc_w1 (w.heap.size + 1) o (by (try simp only [size_drew', size_drewN', World.size_alloc, World.size_setCell]); omega); have hg1_w1 := fun o => hf_w1 (w.heap.size + 1) o (by (try simp only [size_drew', size_drewN', World.size_alloc, World.size_setCell]); omega); have hl2_w1 : w.heap.size + 1 + 1 < w1.heap.size := (by omega); have hm2_w1 : w.heap.size + 1 + 1 ≤ w1.heap.size := (by omega); have hn2_w1 : ¬ w.heap.size + 1 + 1 = w1.heap.size := (by omega); have hq2_w1 : ¬ w1.heap.size = w.heap.size + 1 + 1 := (by omega); have hr2_w1 := fun o => hc_w1 (w.heap.size + 1 + 1) o (by (try simp only [size_drew', size_drewN', World.size_alloc, World.size_setCell]); omega); have hg2_w1 := fun o => hf_w1 (w.heap.size + 1 + 1) o (by (try simp only [size_drew', size_drewN', World.size_alloc, World.size_setCell]); omega))
  obtain ⟨X, hX⟩ : ∃ X, X = w1 := ⟨_, rfl⟩
  have cX0 : X.cell? ⟨w.heap.size, 0, none⟩ = some (.int .i64 c1) := by rw [hX]; simp [go_sem, hr0_w1, hr1_w1, hr2_w1]
  have cX1 : X.cell? ⟨w.heap.size, 1, none⟩ = some (.int .i64 d1) := by rw [hX]; simp [go_sem, hr0_w1, hr1_w1, hr2_w1]
  have cX2 : X.cell? ⟨w.heap.size, 2, none⟩ = some (.bool a1) := by rw [hX]; simp [go_sem, hr0_w1, hr1_w1, hr2_w1]
  have cX3 : X.cell? ⟨w.heap.size, 3, none⟩ = some (.bool b1) := by rw [hX]; simp [go_sem, hr0_w1, hr1_w1, hr2_w1]
  have cX4 : X.cell? ⟨w.heap.size + 1, 0, none⟩ = some (.int .i64 c2) := by rw [hX]; simp [go_sem, hr0_w1, hr1_w1, hr2_w1]
  have cX5 : X.cell? ⟨w.heap.size + 1, 1, none⟩ = some (.int .i64 d2) := by rw [hX]; simp [go_sem, hr0_w1, hr1_w1, hr2_w1]
  have cX6 : X.cell? ⟨w.heap.size + 1, 2, none⟩ = some (.bool a2) := by rw [hX]; simp [go_sem, hr0_w1, hr1_w1, hr2_w1]
  have cX7 : X.cell? ⟨w.heap.size + 1, 3, none⟩ = some (.bool b2) := by rw [hX]; simp [go_sem, hr0_w1, hr1_w1, hr2_w1]
  have cX8 : X.cell? ⟨w.heap.size + 1 + 1, 0, none⟩ = some (.int .i64 c) := by rw [hX]; simp [go_sem, hr0_w1, hr1_w1, hr2_w1]
  have cX9 : X.cell? ⟨w.heap.size + 1 + 1, 1, none⟩ = some (.int .i64 d) := by rw [hX]; simp [go_sem, hr0_w1, hr1_w1, hr2_w1]
  have cX10 : X.cell? ⟨w.heap.size + 1 + 1, 2, none⟩ = some (.bool a) := by rw [hX]; simp [go_sem, hr0_w1, hr1_w1, hr2_w1]
  have cX11 : X.cell? ⟨w.heap.size + 1 + 1, 3, none⟩ = some (.bool b) := by rw [hX]; simp [go_sem, hr0_w1, hr1_w1, hr2_w1]
  have lX0 : w.heap.size < X.heap.size := by rw [hX]; first | (simp; done) | (simp; omega) | omega
  have lX1 : w.heap.size + 1 < X.heap.size := by rw [hX]; first | (simp; done) | (simp; omega) | omega
  have lX2 : w.heap.size + 1 + 1 < X.heap.size := by rw [hX]; first | (simp; done) | (simp; omega) | omega
  have hzX : w.heap.size ≤ X.heap.size := by rw [hX]; exact hB_w1.size
  have HB : Hid (Below w.heap.size w X) := by rw [hX]; exact Lib.hid hB_w1
  rw [← hX]
  clear hX hb_w1 hB_w1 hc_w1 hf_w1 hr0_w1 hr1_w1 hr2_w1 hg0_w1 hg1_w1 hg2_w1
  have tok1 : True := trivial
  have tok2 : True := trivial
  go_region_held3 (fun w' => w'.cell? ⟨w.heap.size, 0, none⟩ = some (.int .i64 c1) ∧ w'.cell? ⟨w.heap.size, 1, none⟩ = some (.int .i64 d1) ∧ w'.cell? ⟨w.heap.size, 2, none⟩ = some (.bool a1) ∧ w'.cell? ⟨w.heap.size, 3, none⟩ = some (.bool b1) ∧ w'.cell? ⟨w.heap.size + 1, 0, none⟩ = some (.int .i64 c2) ∧ w'.cell? ⟨w.heap.size + 1, 1, none⟩ = some (.int .i64 d2) ∧ w'.cell? ⟨w.heap.size + 1, 2, none⟩ = some (.bool a2) ∧ w'.cell? ⟨w.heap.size + 1, 3, none⟩ = some (.bool b2) ∧ w'.cell? ⟨w.heap.size + 1 + 1, 0, none⟩ = some (.int .i64 c) ∧ w'.cell? ⟨w.heap.size + 1 + 1, 1, none⟩ = some (.int .i64 d) ∧ w'.cell? ⟨w.heap.size + 1 + 1, 2, none⟩ = some (.bool a) ∧ w'.cell? ⟨w.heap.size + 1 + 1, 3, none⟩ = some (.bool b))
    (first | exact ⟨(Below.cell (B := X.heap.size) (w := X) (p := ⟨w.heap.size, 0, none⟩) (by (repeat (first | exact Below.refl _ _ | assumption | refine Below.setCell ?_ (by first | omega | (simp <;> omega)) _ | refine Below.alloc ?_ (by first | omega | (simp <;> omega)) _ | refine Below.drew ?_ | refine below_drewN' ?_ _))) lX0).trans cX0, (Below.cell (B := X.heap.size) (w := X) (p := ⟨w.heap.size, 1, none⟩) (by (repeat (first | exact Below.refl _ _ | assumption | refine Below.setCell ?_ (by first | omega | (simp <;> omega)) _ | refine Below.alloc ?_ (by first | omega | (simp <;> omega)) _ | refine Below.drew ?_ | refine below_drewN' ?_ _))) lX0).trans cX1, (Below.cell (B := X.heap.size) (w := X) (p := ⟨w.heap.size, 2, none⟩) (by (repeat (first | exact Below.refl _ _ | assumption | refine Below.setCell ?_ (by first | omega | (simp <;> omega)) _ | refine Below.alloc ?_ (by first | omega | (simp <;> omega)) _ | refine Below.drew ?_ | refine below_drewN' ?_ _))) lX0).trans cX2, (Below.cell (B := X.heap.size) (w := X) (p := ⟨w.heap.size, 3, none⟩) (by (repeat (first | exact Below.refl _ _ | assumption | refine Below.setCell ?_ (by first | omega | (simp <;> omega)) _ | refine Below.alloc ?_ (by first | omega | (simp <;> omega)) _ | refine Below.drew ?_ | refine below_drewN' ?_ _))) lX0).trans cX3, (Below.cell (B := X.heap.size) (w := X) (p := ⟨w.heap.size + 1, 0, none⟩) (by (repeat (first | exact Below.refl _ _ | assumption | refine Below.setCell ?_ (by first | omega | (simp <;> omega)) _ | refine Below.alloc ?_ (by first | omega | (simp <;> omega)) _ | refine Below.drew ?_ | refine below_drewN' ?_ _))) lX1).trans cX4, (Below.cell (B := X.heap.size) (w := X) (p := ⟨w.heap.size + 1, 1, none⟩) (by (repeat (first | exact Below.refl _ _ | assumption | refine Below.setCell ?_ (by first | omega | (simp <;> omega)) _ | refine Below.alloc ?_ (by first | omega | (simp <;> omega)) _ | refine Below.drew ?_ | refine below_drewN' ?_ _))) lX1).trans cX5, (Below.cell (B := X.heap.size) (w := X) (p := ⟨w.heap.size + 1, 2, none⟩) (by (repeat (first | exact Below.refl _ _ | assumption | refine Below.setCell ?_ (by first | omega | (simp <;> omega)) _ | refine Below.alloc ?_ (by first | omega | (simp <;> omega)) _ | refine Below.drew ?_ | refine below_drewN' ?_ _))) lX1).trans cX6, (Below.cell (B := X.heap.size) (w := X) (p := ⟨w.heap.size + 1, 3, none⟩) (by (repeat (first | exact Below.refl _ _ | assumption | refine Below.setCell ?_ (by first | omega | (simp <;> omega)) _ | refine Below.alloc ?_ (by first | omega | (simp <;> omega)) _ | refine Below.drew ?_ | refine below_drewN' ?_ _))) lX1).trans cX7, (Below.cell (B := X.heap.size) (w := X) (p := ⟨w.heap.size + 1 + 1, 0, none⟩) (by (repeat (first | exact Below.refl _ _ | assumption | refine Below.setCell ?_ (by first | omega | (simp <;> omega)) _ | refine Below.alloc ?_ (by first | omega | (simp <;> omega)) _ | refine Below.drew ?_ | refine below_drewN' ?_ _))) lX2).trans cX8, (Below.cell (B := X.heap.size) (w := X) (p := ⟨w.heap.size + 1 + 1, 1, none⟩) (by (repeat (first | exact Below.refl _ _ | assumption | refine Below.setCell ?_ (by first | omega | (simp <;> omega)) _ | refine Below.alloc ?_ (by first | omega | (simp <;> omega)) _ | refine Below.drew ?_ | refine below_drewN' ?_ _))) lX2).trans cX9, (Below.cell (B := X.heap.size) (w := X) (p := ⟨w.heap.size + 1 + 1, 2, none⟩) (by (repeat (first | exact Below.refl _ _ | assumption | refine Below.setCell ?_ (by first | omega | (simp <;> omega)) _ | refine Below.alloc ?_ (by first | omega | (simp <;> omega)) _ | refine Below.drew ?_ | refine below_drewN' ?_ _))) lX2).trans cX10, (Below.cell (B := X.heap.size) (w := X) (p := ⟨w.heap.size + 1 + 1, 3, none⟩) (by (repeat (first | exact Below.refl _ _ | assumption | refine Below.setCell ?_ (by first | omega | (simp <;> omega)) _ | refine Below.alloc ?_ (by first | omega | (simp <;> omega)) _ | refine Below.drew ?_ | refine below_drewN' ?_ _))) lX2).trans cX11⟩ | go_keep)
    (first
      | (go_at_call 24; (with_reducible refine (H1.out _).mono ?_); rintro e w2 ⟨rfl, hb_w2⟩; have hB_w2 : Below (X).heap.size (X) w2 := Below.trans (by (repeat (first | exact Below.refl _ _ | assumption | refine Below.setCell ?_ (by first | omega | (simp <;> omega)) _ | refine Below.alloc ?_ (by first | omega | (simp <;> omega)) _ | refine Below.drew ?_ | refine below_drewN' ?_ _))) (hb_w2.mono (by first | omega | (simp <;> omega))); obtain ⟨hc_w2, hf_w2⟩ := bcell hb_w2; have hz_w2 := hb_w2.size; (try simp only [size_drew', size_drewN', World.size_alloc, World.size_setCell] at hz_w2))
      | (go_at_call 24; (with_reducible refine (H2.out _).mono ?_); rintro e w3 ⟨rfl, hb_w3⟩; have hB_w3 : Below (X).heap.size (X) w3 := Below.trans (by (repeat (first | exact Below.refl _ _ | assumption | refine Below.setCell ?_ (by first | omega | (simp <;> omega)) _ | refine Below.alloc ?_ (by first | omega | (simp <;> omega)) _ | refine Below.drew ?_ | refine below_drewN' ?_ _))) (hb_w3.mono (by first | omega | (simp <;> omega))); obtain ⟨hc_w3, hf_w3⟩ := bcell hb_w3; have hz_w3 := hb_w3.size; (try simp only [size_drew', size_drewN', World.size_alloc, World.size_setCell] at hz_w3))
      | (go_at_call 26; (with_reducible refine (H3.out _).mono ?_); rintro e w4 ⟨rfl, hb_w4⟩; have hB_w4 : Below (X).heap.size (X) w4 := Below.trans (by (repeat (first | exact Below.refl _ _ | assumption | refine Below.setCell ?_ (by first | omega | (simp <;> omega)) _ | refine Below.alloc ?_ (by first | omega | (simp <;> omega)) _ | refine Below.drew ?_ | refine below_drewN' ?_ _))) (hb_w4.mono (by first | omega | (simp <;> omega))); obtain ⟨hc_w4, hf_w4⟩ := bcell hb_w4; have hz_w4 := hb_w4.size; (try simp only [size_drew', size_drewN', World.size_alloc, World.size_setCell] at hz_w4))
      | (go_at_call 26; (with_reducible refine (H4.out _).mono ?_); rintro e w5 ⟨rfl, hb_w5⟩; have hB_w5 : Below (X).heap.size (X) w5 := Below.trans (by (repeat (first | exact Below.refl _ _ | assumption | refine Below.setCell ?_ (by first | omega | (simp <;> omega)) _ | refine Below.alloc ?_ (by first | omega | (simp <;> omega)) _ | refine Below.drew ?_ | refine below_drewN' ?_ _))) (hb_w5.mono (by first | omega | (simp <;> omega))); obtain ⟨hc_w5, hf_w5⟩ := bcell hb_w5; have hz_w5 := hb_w5.size; (try simp only [size_drew', size_drewN', World.size_alloc, World.size_setCell] at hz_w5)))
  go_upto_region 4 with (fail)
  have hz5 : X.heap.size ≤ w5.heap.size := hB_w5.size
  have cw50 : w5.cell? ⟨w.heap.size, 0, none⟩ = some (.int .i64 c1) := (Below.cell (B := X.heap.size) (w := X) (p := ⟨w.heap.size, 0, none⟩) (by (repeat (first | exact Below.refl _ _ | assumption | refine Below.setCell ?_ (by first | omega | (simp <;> omega)) _ | refine Below.alloc ?_ (by first | omega | (simp <;> omega)) _ | refine Below.drew ?_ | refine below_drewN' ?_ _))) lX0).trans cX0
  have cw51 : w5.cell? ⟨w.heap.size, 1, none⟩ = some (.int .i64 d1) := (Below.cell (B := X.heap.size) (w := X) (p := ⟨w.heap.size, 1, none⟩) (by (repeat (first | exact Below.refl _ _ | assumption | refine Below.setCell ?_ (by first | omega | (simp <;> omega)) _ | refine Below.alloc ?_ (by first | omega | (simp <;> omega)) _ | refine Below.drew ?_ | refine below_drewN' ?_ _))) lX0).trans cX1
  have cw52 : w5.cell? ⟨w.heap.size, 2, none⟩ = some (.bool a1) := (Below.cell (B := X.heap.size) (w := X) (p := ⟨w.heap.size, 2, none⟩) (by (repeat (first | exact Below.refl _ _ | assumption | refine Below.setCell ?_ (by first | omega | (simp <;> omega)) _ | refine Below.alloc ?_ (by first | omega | (simp <;> omega)) _ | refine Below.drew ?_ | refine below_drewN' ?_ _))) lX0).trans cX2
  have cw53 : w5.cell? ⟨w.heap.size, 3, none⟩ = some (.bool b1) := (Below.cell (B := X.heap.size) (w := X) (p := ⟨w.heap.size, 3, none⟩) (by (repeat (first | exact Below.refl _ _ | assumption | refine Below.setCell ?_ (by first | omega | (simp <;> omega)) _ | refine Below.alloc ?_ (by first | omega | (simp <;> omega)) _ | refine Below.drew ?_ | refine below_drewN' ?_ _))) lX0).trans cX3
  have cw54 : w5.cell? ⟨w.heap.size + 1, 0, none⟩ = some (.int .i64 c2) := (Below.cell (B := X.heap.size) (w := X) (p := ⟨w.heap.size + 1, 0, none⟩) (by (repeat (first | exact Below.refl _ _ | assumption | refine Below.setCell ?_ (by first | omega | (simp <;> omega)) _ | refine Below.alloc ?_ (by first | omega | (simp <;> omega)) _ | refine Below.drew ?_ | refine below_drewN' ?_ _))) lX1).trans cX4
  have cw55 : w5.cell? ⟨w.heap.size + 1, 1, none⟩ = some (.int .i64 d2) := (Below.cell (B := X.heap.size) (w := X) (p := ⟨w.heap.size + 1, 1, none⟩) (by (repeat (first | exact Below.refl _ _ | assumption | refine Below.setCell ?_ (by first | omega | (simp <;> omega)) _ | refine Below.alloc ?_ (by first | omega | (simp <;> omega)) _ | refine Below.drew ?_ | refine below_drewN' ?_ _))) lX1).trans cX5
  have cw56 : w5.cell? ⟨w.heap.size + 1, 2, none⟩ = some (.bool a2) := (Below.cell (B := X.heap.size) (w := X) (p := ⟨w.heap.size + 1, 2, none⟩) (by (repeat (first | exact Below.refl _ _ | assumption | refine Below.setCell ?_ (by first | omega | (simp <;> omega)) _ | refine Below.alloc ?_ (by first | omega | (simp <;> omega)) _ | refine Below.drew ?_ | refine below_drewN' ?_ _))) lX1).trans cX6
  have cw57 : w5.cell? ⟨w.heap.size + 1, 3, none⟩ = some (.bool b2) := (Below.cell (B := X.heap.size) (w := X) (p := ⟨w.heap.size + 1, 3, none⟩) (by (repeat (first | exact Below.refl _ _ | assumption | refine Below.setCell ?_ (by first | omega | (simp <;> omega)) _ | refine Below.alloc ?_ (by first | omega | (simp <;> omega)) _ | refine Below.drew ?_ | refine below_drewN' ?_ _))) lX1).trans cX7
  have cw58 : w5.cell? ⟨w.heap.size + 1 + 1, 0, none⟩ = some (.int .i64 c) := (Below.cell (B := X.heap.size) (w := X) (p := ⟨w.heap.size + 1 + 1, 0, none⟩) (by (repeat (first | exact Below.refl _ _ | assumption | refine Below.setCell ?_ (by first | omega | (simp <;> omega)) _ | refine Below.alloc ?_ (by first | omega | (simp <;> omega)) _ | refine Below.drew ?_ | refine below_drewN' ?_ _))) lX2).trans cX8
  have cw59 : w5.cell? ⟨w.heap.size + 1 + 1, 1, none⟩ = some (.int .i64 d) := (Below.cell (B := X.heap.size) (w := X) (p := ⟨w.heap.size + 1 + 1, 1, none⟩) (by (repeat (first | exact Below.refl _ _ | assumption | refine Below.setCell ?_ (by first | omega | (simp <;> omega)) _ | refine Below.alloc ?_ (by first | omega | (simp <;> omega)) _ | refine Below.drew ?_ | refine below_drewN' ?_ _))) lX2).trans cX9
  have cw510 : w5.cell? ⟨w.heap.size + 1 + 1, 2, none⟩ = some (.bool a) := (Below.cell (B := X.heap.size) (w := X) (p := ⟨w.heap.size + 1 + 1, 2, none⟩) (by (repeat (first | exact Below.refl _ _ | assumption | refine Below.setCell ?_ (by first | omega | (simp <;> omega)) _ | refine Below.alloc ?_ (by first | omega | (simp <;> omega)) _ | refine Below.drew ?_ | refine below_drewN' ?_ _))) lX2).trans cX10
  have cw511 : w5.cell? ⟨w.heap.size + 1 + 1, 3, none⟩ = some (.bool b) := (Below.cell (B := X.heap.size) (w := X) (p := ⟨w.heap.size + 1 + 1, 3, none⟩) (by (repeat (first | exact Below.refl _ _ | assumption | refine Below.setCell ?_ (by first | omega | (simp <;> omega)) _ | refine Below.alloc ?_ (by first | omega | (simp <;> omega)) _ | refine Below.drew ?_ | refine below_drewN' ?_ _))) lX2).trans cX11
  have lw50 : w.heap.size < w5.heap.size := by omega
  have lw51 : w.heap.size + 1 < w5.heap.size := by omega
  have lw52 : w.heap.size + 1 + 1 < w5.heap.size := by omega
  have HB5 := Lib.hid (HB.out.trans (hB_w5.mono hzX))
  have hz6 : w.heap.size ≤ w5.heap.size := by omega
  clear hb_w2 hB_w2 hc_w2 hf_w2 hb_w3 hB_w3 hc_w3 hf_w3 hb_w4 hB_w4 hc_w4 hf_w4 hb_w5 hB_w5 hc_w5 hf_w5 HB
  by_cases hk : 3000 < (N : Int)
  · go_wp2_with (go_at_call 24; (with_reducible refine (H1.out _).mono ?_); rintro e w6 ⟨rfl, hb_w6⟩; have hB_w6 : Below (w5).heap.size (w5) w6 := Below.trans (by (repeat (first | exact Below.refl _ _ | assumption | refine Below.setCell ?_ (by first | omega | (simp <;> omega)) _ | refine Below.alloc ?_ (by first | omega | (simp <;> omega)) _ | refine Below.drew ?_ | refine below_drewN' ?_ _))) (hb_w6.mono (by first | omega | (simp <;> omega))); obtain ⟨hc_w6, hf_w6⟩ := bcell hb_w6; have hz_w6 := hb_w6.size; (try simp only [size_drew', size_drewN', World.size_alloc, World.size_setCell] at hz_w6))
    go_ret
    exact RetB.of rfl (HB5.out.trans ((by (repeat (first | exact Below.refl _ _ | assumption | refine Below.setCell ?_ (by first | omega | (simp <;> omega)) _ | refine Below.alloc ?_ (by first | omega | (simp <;> omega)) _ | refine Below.drew ?_ | refine below_drewN' ?_ _)) : Below w5.heap.size w5 _).mono hz6))
  · have h9 := H5.out (by have := HN.out; omega)
    have hNN : N ≤ 3000 := by omega
    have HA := Lib.hid h9; clear h9
    go_wp2_with (first
      | (go_at_call 29; (with_reducible refine (HA.out _).mono ?_); rintro e w7 ⟨v1, rfl, hrow, hb_w7⟩; have hB_w7 : Below w5.heap.size w5 w7 := Below.trans (by (repeat (first | exact Below.refl _ _ | assumption | refine Below.setCell ?_ (by first | omega | (simp <;> omega)) _ | refine Below.alloc ?_ (by first | omega | (simp <;> omega)) _ | refine Below.drew ?_ | refine below_drewN' ?_ _))) (hb_w7.mono (by first | omega | (simp <;> omega))); have hz_w7 := hB_w7.size; clear hb_w7; obtain ⟨⟨av, cv, hv⟩, _⟩ := id hrow; rw [← HN.out] at hv; subst hv; have HROW := Lib.hid hrow; clear hrow; (have c7_0 := (hB_w7.cell (p := ⟨w.heap.size, 0, none⟩) (by omega)).trans cw50); (have c7_1 := (hB_w7.cell (p := ⟨w.heap.size, 1, none⟩) (by omega)).trans cw51); (have c7_2 := (hB_w7.cell (p := ⟨w.heap.size, 2, none⟩) (by omega)).trans cw52); (have c7_3 := (hB_w7.cell (p := ⟨w.heap.size, 3, none⟩) (by omega)).trans cw53); (have c7_4 := (hB_w7.cell (p := ⟨w.heap.size + 1, 0, none⟩) (by omega)).trans cw54); (have c7_5 := (hB_w7.cell (p := ⟨w.heap.size + 1, 1, none⟩) (by omega)).trans cw55); (have c7_6 := (hB_w7.cell (p := ⟨w.heap.size + 1, 2, none⟩) (by omega)).trans cw56); (have c7_7 := (hB_w7.cell (p := ⟨w.heap.size + 1, 3, none⟩) (by omega)).trans cw57))
      | (go_at_call 24; (with_reducible refine (H1.out _).mono ?_); rintro e w8 ⟨rfl, hb_w8⟩; have hB_w8 : Below (w7).heap.size (w7) w8 := Below.trans (by (repeat (first | exact Below.refl _ _ | assumption | refine Below.setCell ?_ (by first | omega | (simp <;> omega)) _ | refine Below.alloc ?_ (by first | omega | (simp <;> omega)) _ | refine Below.drew ?_ | refine below_drewN' ?_ _))) (hb_w8.mono (by first | omega | (simp <;> omega))); obtain ⟨hc_w8, hf_w8⟩ := bcell hb_w8; have hz_w8 := hb_w8.size; (try simp only [size_drew', size_drewN', World.size_alloc, World.size_setCell] at hz_w8))
      | (go_at_call 24; (with_reducible refine (H1.out _).mono ?_); rintro e w6 ⟨rfl, hb_w6⟩; have hB_w6 : Below (w5).heap.size (w5) w6 := Below.trans (by (repeat (first | exact Below.refl _ _ | assumption | refine Below.setCell ?_ (by first | omega | (simp <;> omega)) _ | refine Below.alloc ?_ (by first | omega | (simp <;> omega)) _ | refine Below.drew ?_ | refine below_drewN' ?_ _))) (hb_w6.mono (by first | omega | (simp <;> omega))); obtain ⟨hc_w6, hf_w6⟩ := bcell hb_w6; have hz_w6 := hb_w6.size; (try simp only [size_drew', size_drewN', World.size_alloc, World.size_setCell] at hz_w6); have hl0_w6 : w.heap.size < w6.heap.size := (by omega); have hm0_w6 : w.heap.size ≤ w6.heap.size := (by omega); have hn0_w6 : ¬ w.heap.size = w6.heap.size := (by omega); have hq0_w6 : ¬ w6.heap.size = w.heap.size := (by omega); have hr0_w6 := fun o => hc_w6 (w.heap.size) o (by (try simp only [size_drew', size_drewN', World.size_alloc, World.size_setCell]); omega); have hg0_w6 := fun o => hf_w6 (w.heap.size) o (by (try simp only [size_drew', size_drewN', World.size_alloc, World.size_setCell]); omega); have hl1_w6 : w.heap.size + 1 < w6.heap.size := (by omega); have hm1_w6 : w.heap.size + 1 ≤ w6.heap.size := (by omega); have hn1_w6 : ¬ w.heap.size + 1 = w6.heap.size := (by omega); have hq1_w6 : ¬ w6.heap.size = w.heap.size + 1 := (by omega); have hr1_w6 := fun o => hc_w6 (w.heap.size + 1) o (by (try simp only [size_drew', size_drewN', World.size_alloc, World.size_setCell]); omega); have hg1_w6 := fun o => hf_w6 (w.heap.size + 1) o (by (try simp only [size_drew', size_drewN', World.size_alloc, World.size_setCell]); omega)))
    go_loopw [9, 10] (fun m i wr => ∃ k : Nat, k ≤ N ∧ i = .int .i64 k ∧ m = .bool ((L.take k).any fun x => decide (x = ⟨c, d, false, false⟩)) ∧ Below w7.heap.size w7 wr) (fun _ i _ => N - (intOf i).toNat)
    case atStart => exact ⟨0, Nat.zero_le _, rfl, by simp, by (repeat (first | exact Below.refl _ _ | assumption | refine Below.setCell ?_ (by first | omega | (simp <;> omega)) _ | refine Below.alloc ?_ (by first | omega | (simp <;> omega)) _ | refine Below.drew ?_ | refine below_drewN' ?_ _))⟩
    case round =>
      obtain ⟨k, hkN, rfl, rfl, hbw⟩ := hrel
      obtain ⟨met, hmet⟩ : ∃ m, m = ((L.take k).any fun x => decide (x = ⟨c, d, false, false⟩)) := ⟨_, rfl⟩
      rw [← hmet]
      have HMET := Lib.hid hmet; clear hmet
      clear hb_w6 hB_w6 hc_w6 hf_w6 hr0_w6 hg0_w6 hr1_w6 hg1_w6 hb_w8 hB_w8 hc_w8 hf_w8
      have hzr := hbw.size
      have cr0 : wr.cell? ⟨w.heap.size, 0, none⟩ = some (.int .i64 c1) := ((hB_w7.trans (hbw.mono hz_w7)).cell (p := ⟨w.heap.size, 0, none⟩) (by omega)).trans cw50
      have cr1 : wr.cell? ⟨w.heap.size, 1, none⟩ = some (.int .i64 d1) := ((hB_w7.trans (hbw.mono hz_w7)).cell (p := ⟨w.heap.size, 1, none⟩) (by omega)).trans cw51
      have cr2 : wr.cell? ⟨w.heap.size, 2, none⟩ = some (.bool a1) := ((hB_w7.trans (hbw.mono hz_w7)).cell (p := ⟨w.heap.size, 2, none⟩) (by omega)).trans cw52
      have cr3 : wr.cell? ⟨w.heap.size, 3, none⟩ = some (.bool b1) := ((hB_w7.trans (hbw.mono hz_w7)).cell (p := ⟨w.heap.size, 3, none⟩) (by omega)).trans cw53
      have cr4 : wr.cell? ⟨w.heap.size + 1, 0, none⟩ = some (.int .i64 c2) := ((hB_w7.trans (hbw.mono hz_w7)).cell (p := ⟨w.heap.size + 1, 0, none⟩) (by omega)).trans cw54
      have cr5 : wr.cell? ⟨w.heap.size + 1, 1, none⟩ = some (.int .i64 d2) := ((hB_w7.trans (hbw.mono hz_w7)).cell (p := ⟨w.heap.size + 1, 1, none⟩) (by omega)).trans cw55
      have cr6 : wr.cell? ⟨w.heap.size + 1, 2, none⟩ = some (.bool a2) := ((hB_w7.trans (hbw.mono hz_w7)).cell (p := ⟨w.heap.size + 1, 2, none⟩) (by omega)).trans cw56
      have cr7 : wr.cell? ⟨w.heap.size + 1, 3, none⟩ = some (.bool b2) := ((hB_w7.trans (hbw.mono hz_w7)).cell (p := ⟨w.heap.size + 1, 3, none⟩) (by omega)).trans cw57
      have cr8 : wr.cell? ⟨w.heap.size + 1 + 1, 0, none⟩ = some (.int .i64 c) := ((hB_w7.trans (hbw.mono hz_w7)).cell (p := ⟨w.heap.size + 1 + 1, 0, none⟩) (by omega)).trans cw58
      have cr9 : wr.cell? ⟨w.heap.size + 1 + 1, 1, none⟩ = some (.int .i64 d) := ((hB_w7.trans (hbw.mono hz_w7)).cell (p := ⟨w.heap.size + 1 + 1, 1, none⟩) (by omega)).trans cw59
      have cr10 : wr.cell? ⟨w.heap.size + 1 + 1, 2, none⟩ = some (.bool a) := ((hB_w7.trans (hbw.mono hz_w7)).cell (p := ⟨w.heap.size + 1 + 1, 2, none⟩) (by omega)).trans cw510
      have cr11 : wr.cell? ⟨w.heap.size + 1 + 1, 3, none⟩ = some (.bool b) := ((hB_w7.trans (hbw.mono hz_w7)).cell (p := ⟨w.heap.size + 1 + 1, 3, none⟩) (by omega)).trans cw511
      have lr0 : w.heap.size < wr.heap.size := by omega
      have lr1 : w.heap.size + 1 < wr.heap.size := by omega
      have lr2 : w.heap.size + 1 + 1 < wr.heap.size := by omega
      have HBR := Lib.hid (HB5.out.trans ((hB_w7.trans (hbw.mono hz_w7)).mono hz6))
      by_cases hlt : k < N
      · obtain ⟨g, cap, hv, hg, hfc⟩ := HROW.out.some (by have := HN.out; omega)
        simp only [Value.slice.injEq] at hv
        obtain ⟨rfl, hNL, rfl⟩ := hv
        clear hNL
        have kL : k < L.length := by have := HN.out; omega
        obtain ⟨s1, s2, s3, s4⟩ := HCI.out k kL
        have hst := any_take_succ L (fun x => decide (x = ⟨c, d, false, false⟩)) k kL
        rw [← HMET.out] at hst
        have hin := fun W => H6.out L[k] s1 W
        have hix := fun W => ce_index_any L[k].col L[k].row L[k].ac L[k].ar W
        have hri : ∀ (hk0 : 0 < k), Ce.index (L[k - 1]'(by omega)) < Ce.index L[k] := fun hk0 => by
          have := HCR.out (k - 1) (by omega)
          simpa only [Nat.sub_add_cancel hk0] using this
        obtain ⟨x0, x1, x2, x3⟩ := hfc k kL
        have HFC := Lib.hid hfc
        obtain ⟨x, hx⟩ : ∃ x, x = L[k] := ⟨_, rfl⟩
        rw [← hx] at x0 x1 x2 x3 s2 s3 hin hix hst
        have hri2 : ∀ (hk0 : 0 < k), Ce.index (L[k - 1]'(by omega)) < Ce.index x := fun hk0 => by rw [hx]; exact hri hk0
        obtain ⟨xc, xr, xa, xb⟩ := x
        simp only at x0 x1 x2 x3 s2 s3 hix
        subst s2 s3
        simp only [rv_mk] at hin
        have lg : g < wr.heap.size := by omega
        have y0 : wr.cell? ⟨g, k * 4, none⟩ = some (.int .i64 xc) := (hbw.cell (p := ⟨g, k * 4, none⟩) hg).trans x0
        have y1 : wr.cell? ⟨g, k * 4 + 1, none⟩ = some (.int .i64 xr) := (hbw.cell (p := ⟨g, k * 4 + 1, none⟩) hg).trans x1
        have y2 : wr.cell? ⟨g, k * 4 + 2, none⟩ = some (.bool false) := (hbw.cell (p := ⟨g, k * 4 + 2, none⟩) hg).trans x2
        have y3 : wr.cell? ⟨g, k * 4 + 3, none⟩ = some (.bool false) := (hbw.cell (p := ⟨g, k * 4 + 3, none⟩) hg).trans x3
        obtain ⟨ix, hix2⟩ : ∃ z, z = Ce.index ⟨xc, xr, false, false⟩ := ⟨_, rfl⟩
        rw [← hix2] at hix hri2
        have hixb : -1 ≤ ix ∧ ix < 64000 := by rw [hix2]; exact Ce.index_bd _
        have HIN := Lib.hid hin; have HIX := Lib.hid hix; have HRI := Lib.hid hri2; have HST := Lib.hid hst
        clear hin hix hri hri2 hst hx hix2 s1 s4 x0 x1 x2 x3 hfc
        have i0 : (0 : Int) ≤ (k : Int) := by omega
        have i1 : (k : Int) < (N : Int) := by omega
        have i2 : (N : Int) ≤ 3000 := by omega
        go_upto_region 13 with (fail)
        go_cut [11] (fun u w' => u = .bool true ∧ Below wr.heap.size wr w')
        case first => as_aux_lemma =>
          have cwr0 := cr0
          have cwr1 := cr1
          have cwr2 := cr2
          have cwr3 := cr3
          have cwr4 := cr4
          have cwr5 := cr5
          have cwr6 := cr6
          have cwr7 := cr7
          have cwr8 := y0
          have cwr9 := y1
          have cwr10 := y2
          have cwr11 := y3
          have lwr0 := lr0
          have lwr1 := lr1
          have lwr2 := lg
          go_region_held3 (fun w' => w'.cell? ⟨w.heap.size, 0, none⟩ = some (.int .i64 c1) ∧ w'.cell? ⟨w.heap.size, 1, none⟩ = some (.int .i64 d1) ∧ w'.cell? ⟨w.heap.size, 2, none⟩ = some (.bool a1) ∧ w'.cell? ⟨w.heap.size, 3, none⟩ = some (.bool b1) ∧ w'.cell? ⟨w.heap.size + 1, 0, none⟩ = some (.int .i64 c2) ∧ w'.cell? ⟨w.heap.size + 1, 1, none⟩ = some (.int .i64 d2) ∧ w'.cell? ⟨w.heap.size + 1, 2, none⟩ = some (.bool a2) ∧ w'.cell? ⟨w.heap.size + 1, 3, none⟩ = some (.bool b2) ∧ w'.cell? ⟨g, k * 4, none⟩ = some (.int .i64 xc) ∧ w'.cell? ⟨g, k * 4 + 1, none⟩ = some (.int .i64 xr) ∧ w'.cell? ⟨g, k * 4 + 2, none⟩ = some (.bool false) ∧ w'.cell? ⟨g, k * 4 + 3, none⟩ = some (.bool false))
            (first | exact ⟨(Below.cell (B := wr.heap.size) (w := wr) (p := ⟨w.heap.size, 0, none⟩) (by (repeat (first | exact Below.refl _ _ | assumption | refine Below.setCell ?_ (by first | omega | (simp <;> omega)) _ | refine Below.alloc ?_ (by first | omega | (simp <;> omega)) _ | refine Below.drew ?_ | refine below_drewN' ?_ _))) lwr0).trans cwr0, (Below.cell (B := wr.heap.size) (w := wr) (p := ⟨w.heap.size, 1, none⟩) (by (repeat (first | exact Below.refl _ _ | assumption | refine Below.setCell ?_ (by first | omega | (simp <;> omega)) _ | refine Below.alloc ?_ (by first | omega | (simp <;> omega)) _ | refine Below.drew ?_ | refine below_drewN' ?_ _))) lwr0).trans cwr1, (Below.cell (B := wr.heap.size) (w := wr) (p := ⟨w.heap.size, 2, none⟩) (by (repeat (first | exact Below.refl _ _ | assumption | refine Below.setCell ?_ (by first | omega | (simp <;> omega)) _ | refine Below.alloc ?_ (by first | omega | (simp <;> omega)) _ | refine Below.drew ?_ | refine below_drewN' ?_ _))) lwr0).trans cwr2, (Below.cell (B := wr.heap.size) (w := wr) (p := ⟨w.heap.size, 3, none⟩) (by (repeat (first | exact Below.refl _ _ | assumption | refine Below.setCell ?_ (by first | omega | (simp <;> omega)) _ | refine Below.alloc ?_ (by first | omega | (simp <;> omega)) _ | refine Below.drew ?_ | refine below_drewN' ?_ _))) lwr0).trans cwr3, (Below.cell (B := wr.heap.size) (w := wr) (p := ⟨w.heap.size + 1, 0, none⟩) (by (repeat (first | exact Below.refl _ _ | assumption | refine Below.setCell ?_ (by first | omega | (simp <;> omega)) _ | refine Below.alloc ?_ (by first | omega | (simp <;> omega)) _ | refine Below.drew ?_ | refine below_drewN' ?_ _))) lwr1).trans cwr4, (Below.cell (B := wr.heap.size) (w := wr) (p := ⟨w.heap.size + 1, 1, none⟩) (by (repeat (first | exact Below.refl _ _ | assumption | refine Below.setCell ?_ (by first | omega | (simp <;> omega)) _ | refine Below.alloc ?_ (by first | omega | (simp <;> omega)) _ | refine Below.drew ?_ | refine below_drewN' ?_ _))) lwr1).trans cwr5, (Below.cell (B := wr.heap.size) (w := wr) (p := ⟨w.heap.size + 1, 2, none⟩) (by (repeat (first | exact Below.refl _ _ | assumption | refine Below.setCell ?_ (by first | omega | (simp <;> omega)) _ | refine Below.alloc ?_ (by first | omega | (simp <;> omega)) _ | refine Below.drew ?_ | refine below_drewN' ?_ _))) lwr1).trans cwr6, (Below.cell (B := wr.heap.size) (w := wr) (p := ⟨w.heap.size + 1, 3, none⟩) (by (repeat (first | exact Below.refl _ _ | assumption | refine Below.setCell ?_ (by first | omega | (simp <;> omega)) _ | refine Below.alloc ?_ (by first | omega | (simp <;> omega)) _ | refine Below.drew ?_ | refine below_drewN' ?_ _))) lwr1).trans cwr7, (Below.cell (B := wr.heap.size) (w := wr) (p := ⟨g, k * 4, none⟩) (by (repeat (first | exact Below.refl _ _ | assumption | refine Below.setCell ?_ (by first | omega | (simp <;> omega)) _ | refine Below.alloc ?_ (by first | omega | (simp <;> omega)) _ | refine Below.drew ?_ | refine below_drewN' ?_ _))) lwr2).trans cwr8, (Below.cell (B := wr.heap.size) (w := wr) (p := ⟨g, k * 4 + 1, none⟩) (by (repeat (first | exact Below.refl _ _ | assumption | refine Below.setCell ?_ (by first | omega | (simp <;> omega)) _ | refine Below.alloc ?_ (by first | omega | (simp <;> omega)) _ | refine Below.drew ?_ | refine below_drewN' ?_ _))) lwr2).trans cwr9, (Below.cell (B := wr.heap.size) (w := wr) (p := ⟨g, k * 4 + 2, none⟩) (by (repeat (first | exact Below.refl _ _ | assumption | refine Below.setCell ?_ (by first | omega | (simp <;> omega)) _ | refine Below.alloc ?_ (by first | omega | (simp <;> omega)) _ | refine Below.drew ?_ | refine below_drewN' ?_ _))) lwr2).trans cwr10, (Below.cell (B := wr.heap.size) (w := wr) (p := ⟨g, k * 4 + 3, none⟩) (by (repeat (first | exact Below.refl _ _ | assumption | refine Below.setCell ?_ (by first | omega | (simp <;> omega)) _ | refine Below.alloc ?_ (by first | omega | (simp <;> omega)) _ | refine Below.drew ?_ | refine below_drewN' ?_ _))) lwr2).trans cwr11⟩ | go_keep)
            (first
              | (go_at_call 26; (with_reducible refine (HIN.out _).mono ?_); rintro e v1 ⟨rfl, hb_v1⟩; have hB_v1 : Below (wr).heap.size (wr) v1 := Below.trans (by (repeat (first | exact Below.refl _ _ | assumption | refine Below.setCell ?_ (by first | omega | (simp <;> omega)) _ | refine Below.alloc ?_ (by first | omega | (simp <;> omega)) _ | refine Below.drew ?_ | refine below_drewN' ?_ _))) (hb_v1.mono (by first | omega | (simp <;> omega))); obtain ⟨hc_v1, hf_v1⟩ := bcell hb_v1; have hz_v1 := hb_v1.size; (try simp only [size_drew', size_drewN', World.size_alloc, World.size_setCell] at hz_v1)))
          all_goals (go_wp2_with fail)
          all_goals go_meet
          all_goals exact ⟨rfl, by (repeat (first | exact Below.refl _ _ | assumption | refine Below.setCell ?_ (by first | omega | (simp <;> omega)) _ | refine Below.alloc ?_ (by first | omega | (simp <;> omega)) _ | refine Below.drew ?_ | refine below_drewN' ?_ _))⟩
        case rest => as_aux_lemma =>
          obtain ⟨rfl, hbc⟩ := hcut
          have hzc := hbc.size
          have lgc : g < wc.heap.size := by omega
          have z0 := (hbc.cell (p := ⟨g, k * 4, none⟩) lg).trans y0
          have z1 := (hbc.cell (p := ⟨g, k * 4 + 1, none⟩) lg).trans y1
          have z2 := (hbc.cell (p := ⟨g, k * 4 + 2, none⟩) lg).trans y2
          have z3 := (hbc.cell (p := ⟨g, k * 4 + 3, none⟩) lg).trans y3
          have u0 := (hbc.cell (p := ⟨w.heap.size + 1 + 1, 0, none⟩) lr2).trans cr8
          have u1 := (hbc.cell (p := ⟨w.heap.size + 1 + 1, 1, none⟩) lr2).trans cr9
          have lu : w.heap.size + 1 + 1 < wc.heap.size := by omega
          have HBC := Lib.hid hbc
          have prev : ∀ hk0 : 0 < k, ∃ (pc pr : Int) (pa pb : Bool) (px : Int), wc.cell? ⟨g, (k - 1) * 4, none⟩ = some (.int .i64 pc) ∧ wc.cell? ⟨g, (k - 1) * 4 + 1, none⟩ = some (.int .i64 pr) ∧ wc.cell? ⟨g, (k - 1) * 4 + 2, none⟩ = some (.bool pa) ∧ wc.cell? ⟨g, (k - 1) * 4 + 3, none⟩ = some (.bool pb) ∧ px < ix ∧ -1 ≤ px ∧ ∀ W, Calls Tryd.prog 19 #[.agg #[.int .i64 pc, .int .i64 pr, .bool pa, .bool pb]] W (RetB (.int .i64 px) W) := fun hk0 => by
            obtain ⟨f0, f1, f2, f3⟩ := HFC.out (k - 1) (by omega)
            have tr := fun (o : Nat) => (hbc.cell (p := ⟨g, o, none⟩) lg).trans (hbw.cell (p := ⟨g, o, none⟩) hg)
            exact ⟨_, _, _, _, _, (tr _).trans f0, (tr _).trans f1, (tr _).trans f2, (tr _).trans f3, HRI.out hk0, (Ce.index_bd _).1, fun W => ce_index_any _ _ _ _ W⟩
          have HPREV := Lib.hid prev
          clear prev hbc y0 y1 y2 y3
          go_upto_region 14 with (fail)
          go_cut [94] (fun u w' => u = .bool false ∧ Below wc.heap.size wc w')
          case first => as_aux_lemma =>
            by_cases hk0 : 0 < k
            · obtain ⟨pc, pr, pa, pb, px, f0, f1, f2, f3, hpx, hpx2, hpi⟩ := HPREV.out hk0
              have HPI := Lib.hid hpi; clear hpi
              have j0 : (0 : Int) ≤ (k : Int) - 1 := by omega
              have j1 : (k : Int) - 1 < (N : Int) := by omega
              have j2 : (1 : Int) ≤ (k : Int) := by omega
              have j5 : (0 : Int) < (k : Int) := by omega
              have j3 : IntKind.i64.wrap ((k : Int) - 1) = (k : Int) - 1 := IntWalk.i64_in _ (by omega)
              have j4 : ((k : Int) - 1).toNat = k - 1 := by omega
              have j7 : decide (ix ≤ px) = false := by simpa using hpx
              have j8 : decide ((0 : Int) < (k : Int)) = true := by simpa using j5
              have cwc0 := z0
              have cwc1 := z1
              have cwc2 := z2
              have cwc3 := z3
              have cwc4 := f0
              have cwc5 := f1
              have cwc6 := f2
              have cwc7 := f3
              have lwc0 := lgc
              go_region_held3 (fun w' => w'.cell? ⟨g, k * 4, none⟩ = some (.int .i64 xc) ∧ w'.cell? ⟨g, k * 4 + 1, none⟩ = some (.int .i64 xr) ∧ w'.cell? ⟨g, k * 4 + 2, none⟩ = some (.bool false) ∧ w'.cell? ⟨g, k * 4 + 3, none⟩ = some (.bool false) ∧ w'.cell? ⟨g, (k - 1) * 4, none⟩ = some (.int .i64 pc) ∧ w'.cell? ⟨g, (k - 1) * 4 + 1, none⟩ = some (.int .i64 pr) ∧ w'.cell? ⟨g, (k - 1) * 4 + 2, none⟩ = some (.bool pa) ∧ w'.cell? ⟨g, (k - 1) * 4 + 3, none⟩ = some (.bool pb))
                (first | exact ⟨(Below.cell (B := wc.heap.size) (w := wc) (p := ⟨g, k * 4, none⟩) (by (repeat (first | exact Below.refl _ _ | assumption | refine Below.setCell ?_ (by first | omega | (simp <;> omega)) _ | refine Below.alloc ?_ (by first | omega | (simp <;> omega)) _ | refine Below.drew ?_ | refine below_drewN' ?_ _))) lwc0).trans cwc0, (Below.cell (B := wc.heap.size) (w := wc) (p := ⟨g, k * 4 + 1, none⟩) (by (repeat (first | exact Below.refl _ _ | assumption | refine Below.setCell ?_ (by first | omega | (simp <;> omega)) _ | refine Below.alloc ?_ (by first | omega | (simp <;> omega)) _ | refine Below.drew ?_ | refine below_drewN' ?_ _))) lwc0).trans cwc1, (Below.cell (B := wc.heap.size) (w := wc) (p := ⟨g, k * 4 + 2, none⟩) (by (repeat (first | exact Below.refl _ _ | assumption | refine Below.setCell ?_ (by first | omega | (simp <;> omega)) _ | refine Below.alloc ?_ (by first | omega | (simp <;> omega)) _ | refine Below.drew ?_ | refine below_drewN' ?_ _))) lwc0).trans cwc2, (Below.cell (B := wc.heap.size) (w := wc) (p := ⟨g, k * 4 + 3, none⟩) (by (repeat (first | exact Below.refl _ _ | assumption | refine Below.setCell ?_ (by first | omega | (simp <;> omega)) _ | refine Below.alloc ?_ (by first | omega | (simp <;> omega)) _ | refine Below.drew ?_ | refine below_drewN' ?_ _))) lwc0).trans cwc3, (Below.cell (B := wc.heap.size) (w := wc) (p := ⟨g, (k - 1) * 4, none⟩) (by (repeat (first | exact Below.refl _ _ | assumption | refine Below.setCell ?_ (by first | omega | (simp <;> omega)) _ | refine Below.alloc ?_ (by first | omega | (simp <;> omega)) _ | refine Below.drew ?_ | refine below_drewN' ?_ _))) lwc0).trans cwc4, (Below.cell (B := wc.heap.size) (w := wc) (p := ⟨g, (k - 1) * 4 + 1, none⟩) (by (repeat (first | exact Below.refl _ _ | assumption | refine Below.setCell ?_ (by first | omega | (simp <;> omega)) _ | refine Below.alloc ?_ (by first | omega | (simp <;> omega)) _ | refine Below.drew ?_ | refine below_drewN' ?_ _))) lwc0).trans cwc5, (Below.cell (B := wc.heap.size) (w := wc) (p := ⟨g, (k - 1) * 4 + 2, none⟩) (by (repeat (first | exact Below.refl _ _ | assumption | refine Below.setCell ?_ (by first | omega | (simp <;> omega)) _ | refine Below.alloc ?_ (by first | omega | (simp <;> omega)) _ | refine Below.drew ?_ | refine below_drewN' ?_ _))) lwc0).trans cwc6, (Below.cell (B := wc.heap.size) (w := wc) (p := ⟨g, (k - 1) * 4 + 3, none⟩) (by (repeat (first | exact Below.refl _ _ | assumption | refine Below.setCell ?_ (by first | omega | (simp <;> omega)) _ | refine Below.alloc ?_ (by first | omega | (simp <;> omega)) _ | refine Below.drew ?_ | refine below_drewN' ?_ _))) lwc0).trans cwc7⟩ | go_keep)
                (first
                  | (go_at_call 19; (with_reducible refine (HIX.out _).mono ?_); rintro e v1 ⟨rfl, hb_v1⟩; have hB_v1 : Below (wc).heap.size (wc) v1 := Below.trans (by (repeat (first | exact Below.refl _ _ | assumption | refine Below.setCell ?_ (by first | omega | (simp <;> omega)) _ | refine Below.alloc ?_ (by first | omega | (simp <;> omega)) _ | refine Below.drew ?_ | refine below_drewN' ?_ _))) (hb_v1.mono (by first | omega | (simp <;> omega))); obtain ⟨hc_v1, hf_v1⟩ := bcell hb_v1; have hz_v1 := hb_v1.size; (try simp only [size_drew', size_drewN', World.size_alloc, World.size_setCell] at hz_v1))
                  | (go_at_call 19; (with_reducible refine (HPI.out _).mono ?_); rintro e v2 ⟨rfl, hb_v2⟩; have hB_v2 : Below (wc).heap.size (wc) v2 := Below.trans (by (repeat (first | exact Below.refl _ _ | assumption | refine Below.setCell ?_ (by first | omega | (simp <;> omega)) _ | refine Below.alloc ?_ (by first | omega | (simp <;> omega)) _ | refine Below.drew ?_ | refine below_drewN' ?_ _))) (hb_v2.mono (by first | omega | (simp <;> omega))); obtain ⟨hc_v2, hf_v2⟩ := bcell hb_v2; have hz_v2 := hb_v2.size; (try simp only [size_drew', size_drewN', World.size_alloc, World.size_setCell] at hz_v2)))
              all_goals (go_wp2_with fail)
              all_goals go_meet
              all_goals exact ⟨rfl, by (repeat (first | exact Below.refl _ _ | assumption | refine Below.setCell ?_ (by first | omega | (simp <;> omega)) _ | refine Below.alloc ?_ (by first | omega | (simp <;> omega)) _ | refine Below.drew ?_ | refine below_drewN' ?_ _))⟩
            · have j5 : ¬ (0 : Int) < (k : Int) := by omega
              have j6 : (k : Int) ≤ 0 := by omega
              have j8 : decide ((0 : Int) < (k : Int)) = false := by simpa using j6
              go_quiet (fail)
              go_wp2_with fail
              go_meet
              exact ⟨rfl, by (repeat (first | exact Below.refl _ _ | assumption | refine Below.setCell ?_ (by first | omega | (simp <;> omega)) _ | refine Below.alloc ?_ (by first | omega | (simp <;> omega)) _ | refine Below.drew ?_ | refine below_drewN' ?_ _))⟩
          case rest => as_aux_lemma =>
            obtain ⟨rfl, hbd⟩ := hcut
            have hzd := hbd.size
            have lgd : g < wc.heap.size := by omega
            have t0 := (hbd.cell (p := ⟨g, k * 4, none⟩) lgc).trans z0
            have t1 := (hbd.cell (p := ⟨g, k * 4 + 1, none⟩) lgc).trans z1
            have t2 := (hbd.cell (p := ⟨g, k * 4 + 2, none⟩) lgc).trans z2
            have t3 := (hbd.cell (p := ⟨g, k * 4 + 3, none⟩) lgc).trans z3
            have v0 := (hbd.cell (p := ⟨w.heap.size + 1 + 1, 0, none⟩) lu).trans u0
            have v1 := (hbd.cell (p := ⟨w.heap.size + 1 + 1, 1, none⟩) lu).trans u1
            have lv : w.heap.size + 1 + 1 < wc.heap.size := by omega
            have HBD := Lib.hid (HBC.out.trans (hbd.mono hzc))
            clear hbd z0 z1 z2 z3 u0 u1
            go_upto_region 16 with (fail)
            cases met with
            | true =>
              have hval : (Value.bool true) = .bool (true || decide ((⟨xc, xr, false, false⟩ : Ce.Rf) = ⟨c, d, false, false⟩)) := by simp
              have HV := Lib.hid hval; clear hval
              go_quiet (fail)
              all_goals go_wp2
              all_goals go_roundw
              all_goals first
                | exact ⟨k + 1, by omega, by go_num, HV.out.trans (congrArg Value.bool HST.out.symm), hbw.trans ((HBD.out.trans ((by (repeat (first | exact Below.refl _ _ | assumption | refine Below.setCell ?_ (by first | omega | (simp <;> omega)) _ | refine Below.alloc ?_ (by first | omega | (simp <;> omega)) _ | refine Below.drew ?_ | refine below_drewN' ?_ _)) : Below wc.heap.size wc _).mono (by omega))).mono hzr)⟩
                | (simp [intOf]; omega)
            | false =>
              by_cases heq : xc = c ∧ xr = d
              · obtain ⟨rfl, rfl⟩ := heq
                have hb := refEq_yes xc xr false false
                have hval : (Value.bool true) = .bool (false || decide ((⟨xc, xr, false, false⟩ : Ce.Rf) = ⟨xc, xr, false, false⟩)) := by simp
                have HV := Lib.hid hval; clear hval
                have cwc0 := t0
                have cwc1 := t1
                have cwc2 := t2
                have cwc3 := t3
                have cwc4 := v0
                have cwc5 := v1
                have lwc0 := lgd
                have lwc1 := lv
                go_region_held3 (fun w' => w'.cell? ⟨g, k * 4, none⟩ = some (.int .i64 xc) ∧ w'.cell? ⟨g, k * 4 + 1, none⟩ = some (.int .i64 xr) ∧ w'.cell? ⟨g, k * 4 + 2, none⟩ = some (.bool false) ∧ w'.cell? ⟨g, k * 4 + 3, none⟩ = some (.bool false) ∧ w'.cell? ⟨w.heap.size + 1 + 1, 0, none⟩ = some (.int .i64 xc) ∧ w'.cell? ⟨w.heap.size + 1 + 1, 1, none⟩ = some (.int .i64 xr))
                  (first | exact ⟨(Below.cell (B := wc.heap.size) (w := wc) (p := ⟨g, k * 4, none⟩) (by (repeat (first | exact Below.refl _ _ | assumption | refine Below.setCell ?_ (by first | omega | (simp <;> omega)) _ | refine Below.alloc ?_ (by first | omega | (simp <;> omega)) _ | refine Below.drew ?_ | refine below_drewN' ?_ _))) lwc0).trans cwc0, (Below.cell (B := wc.heap.size) (w := wc) (p := ⟨g, k * 4 + 1, none⟩) (by (repeat (first | exact Below.refl _ _ | assumption | refine Below.setCell ?_ (by first | omega | (simp <;> omega)) _ | refine Below.alloc ?_ (by first | omega | (simp <;> omega)) _ | refine Below.drew ?_ | refine below_drewN' ?_ _))) lwc0).trans cwc1, (Below.cell (B := wc.heap.size) (w := wc) (p := ⟨g, k * 4 + 2, none⟩) (by (repeat (first | exact Below.refl _ _ | assumption | refine Below.setCell ?_ (by first | omega | (simp <;> omega)) _ | refine Below.alloc ?_ (by first | omega | (simp <;> omega)) _ | refine Below.drew ?_ | refine below_drewN' ?_ _))) lwc0).trans cwc2, (Below.cell (B := wc.heap.size) (w := wc) (p := ⟨g, k * 4 + 3, none⟩) (by (repeat (first | exact Below.refl _ _ | assumption | refine Below.setCell ?_ (by first | omega | (simp <;> omega)) _ | refine Below.alloc ?_ (by first | omega | (simp <;> omega)) _ | refine Below.drew ?_ | refine below_drewN' ?_ _))) lwc0).trans cwc3, (Below.cell (B := wc.heap.size) (w := wc) (p := ⟨w.heap.size + 1 + 1, 0, none⟩) (by (repeat (first | exact Below.refl _ _ | assumption | refine Below.setCell ?_ (by first | omega | (simp <;> omega)) _ | refine Below.alloc ?_ (by first | omega | (simp <;> omega)) _ | refine Below.drew ?_ | refine below_drewN' ?_ _))) lwc1).trans cwc4, (Below.cell (B := wc.heap.size) (w := wc) (p := ⟨w.heap.size + 1 + 1, 1, none⟩) (by (repeat (first | exact Below.refl _ _ | assumption | refine Below.setCell ?_ (by first | omega | (simp <;> omega)) _ | refine Below.alloc ?_ (by first | omega | (simp <;> omega)) _ | refine Below.drew ?_ | refine below_drewN' ?_ _))) lwc1).trans cwc5⟩ | go_keep)
                  (first
                    | (go_at_call 20; (with_reducible refine (l15_ref_any _ _ _).mono ?_); rintro e y1 ⟨rfl, hb_y1⟩; have hB_y1 : Below (wc).heap.size (wc) y1 := Below.trans (by (repeat (first | exact Below.refl _ _ | assumption | refine Below.setCell ?_ (by first | omega | (simp <;> omega)) _ | refine Below.alloc ?_ (by first | omega | (simp <;> omega)) _ | refine Below.drew ?_ | refine below_drewN' ?_ _))) (hb_y1.mono (by first | omega | (simp <;> omega))); obtain ⟨hc_y1, hf_y1⟩ := bcell hb_y1; have hz_y1 := hb_y1.size; (try simp only [size_drew', size_drewN', World.size_alloc, World.size_setCell] at hz_y1)))
                all_goals go_wp2
                all_goals go_roundw
                all_goals first
                  | exact ⟨k + 1, by omega, by go_num, HV.out.trans (congrArg Value.bool HST.out.symm), hbw.trans ((HBD.out.trans ((by (repeat (first | exact Below.refl _ _ | assumption | refine Below.setCell ?_ (by first | omega | (simp <;> omega)) _ | refine Below.alloc ?_ (by first | omega | (simp <;> omega)) _ | refine Below.drew ?_ | refine below_drewN' ?_ _)) : Below wc.heap.size wc _).mono (by omega))).mono hzr)⟩
                  | (simp [intOf]; omega)
              · have hb := refEq_no (p2 := false) (p3 := false) (q2 := false) (q3 := false) (p0 := xc) (p1 := xr) (q0 := c) (q1 := d) (fun e => heq ⟨e.1, e.2.1⟩)
                have hval : (Value.bool false) = .bool (false || decide ((⟨xc, xr, false, false⟩ : Ce.Rf) = ⟨c, d, false, false⟩)) := by
                  congr 1; symm; rw [Bool.false_or, decide_eq_false_iff_not]; intro e; injection e with e1 e2; exact heq ⟨e1, e2⟩
                have HV := Lib.hid hval; clear hval heq
                have cwc0 := t0
                have cwc1 := t1
                have cwc2 := t2
                have cwc3 := t3
                have cwc4 := v0
                have cwc5 := v1
                have lwc0 := lgd
                have lwc1 := lv
                go_region_held3 (fun w' => w'.cell? ⟨g, k * 4, none⟩ = some (.int .i64 xc) ∧ w'.cell? ⟨g, k * 4 + 1, none⟩ = some (.int .i64 xr) ∧ w'.cell? ⟨g, k * 4 + 2, none⟩ = some (.bool false) ∧ w'.cell? ⟨g, k * 4 + 3, none⟩ = some (.bool false) ∧ w'.cell? ⟨w.heap.size + 1 + 1, 0, none⟩ = some (.int .i64 c) ∧ w'.cell? ⟨w.heap.size + 1 + 1, 1, none⟩ = some (.int .i64 d))
                  (first | exact ⟨(Below.cell (B := wc.heap.size) (w := wc) (p := ⟨g, k * 4, none⟩) (by (repeat (first | exact Below.refl _ _ | assumption | refine Below.setCell ?_ (by first | omega | (simp <;> omega)) _ | refine Below.alloc ?_ (by first | omega | (simp <;> omega)) _ | refine Below.drew ?_ | refine below_drewN' ?_ _))) lwc0).trans cwc0, (Below.cell (B := wc.heap.size) (w := wc) (p := ⟨g, k * 4 + 1, none⟩) (by (repeat (first | exact Below.refl _ _ | assumption | refine Below.setCell ?_ (by first | omega | (simp <;> omega)) _ | refine Below.alloc ?_ (by first | omega | (simp <;> omega)) _ | refine Below.drew ?_ | refine below_drewN' ?_ _))) lwc0).trans cwc1, (Below.cell (B := wc.heap.size) (w := wc) (p := ⟨g, k * 4 + 2, none⟩) (by (repeat (first | exact Below.refl _ _ | assumption | refine Below.setCell ?_ (by first | omega | (simp <;> omega)) _ | refine Below.alloc ?_ (by first | omega | (simp <;> omega)) _ | refine Below.drew ?_ | refine below_drewN' ?_ _))) lwc0).trans cwc2, (Below.cell (B := wc.heap.size) (w := wc) (p := ⟨g, k * 4 + 3, none⟩) (by (repeat (first | exact Below.refl _ _ | assumption | refine Below.setCell ?_ (by first | omega | (simp <;> omega)) _ | refine Below.alloc ?_ (by first | omega | (simp <;> omega)) _ | refine Below.drew ?_ | refine below_drewN' ?_ _))) lwc0).trans cwc3, (Below.cell (B := wc.heap.size) (w := wc) (p := ⟨w.heap.size + 1 + 1, 0, none⟩) (by (repeat (first | exact Below.refl _ _ | assumption | refine Below.setCell ?_ (by first | omega | (simp <;> omega)) _ | refine Below.alloc ?_ (by first | omega | (simp <;> omega)) _ | refine Below.drew ?_ | refine below_drewN' ?_ _))) lwc1).trans cwc4, (Below.cell (B := wc.heap.size) (w := wc) (p := ⟨w.heap.size + 1 + 1, 1, none⟩) (by (repeat (first | exact Below.refl _ _ | assumption | refine Below.setCell ?_ (by first | omega | (simp <;> omega)) _ | refine Below.alloc ?_ (by first | omega | (simp <;> omega)) _ | refine Below.drew ?_ | refine below_drewN' ?_ _))) lwc1).trans cwc5⟩ | go_keep)
                  (first
                    | (go_at_call 20; (with_reducible refine (l15_ref_any _ _ _).mono ?_); rintro e y1 ⟨rfl, hb_y1⟩; have hB_y1 : Below (wc).heap.size (wc) y1 := Below.trans (by (repeat (first | exact Below.refl _ _ | assumption | refine Below.setCell ?_ (by first | omega | (simp <;> omega)) _ | refine Below.alloc ?_ (by first | omega | (simp <;> omega)) _ | refine Below.drew ?_ | refine below_drewN' ?_ _))) (hb_y1.mono (by first | omega | (simp <;> omega))); obtain ⟨hc_y1, hf_y1⟩ := bcell hb_y1; have hz_y1 := hb_y1.size; (try simp only [size_drew', size_drewN', World.size_alloc, World.size_setCell] at hz_y1)))
                all_goals go_wp2
                all_goals go_roundw
                all_goals first
                  | exact ⟨k + 1, by omega, by go_num, HV.out.trans (congrArg Value.bool HST.out.symm), hbw.trans ((HBD.out.trans ((by (repeat (first | exact Below.refl _ _ | assumption | refine Below.setCell ?_ (by first | omega | (simp <;> omega)) _ | refine Below.alloc ?_ (by first | omega | (simp <;> omega)) _ | refine Below.drew ?_ | refine below_drewN' ?_ _)) : Below wc.heap.size wc _).mono (by omega))).mono hzr)⟩
                  | (simp [intOf]; omega)
      · have hkk : k = N := by omega
        have hm := HMET.out
        rw [hkk, List.take_of_length_le (by have := HN.out; omega), HM.out] at hm
        subst hm
        clear hkk
        go_wp2_with (go_at_call 26; (with_reducible refine (H3.out _).mono ?_); rintro e v1 ⟨rfl, hb_v1⟩; have hB_v1 : Below (wr).heap.size (wr) v1 := Below.trans (by (repeat (first | exact Below.refl _ _ | assumption | refine Below.setCell ?_ (by first | omega | (simp <;> omega)) _ | refine Below.alloc ?_ (by first | omega | (simp <;> omega)) _ | refine Below.drew ?_ | refine below_drewN' ?_ _))) (hb_v1.mono (by first | omega | (simp <;> omega))); obtain ⟨hc_v1, hf_v1⟩ := bcell hb_v1; have hz_v1 := hb_v1.size; (try simp only [size_drew', size_drewN', World.size_alloc, World.size_setCell] at hz_v1))
        go_ret
        exact RetB.of rfl (HBR.out.trans ((by (repeat (first | exact Below.refl _ _ | assumption | refine Below.setCell ?_ (by first | omega | (simp <;> omega)) _ | refine Below.alloc ?_ (by first | omega | (simp <;> omega)) _ | refine Below.drew ?_ | refine below_drewN' ?_ _)) : Below wr.heap.size wr _).mono (by have := HBR.out.size; omega)))
end Go.Proofs.YtbbeeglfgnabmaaDoor
