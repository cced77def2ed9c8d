/- The law CellMoves, walked. -/
import Derived.Test.YtbbeeglfgnabmaaDoorT76
namespace Go.Proofs.YtbbeeglfgnabmaaDoor
set_option linter.all false
open Go.RowKit
attribute [local go_sem high] ref_neq ref_eql ref_guard

theorem moved_form (z : Ce.Rf × Bool) : movedV z = .tuple #[.agg #[.int .i64 z.1.col, .int .i64 z.1.row, .bool z.1.ac, .bool z.1.ar], .bool z.2] := rfl

set_option maxRecDepth 100000 in
set_option maxHeartbeats 2000000 in
theorem l15_moves_any (c d : Int) (a b : Bool) (p q : Int) (w : World) (ht : Tab w) (hp : -9223372036854775808 ≤ p ∧ p ≤ 9223372036854775807) (hq : -9223372036854775808 ≤ q ∧ q ≤ 9223372036854775807) :
    Calls Tryd.prog 4 #[.agg #[.int .i64 c, .int .i64 d, .bool a, .bool b], .int .i64 p, .int .i64 q] w (RetB (.bool true) w) := by
  have h1 := fun W => ce_moved_any c d a b p q W hp hq
  have h2 := fun W => r15_moved_any c d a b p q W hp hq
  obtain ⟨z, hz⟩ : ∃ z, z = Ce.moved ⟨c, d, a, b⟩ p q := ⟨_, rfl⟩
  rw [← hz, moved_form] at h1 h2
  obtain ⟨⟨m0, m1, m2, m3⟩, ok⟩ := z
  simp only at h1 h2
  have hy := refEq_yes m0 m1 m2 m3
  have hsh := fun w1 (hb : Below w.heap.size w w1) => l15_shown_any w1 (ht.below hb)
  have HSH := Lib.hid hsh; have H1 := Lib.hid h1; have H2 := Lib.hid h2
  clear hsh h1 h2 hz ht hp hq
  go_enter Tryd.func4, Tryd.ntmps4
  go_wp2_with (first
    | (go_at_call 9; (with_reducible refine (HSH.out _ (by (repeat (first | exact Below.refl _ _ | assumption | refine Below.setCell ?_ (by first | omega | (simp <;> omega)) _ | refine Below.alloc ?_ (by first | omega | (simp <;> omega)) _ | refine Below.drew ?_ | refine below_drewN' ?_ _)))).mono ?_); rintro e w1 ⟨rfl, hb_w1⟩; have hB_w1 : Below (w).heap.size (w) w1 := Below.trans (by (repeat (first | exact Below.refl _ _ | assumption | refine Below.setCell ?_ (by first | omega | (simp <;> omega)) _ | refine Below.alloc ?_ (by first | omega | (simp <;> omega)) _ | refine Below.drew ?_ | refine below_drewN' ?_ _))) (hb_w1.mono (by first | omega | (simp <;> omega))); obtain ⟨hc_w1, hf_w1⟩ := bcell hb_w1; have hz_w1 := hb_w1.size; (try simp only [size_drew', size_drewN', World.size_alloc, World.size_setCell] at hz_w1); have hl0_w1 : w.heap.size < w1.heap.size := (by omega); have hm0_w1 : w.heap.size ≤ w1.heap.size := (by omega); have hn0_w1 : ¬ w.heap.size = w1.heap.size := (by omega); have hq0_w1 : ¬ w1.heap.size = w.heap.size := (by omega); have hr0_w1 := fun o => hc_w1 (w.heap.size) o (by (try simp only [size_drew', size_drewN', World.size_alloc, World.size_setCell]); omega); have hg0_w1 := fun o => hf_w1 (w.heap.size) o (by (try simp only [size_drew', size_drewN', World.size_alloc, World.size_setCell]); omega))
    | (go_at_call 16; (with_reducible refine (H1.out _).mono ?_); rintro e w2 ⟨rfl, hb_w2⟩; have hB_w2 : Below (w).heap.size (w) w2 := Below.trans (by (repeat (first | exact Below.refl _ _ | assumption | refine Below.setCell ?_ (by first | omega | (simp <;> omega)) _ | refine Below.alloc ?_ (by first | omega | (simp <;> omega)) _ | refine Below.drew ?_ | refine below_drewN' ?_ _))) (hb_w2.mono (by first | omega | (simp <;> omega))); obtain ⟨hc_w2, hf_w2⟩ := bcell hb_w2; have hz_w2 := hb_w2.size; (try simp only [size_drew', size_drewN', World.size_alloc, World.size_setCell] at hz_w2); have hl0_w2 : w.heap.size < w2.heap.size := (by omega); have hm0_w2 : w.heap.size ≤ w2.heap.size := (by omega); have hn0_w2 : ¬ w.heap.size = w2.heap.size := (by omega); have hq0_w2 : ¬ w2.heap.size = w.heap.size := (by omega); have hr0_w2 := fun o => hc_w2 (w.heap.size) o (by (try simp only [size_drew', size_drewN', World.size_alloc, World.size_setCell]); omega); have hg0_w2 := fun o => hf_w2 (w.heap.size) o (by (try simp only [size_drew', size_drewN', World.size_alloc, World.size_setCell]); omega))
    | (go_at_call 17; (with_reducible refine (H2.out _).mono ?_); rintro e w3 ⟨rfl, hb_w3⟩; have hB_w3 : Below (w).heap.size (w) w3 := Below.trans (by (repeat (first | exact Below.refl _ _ | assumption | refine Below.setCell ?_ (by first | omega | (simp <;> omega)) _ | refine Below.alloc ?_ (by first | omega | (simp <;> omega)) _ | refine Below.drew ?_ | refine below_drewN' ?_ _))) (hb_w3.mono (by first | omega | (simp <;> omega))); obtain ⟨hc_w3, hf_w3⟩ := bcell hb_w3; have hz_w3 := hb_w3.size; (try simp only [size_drew', size_drewN', World.size_alloc, World.size_setCell] at hz_w3); have hl0_w3 : w.heap.size < w3.heap.size := (by omega); have hm0_w3 : w.heap.size ≤ w3.heap.size := (by omega); have hn0_w3 : ¬ w.heap.size = w3.heap.size := (by omega); have hq0_w3 : ¬ w3.heap.size = w.heap.size := (by omega); have hr0_w3 := fun o => hc_w3 (w.heap.size) o (by (try simp only [size_drew', size_drewN', World.size_alloc, World.size_setCell]); omega); have hg0_w3 := fun o => hf_w3 (w.heap.size) o (by (try simp only [size_drew', size_drewN', World.size_alloc, World.size_setCell]); omega); have hl1_w3 : w2.heap.size < w3.heap.size := (by omega); have hm1_w3 : w2.heap.size ≤ w3.heap.size := (by omega); have hn1_w3 : ¬ w2.heap.size = w3.heap.size := (by omega); have hq1_w3 : ¬ w3.heap.size = w2.heap.size := (by omega); have hr1_w3 := fun o => hc_w3 (w2.heap.size) o (by (try simp only [size_drew', size_drewN', World.size_alloc, World.size_setCell]); omega); have hg1_w3 := fun o => hf_w3 (w2.heap.size) o (by (try simp only [size_drew', size_drewN', World.size_alloc, World.size_setCell]); omega)))
  go_ret
  exact RetB.of rfl (by (repeat (first | exact Below.refl _ _ | assumption | refine Below.setCell ?_ (by first | omega | (simp <;> omega)) _ | refine Below.alloc ?_ (by first | omega | (simp <;> omega)) _ | refine Below.drew ?_ | refine below_drewN' ?_ _)))
end Go.Proofs.YtbbeeglfgnabmaaDoor
