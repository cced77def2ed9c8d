/- The statement PatternPrints. -/
import Derived.Test.YticodcecillciaaDoorZ17
import Derived.Test.YticodcecillciaaDoorZ19
namespace Go.Proofs.YticodcecillciaaDoor
set_option linter.all false
open Go.RowKit

theorem r_print_at (l : List Pa.Sec) (v : Value) (w : World) (P : ByteArray) (hP : P = ⟨(Pa.print l).toArray⟩) (h : SecsAt w w.heap.size v l) (hl : l.length ≤ 1000) (hit : ∀ k (h : k < l.length), l[k].items.length ≤ 1000000) (ht : Txt 1000000000 l) :
    ∀ W, Below w.heap.size w W → Calls Tryd.prog 14 #[v] W (RetB (.string P) W) := fun W hW => by
  rw [hP]
  exact r_print_any l v w.heap.size W (h.below hW (Nat.le_refl _)) hW.size hl hit ht

set_option maxRecDepth 100000 in
set_option maxHeartbeats 16000000 in
theorem l13_prints_any (l : List Pa.Sec) (v : Value) (B : Nat) (w : World) (h : SecsAt w B v l) (hB : B ≤ w.heap.size) (hu : U8 w) (hm : MaxL w) :
    Calls Tryd.prog 4 #[.agg #[v]] w (RetB (.bool true) w) := by
  have hsh := fun (W : World) (hW : Below w.heap.size w W) => l13_shown_any W (hu.on hW) (hm.on hW)
  have hsm := fun (W : World) (hW : Below w.heap.size w W) => l13_small_any l v B W (h.below hW hB) (Nat.le_trans hB hW.size)
  cases hs : Pa.small l with
  | false =>
    rw [hs] at hsm
    obtain ⟨a, c, rfl, hc⟩ := h.form
    generalize l.length = n at *
    have HSH := Lib.hid hsh; have HSM := Lib.hid hsm
    clear hsh hsm h hc hs hu hm
    go_enter Tryd.func4, Tryd.ntmps4
    go_wp2_with (first
      | (go_at_call 6; (with_reducible refine (HSH.out _ (by (repeat (first | exact Below.refl _ _ | assumption | refine Below.setCell ?_ (by first | omega | (simp <;> omega)) _ | refine Below.alloc ?_ (by first | omega | (simp <;> omega)) _ | refine Below.drew ?_ | refine below_drewN' ?_ _)))).mono ?_); rintro e w1 ⟨rfl, hb_w1⟩; have hB1 : Below w.heap.size w w1 := Below.next (by (repeat (first | exact Below.refl _ _ | assumption | refine Below.setCell ?_ (by first | omega | (simp <;> omega)) _ | refine Below.alloc ?_ (by first | omega | (simp <;> omega)) _ | refine Below.drew ?_ | refine below_drewN' ?_ _))) hb_w1; have cx1 : w1.cell? ⟨w.heap.size, 0, none⟩ = some (.slice a n c) := (hb_w1.cell (p := ⟨w.heap.size, 0, none⟩) (by simp)).trans (by simp [go_sem]))
      | (go_at_call 7; (with_reducible refine (HSM.out _ (by (repeat (first | exact Below.refl _ _ | assumption | refine Below.setCell ?_ (by first | omega | (simp <;> omega)) _ | refine Below.alloc ?_ (by first | omega | (simp <;> omega)) _ | refine Below.drew ?_ | refine below_drewN' ?_ _)))).mono ?_); rintro e w2 ⟨rfl, hb_w2⟩; have hB2 : Below w.heap.size w w2 := Below.next (by (repeat (first | exact Below.refl _ _ | assumption | refine Below.setCell ?_ (by first | omega | (simp <;> omega)) _ | refine Below.alloc ?_ (by first | omega | (simp <;> omega)) _ | refine Below.drew ?_ | refine below_drewN' ?_ _))) hb_w2))
    go_ret
    exact RetB.of rfl hB2
  | true =>
    rw [hs] at hsm
    obtain ⟨h8, hpart, h600⟩ := Pa.small_parts hs
    have hit : ∀ k (h : k < l.length), l[k].items.length ≤ 1000000 := fun k hk => by have := (hpart k hk).1; omega
    have htx : Txt 1000000000 l := fun k hk j hj => by have := (hpart k hk).2 j hj; omega
    have hse := fun (W : World) (hW : Below w.heap.size w W) => l13_sections_any l v B W (h.below hW hB) (Nat.le_trans hB hW.size) (by omega) hit
    have hp1 := fun (W : World) (hW : Below w.heap.size w W) => pa_print_any l v B W (h.below hW hB) (Nat.le_trans hB hW.size) (by omega) hit (hu.on hW) (hm.on hW)
    have hp2 := fun (P : ByteArray) (hP : P = ⟨(Pa.print l).toArray⟩) (v3 : Value) (w5 : World) (hr : SecsAt w5 w5.heap.size v3 l) => r_print_at l v3 w5 P hP hr (by omega) hit htx
    obtain ⟨a, c, rfl, hc⟩ := h.form
    obtain ⟨P, hP⟩ : ∃ P : ByteArray, P = ⟨(Pa.print l).toArray⟩ := ⟨_, rfl⟩
    rw [← hP] at hp1
    obtain ⟨n, hn⟩ : ∃ n, n = l.length := ⟨_, rfl⟩
    rw [← hn] at hsm hse hp1 h8 ⊢
    have HSH := Lib.hid hsh; have HSM := Lib.hid hsm; have HSE := Lib.hid hse; have HP1 := Lib.hid hp1; have HP2 := Lib.hid (hp2 P hP)
    clear hsh hsm hse hp1 hp2 hn h hc hs hu hm hit htx hpart h600 hP
    go_enter Tryd.func4, Tryd.ntmps4
    go_wp2_with (first
      | (go_at_call 6; (with_reducible refine (HSH.out _ (by (repeat (first | exact Below.refl _ _ | assumption | refine Below.setCell ?_ (by first | omega | (simp <;> omega)) _ | refine Below.alloc ?_ (by first | omega | (simp <;> omega)) _ | refine Below.drew ?_ | refine below_drewN' ?_ _)))).mono ?_); rintro e w1 ⟨rfl, hb_w1⟩; have hB1 : Below w.heap.size w w1 := Below.next (by (repeat (first | exact Below.refl _ _ | assumption | refine Below.setCell ?_ (by first | omega | (simp <;> omega)) _ | refine Below.alloc ?_ (by first | omega | (simp <;> omega)) _ | refine Below.drew ?_ | refine below_drewN' ?_ _))) hb_w1; have cx1 : w1.cell? ⟨w.heap.size, 0, none⟩ = some (.slice a n c) := (hb_w1.cell (p := ⟨w.heap.size, 0, none⟩) (by simp)).trans (by simp [go_sem]); have l1 : w.heap.size < w1.heap.size := (by have := hb_w1.size; simp at this; omega))
      | (go_at_call 7; (with_reducible refine (HSM.out _ (by (repeat (first | exact Below.refl _ _ | assumption | refine Below.setCell ?_ (by first | omega | (simp <;> omega)) _ | refine Below.alloc ?_ (by first | omega | (simp <;> omega)) _ | refine Below.drew ?_ | refine below_drewN' ?_ _)))).mono ?_); rintro e w2 ⟨rfl, hb_w2⟩; have hB2 : Below w.heap.size w w2 := Below.next (by (repeat (first | exact Below.refl _ _ | assumption | refine Below.setCell ?_ (by first | omega | (simp <;> omega)) _ | refine Below.alloc ?_ (by first | omega | (simp <;> omega)) _ | refine Below.drew ?_ | refine below_drewN' ?_ _))) hb_w2; have cx2 : w2.cell? ⟨w.heap.size, 0, none⟩ = some (.slice a n c) := (hb_w2.cell (p := ⟨w.heap.size, 0, none⟩) l1).trans cx1; have l2 : w.heap.size < w2.heap.size := Nat.lt_of_lt_of_le l1 hb_w2.size))
    have hS : ∀ W, Below w2.heap.size w2 W → W.cell? ⟨w.heap.size, 0, none⟩ = some (.slice a n c) ∧ W.cell? ⟨w.heap.size, 0, none⟩ = some (.slice a n c) := fun W hW => ⟨(hW.cell (p := ⟨w.heap.size, 0, none⟩) l2).trans cx2, (hW.cell (p := ⟨w.heap.size, 0, none⟩) l2).trans cx2⟩
    have HS := Lib.hid hS
    clear hS
    have hz2 := hB2.size
    go_region_held3 (fun w' => w'.cell? ⟨w.heap.size, 0, none⟩ = some (.slice a n c) ∧ w'.cell? ⟨w.heap.size, 0, none⟩ = some (.slice a n c))
      (first | (exact HS.out _ (by first | assumption | (repeat (first | exact Below.refl _ _ | assumption | refine Below.setCell ?_ (by first | omega | (simp <;> omega)) _ | refine Below.alloc ?_ (by first | omega | (simp <;> omega)) _ | refine Below.drew ?_ | refine below_drewN' ?_ _)))))
      (first
        | (go_at_call 13; (with_reducible refine (HP1.out _ (by first | (exact hB2.trans (Below.mono (by first | assumption | (repeat (first | exact Below.refl _ _ | assumption | refine Below.setCell ?_ (by first | omega | (simp <;> omega)) _ | refine Below.alloc ?_ (by first | omega | (simp <;> omega)) _ | refine Below.drew ?_ | refine below_drewN' ?_ _))) hz2)) | (repeat (first | exact Below.refl _ _ | assumption | refine Below.setCell ?_ (by first | omega | (simp <;> omega)) _ | refine Below.alloc ?_ (by first | omega | (simp <;> omega)) _ | refine Below.drew ?_ | refine below_drewN' ?_ _)))).mono ?_); rintro e w4 ⟨rfl, hb4⟩; have hB4 : Below w2.heap.size w2 w4 := Below.next (by first | assumption | (repeat (first | exact Below.refl _ _ | assumption | refine Below.setCell ?_ (by first | omega | (simp <;> omega)) _ | refine Below.alloc ?_ (by first | omega | (simp <;> omega)) _ | refine Below.drew ?_ | refine below_drewN' ?_ _))) hb4)
        | (go_at_call 8; (with_reducible refine (HSE.out _ (by first | (exact hB2.trans (Below.mono (by first | assumption | (repeat (first | exact Below.refl _ _ | assumption | refine Below.setCell ?_ (by first | omega | (simp <;> omega)) _ | refine Below.alloc ?_ (by first | omega | (simp <;> omega)) _ | refine Below.drew ?_ | refine below_drewN' ?_ _))) hz2)) | (repeat (first | exact Below.refl _ _ | assumption | refine Below.setCell ?_ (by first | omega | (simp <;> omega)) _ | refine Below.alloc ?_ (by first | omega | (simp <;> omega)) _ | refine Below.drew ?_ | refine below_drewN' ?_ _)))).mono ?_); rintro e w5 ⟨v3, vis, rfl, hown, hb5⟩; have hB5 : Below w2.heap.size w2 w5 := Below.next (by first | assumption | (repeat (first | exact Below.refl _ _ | assumption | refine Below.setCell ?_ (by first | omega | (simp <;> omega)) _ | refine Below.alloc ?_ (by first | omega | (simp <;> omega)) _ | refine Below.drew ?_ | refine below_drewN' ?_ _))) hb5; have hp3 := HP2.out v3 w5 hown.read; have HP3 := Lib.hid hp3; clear hp3 hown)
        | (go_at_call 14; (with_reducible refine (HP3.out _ (by first | exact Below.refl _ _ | assumption)).mono ?_); rintro e w6 ⟨rfl, hb6⟩; have hB6 : Below w2.heap.size w2 w6 := Below.next (by first | assumption | (repeat (first | exact Below.refl _ _ | assumption | refine Below.setCell ?_ (by first | omega | (simp <;> omega)) _ | refine Below.alloc ?_ (by first | omega | (simp <;> omega)) _ | refine Below.drew ?_ | refine below_drewN' ?_ _))) hb6))
    all_goals
      (try go_wp2)
      go_ret
      exact RetB.of (by simp) (hB2.trans (Below.mono (by first | assumption | (repeat (first | exact Below.refl _ _ | assumption | refine Below.setCell ?_ (by first | omega | (simp <;> omega)) _ | refine Below.alloc ?_ (by first | omega | (simp <;> omega)) _ | refine Below.drew ?_ | refine below_drewN' ?_ _))) hz2))
end Go.Proofs.YticodcecillciaaDoor
