/- Chapter 15's examples, by the statements' own function: the texts that are read. -/
import Derived.Test.YtbbeeglfgnabmaaDoorT75
import Derived.Test.YtbbeeglfgnabmaaDoorT74
import Derived.Test.YtbbeeglfgnabmaaDoorT70
import Derived.Test.YtbbeeglfgnabmaaDoorT66
import Derived.Test.YtbbeeglfgnabmaaDoorT65
import Derived.Test.YtbbeeglfgnabmaaDoorT64
import Derived.Test.YtbbeeglfgnabmaaDoorT59
import Derived.Test.YtbbeeglfgnabmaaDoorT53
namespace Go.Proofs.YtbbeeglfgnabmaaDoor
set_option linter.all false
open Go.RowKit
attribute [local go_sem high] ref_neq ref_eql ref_guard

/-- The examples of texts: what is read of each. -/
def exS : List (List UInt8) := [[65, 49], [36, 98, 36, 50, 48], [66, 76, 49, 48, 48, 48], [66, 77, 49], [65, 48], [65, 49, 48, 48, 49], [49, 65], [65, 66, 67, 68, 49]]
def exR : List Ce.Rf := [⟨0, 0, false, false⟩, ⟨1, 19, true, true⟩, ⟨63, 999, false, false⟩, Ce.zero, Ce.zero, Ce.zero, Ce.zero, Ce.zero]
def exE : List Int := [0, 0, 0, 14, 3, 14, 3, 3]
theorem ex_parse : ∀ k : Fin 8, ∃ s r e, exS[k.1]? = some s ∧ exR[k.1]? = some r ∧ exE[k.1]? = some e ∧ Ce.parse s = (r, e) ∧ s.length ≤ 10 := by
  intro k
  match k with
  | ⟨0, _⟩ => exact ⟨_, _, _, rfl, rfl, rfl, by decide, by decide⟩
  | ⟨1, _⟩ => exact ⟨_, _, _, rfl, rfl, rfl, by decide, by decide⟩
  | ⟨2, _⟩ => exact ⟨_, _, _, rfl, rfl, rfl, by decide, by decide⟩
  | ⟨3, _⟩ => exact ⟨_, _, _, rfl, rfl, rfl, by decide, by decide⟩
  | ⟨4, _⟩ => exact ⟨_, _, _, rfl, rfl, rfl, by decide, by decide⟩
  | ⟨5, _⟩ => exact ⟨_, _, _, rfl, rfl, rfl, by decide, by decide⟩
  | ⟨6, _⟩ => exact ⟨_, _, _, rfl, rfl, rfl, by decide, by decide⟩
  | ⟨7, _⟩ => exact ⟨_, _, _, rfl, rfl, rfl, by decide, by decide⟩

def exC : List Ce.Rf := [⟨0, 0, false, false⟩, ⟨1, 0, false, false⟩, ⟨0, 1, false, false⟩, ⟨1, 1, false, false⟩]
theorem ex_print : Ce.print ⟨26, 0, false, false⟩ = [65, 65, 49] := by
  have h : Lib.decDigits 1 = [49] := by rw [Lib.decDigits, dif_pos (by omega)]; rfl
  rw [Ce.print, if_pos (by decide)]
  show Ce.mark false ++ (Ce.letters 26 ++ (Ce.mark false ++ Lib.decDigits 1)) = _
  rw [h]; decide
theorem ex_cells : Ce.cells ⟨1, 1, false, false⟩ ⟨0, 0, false, false⟩ = exC := by decide
theorem RowR.made (w : World) (base : Nat) (l : List Ce.Rf) (hb : base ≤ w.heap.size) (hl : l.length ≤ 1000) : RowR (w.alloc (.cells (refs l).toArray 23)) base (.slice (Option.some ⟨w.heap.size, 0, none⟩) l.length l.length) l :=
  ⟨⟨_, _, rfl⟩, refs_len l, .inr ⟨w.heap.size, l.length, (refs l).toArray, rfl, hb, World.alloc_heap_new w _, Nat.le_refl _, by unfold maxLen; omega, by simpa using refs_len l, by simp [← refs_len l]⟩⟩
theorem ex_made (W : World) : RowR (W.alloc (.cells #[.int .i64 0, .int .i64 0, .bool false, .bool false, .int .i64 1, .int .i64 0, .bool false, .bool false, .int .i64 0, .int .i64 1, .bool false, .bool false, .int .i64 1, .int .i64 1, .bool false, .bool false] 23)) 0 (.slice (some ⟨W.heap.size, 0, none⟩) 4 4) exC :=
  RowR.made W 0 exC (Nat.zero_le _) (by decide)
theorem same_yes (w : World) (b1 b2 : Nat) (v1 v2 : Value) (l : List Ce.Rf) (h1 : RowR w b1 v1 l) (h2 : RowR w b2 v2 l) (n : l.length ≤ 100000) : Calls Tryd.prog 28 #[v1, v2] w (RetB (.bool true) w) := by
  have := l15_same_any w b1 b2 v1 v2 l l h1 h2 n n
  rwa [decide_eq_true rfl] at this

set_option maxRecDepth 100000 in
set_option maxHeartbeats 4000000 in
theorem l15_shown_any (w : World) (ht : Tab w) : Calls Tryd.prog 9 #[] w (RetB (.bool true) w) := by
  have HT := Lib.hid ht; clear ht
  go_enter Tryd.func9, Tryd.ntmps9
  go_upto_region 4 with (first
    | (go_at_call 20; (with_reducible refine (l15_ref_any 0 0 _).mono ?_); rintro e w1 ⟨rfl, hb_w1⟩; have hB_w1 : Below (w).heap.size (w) w1 := Below.trans (by (repeat (first | exact Below.refl _ _ | assumption | refine Below.setCell ?_ (by first | omega | (simp <;> omega)) _ | refine Below.alloc ?_ (by first | omega | (simp <;> omega)) _ | refine Below.drew ?_ | refine below_drewN' ?_ _))) (hb_w1.mono (by first | omega | (simp <;> omega))); obtain ⟨hc_w1, hf_w1⟩ := bcell hb_w1; have hz_w1 := hb_w1.size; (try simp only [size_drew', size_drewN', World.size_alloc, World.size_setCell] at hz_w1); have hl0_w1 : w.heap.size < w1.heap.size := (by omega); have hm0_w1 : w.heap.size ≤ w1.heap.size := (by omega); have hn0_w1 : ¬ w.heap.size = w1.heap.size := (by omega); have hq0_w1 : ¬ w1.heap.size = w.heap.size := (by omega); have hr0_w1 := fun o => hc_w1 (w.heap.size) o (by (try simp only [size_drew', size_drewN', World.size_alloc, World.size_setCell]); omega); have hg0_w1 := fun o => hf_w1 (w.heap.size) o (by (try simp only [size_drew', size_drewN', World.size_alloc, World.size_setCell]); omega))
    | (go_at_call 20; (with_reducible refine (l15_ref_any 63 999 _).mono ?_); rintro e w2 ⟨rfl, hb_w2⟩; have hB_w2 : Below (w).heap.size (w) w2 := Below.trans (by (repeat (first | exact Below.refl _ _ | assumption | refine Below.setCell ?_ (by first | omega | (simp <;> omega)) _ | refine Below.alloc ?_ (by first | omega | (simp <;> omega)) _ | refine Below.drew ?_ | refine below_drewN' ?_ _))) (hb_w2.mono (by first | omega | (simp <;> omega))); obtain ⟨hc_w2, hf_w2⟩ := bcell hb_w2; have hz_w2 := hb_w2.size; (try simp only [size_drew', size_drewN', World.size_alloc, World.size_setCell] at hz_w2); have hl0_w2 : w.heap.size < w2.heap.size := (by omega); have hm0_w2 : w.heap.size ≤ w2.heap.size := (by omega); have hn0_w2 : ¬ w.heap.size = w2.heap.size := (by omega); have hq0_w2 : ¬ w2.heap.size = w.heap.size := (by omega); have hr0_w2 := fun o => hc_w2 (w.heap.size) o (by (try simp only [size_drew', size_drewN', World.size_alloc, World.size_setCell]); omega); have hg0_w2 := fun o => hf_w2 (w.heap.size) o (by (try simp only [size_drew', size_drewN', World.size_alloc, World.size_setCell]); omega)))
  have kS : Cs w2 w.heap.size (exS.map fun s => Value.string ⟨s.toArray⟩) := by
    have h0 := Cs.new w (exS.map fun s => Value.string ⟨s.toArray⟩) 9
    exact (h0.on hb_w1).on hb_w2
  have kR := ((Cs.new w2 (refs exR) 23).alloc (.cells #[.int .i64 0, .int .i64 0, .int .i64 0, .int .i64 14, .int .i64 3, .int .i64 14, .int .i64 3, .int .i64 3] 25))
  have kE := (Cs.new (w2.alloc (.cells (refs exR).toArray 23)) (exE.map fun e => Value.int .i64 e) 25)
  have kS2 := (kS.alloc (.cells (refs exR).toArray 23)).alloc (.cells #[.int .i64 0, .int .i64 0, .int .i64 0, .int .i64 14, .int .i64 3, .int .i64 14, .int .i64 3, .int .i64 3] 25)
  have hXB : Below w.heap.size w ((w2.alloc (.cells (refs exR).toArray 23)).alloc (.cells #[.int .i64 0, .int .i64 0, .int .i64 0, .int .i64 14, .int .i64 3, .int .i64 14, .int .i64 3, .int .i64 3] 25)) := (hB_w2.alloc hB_w2.size _).alloc (by have := hB_w2.size; simp; omega) _
  rw [World.size_alloc] at kE
  obtain ⟨X, hX⟩ : ∃ X, X = ((w2.alloc (.cells (refs exR).toArray 23)).alloc (.cells #[.int .i64 0, .int .i64 0, .int .i64 0, .int .i64 14, .int .i64 3, .int .i64 14, .int .i64 3, .int .i64 3] 25)) := ⟨_, rfl⟩
  change Code.wp _ _ _ _ ((w2.alloc (.cells (refs exR).toArray 23)).alloc (.cells #[.int .i64 0, .int .i64 0, .int .i64 0, .int .i64 14, .int .i64 3, .int .i64 14, .int .i64 3, .int .i64 3] 25))
  change Cs ((w2.alloc (.cells (refs exR).toArray 23)).alloc (.cells #[.int .i64 0, .int .i64 0, .int .i64 0, .int .i64 14, .int .i64 3, .int .i64 14, .int .i64 3, .int .i64 3] 25)) _ _ at kE
  change Cs ((w2.alloc (.cells (refs exR).toArray 23)).alloc (.cells #[.int .i64 0, .int .i64 0, .int .i64 0, .int .i64 14, .int .i64 3, .int .i64 14, .int .i64 3, .int .i64 3] 25)) _ _ at kR
  rw [← hX] at kS2 kR kE hXB ⊢
  obtain ⟨b, hb⟩ : ∃ b, b = w2.heap.size := ⟨_, rfl⟩
  rw [← hb] at kR kE ⊢
  have HB := Lib.hid hXB
  clear hX hXB hb kS hb_w1 hB_w1 hc_w1 hf_w1 hb_w2 hB_w2 hc_w2 hf_w2 hr0_w1 hr0_w2 hg0_w1 hg0_w2 hl0_w1 hl0_w2 hm0_w1 hm0_w2 hn0_w1 hn0_w2 hq0_w1 hq0_w2 hz_w1 hz_w2
  go_wp2_with fail
  go_loopw [4] (fun i wr => ∃ k : Nat, k ≤ 8 ∧ i = .int .i64 k ∧ Below X.heap.size X wr) (fun i _ => 8 - (intOf i).toNat)
  case atStart => exact ⟨0, by omega, rfl, Below.refl _ _⟩
  case round =>
    obtain ⟨k, hk, rfl, hbw⟩ := hrel
    by_cases hlt : k < 8
    · obtain ⟨s, r, e, hs, hr, he, hp, hl⟩ := ex_parse ⟨k, hlt⟩
      simp only at hs hr he
      have c0 := (kS2.on hbw).get k (v := .string ⟨s.toArray⟩) (by rw [List.getElem?_map, hs]; rfl)
      have c1 := (kE.on hbw).get k (v := .int .i64 e) (by rw [List.getElem?_map, he]; rfl)
      obtain ⟨hk2, hr2⟩ := List.getElem?_eq_some_iff.1 hr
      have hg := refs_get exR k hk2
      rw [hr2] at hg
      have d0 := (kR.on hbw).get _ hg.1
      have d1 := (kR.on hbw).get _ hg.2.1
      have d2 := (kR.on hbw).get _ hg.2.2.1
      have d3 := (kR.on hbw).get _ hg.2.2.2
      obtain ⟨A, hA⟩ : ∃ A : ByteArray, A = ⟨s.toArray⟩ := ⟨_, rfl⟩
      have hpc := fun W => ce_parse_any A W (by rw [hA, size_mk]; omega)
      have hAd : A.data.toList = s := by rw [hA]
      rw [hAd, hp] at hpc
      obtain ⟨r0, r1, r2, r3⟩ := r
      simp only [parseV, rv_mk] at hpc
      rw [← hA] at c0
      simp only at d0 d1 d2 d3
      have hy := refEq_yes r0 r1 r2 r3
      have hey : (e == e) = true := by simp
      have l0 := kS2.1
      have l1 := kR.1
      have l2 := kE.1
      have hwz := hbw.size
      have i0 : (0 : Int) ≤ (k : Int) := by omega
      have i1 : (k : Int) < 8 := by omega
      have HP := Lib.hid hpc
      clear hs hr he hp hr2 hg hA hAd hpc
      go_upto_region 8 with (go_at_call 10; (with_reducible refine (HP.out _).mono ?_); rintro e w3 ⟨rfl, hb_w3⟩; have hB_w3 : Below (wr).heap.size (wr) w3 := Below.trans (by (repeat (first | exact Below.refl _ _ | assumption | refine Below.setCell ?_ (by first | omega | (simp <;> omega)) _ | refine Below.alloc ?_ (by first | omega | (simp <;> omega)) _ | refine Below.drew ?_ | refine below_drewN' ?_ _))) (hb_w3.mono (by first | omega | (simp <;> omega))); obtain ⟨hc_w3, hf_w3⟩ := bcell hb_w3; have hz_w3 := hb_w3.size; (try simp only [size_drew', size_drewN', World.size_alloc, World.size_setCell] at hz_w3))
      have m1 : w3.cell? ⟨b + 1, k, none⟩ = some (.int .i64 e) := (hc_w3 _ _ (by omega)).trans c1
      have g0 : w3.cell? ⟨b, k * 4, none⟩ = some (.int .i64 r0) := (hc_w3 _ _ (by omega)).trans d0
      have g1 : w3.cell? ⟨b, k * 4 + 1, none⟩ = some (.int .i64 r1) := (hc_w3 _ _ (by omega)).trans d1
      have g2 : w3.cell? ⟨b, k * 4 + 2, none⟩ = some (.bool r2) := (hc_w3 _ _ (by omega)).trans d2
      have g3 : w3.cell? ⟨b, k * 4 + 3, none⟩ = some (.bool r3) := (hc_w3 _ _ (by omega)).trans d3
      have l3 : b < w3.heap.size := by have := hb_w3.size; omega
      have l4 : b + 1 < w3.heap.size := by have := hb_w3.size; omega
      have l5 := hb_w3.size
      have HB3 := Lib.hid (hbw.trans (hb_w3.mono (by omega)))
      clear hb_w3 hB_w3 hc_w3 hf_w3 hz_w3 c0 c1 d0 d1 d2 d3
      go_wp2_with fail
      go_quiet (fail)
      go_wp2
      go_roundw
      case rel => exact ⟨k + 1, by omega, by go_num, by have := HB3.out; (repeat (first | exact Below.refl _ _ | assumption | refine Below.setCell ?_ (by first | omega | (simp <;> omega)) _ | refine Below.alloc ?_ (by first | omega | (simp <;> omega)) _ | refine Below.drew ?_ | refine below_drewN' ?_ _))⟩
      case measure => simp [intOf]; omega
    · have HBw := Lib.hid (HB.out.trans (hbw.mono (by have := HB.out.size; omega)))
      have hcl := fun W => l15_cells_any ⟨1, 1, false, false⟩ ⟨0, 0, false, false⟩ 9 W (by rw [ex_cells]; decide) (by decide)
      rw [ex_cells] at hcl
      simp only [rv_mk] at hcl
      have hmade := ex_made
      have HCL := Lib.hid hcl; have HMADE := Lib.hid hmade
      clear hbw HB kR kE kS2 hcl hmade hk
      go_upto_region 11 with (first
        | (go_at_call 20; (with_reducible refine (l15_ref_any _ _ _).mono ?_); rintro e w4 ⟨rfl, hb_w4⟩; have hB_w4 : Below (w3).heap.size (w3) w4 := Below.trans (by (repeat (first | exact Below.refl _ _ | assumption | refine Below.setCell ?_ (by first | omega | (simp <;> omega)) _ | refine Below.alloc ?_ (by first | omega | (simp <;> omega)) _ | refine Below.drew ?_ | refine below_drewN' ?_ _))) (hb_w4.mono (by first | omega | (simp <;> omega))); obtain ⟨hc_w4, hf_w4⟩ := bcell hb_w4; have hz_w4 := hb_w4.size; (try simp only [size_drew', size_drewN', World.size_alloc, World.size_setCell] at hz_w4))
        | (go_at_call 20; (with_reducible refine (l15_ref_any _ _ _).mono ?_); rintro e w1 ⟨rfl, hb_w1⟩; have hB_w1 : Below (wr).heap.size (wr) w1 := Below.trans (by (repeat (first | exact Below.refl _ _ | assumption | refine Below.setCell ?_ (by first | omega | (simp <;> omega)) _ | refine Below.alloc ?_ (by first | omega | (simp <;> omega)) _ | refine Below.drew ?_ | refine below_drewN' ?_ _))) (hb_w1.mono (by first | omega | (simp <;> omega))); obtain ⟨hc_w1, hf_w1⟩ := bcell hb_w1; have hz_w1 := hb_w1.size; (try simp only [size_drew', size_drewN', World.size_alloc, World.size_setCell] at hz_w1))
        | (go_at_call 29; (with_reducible refine (HCL.out _).mono ?_); rintro e w3 ⟨v3, rfl, hrow3, hb_w3⟩; have hB_w3 : Below wr.heap.size wr w3 := Below.trans (by (repeat (first | exact Below.refl _ _ | assumption | refine Below.setCell ?_ (by first | omega | (simp <;> omega)) _ | refine Below.alloc ?_ (by first | omega | (simp <;> omega)) _ | refine Below.drew ?_ | refine below_drewN' ?_ _))) (hb_w3.mono (by first | omega | (simp <;> omega))); have hz_w3 := hb_w3.size; clear hb_w3)
        | (go_at_call 28; (with_reducible refine (same_yes _ _ _ _ _ exC (hrow3.on (by (repeat (first | exact Below.refl _ _ | assumption | refine Below.setCell ?_ (by first | omega | (simp <;> omega)) _ | refine Below.alloc ?_ (by first | omega | (simp <;> omega)) _ | refine Below.drew ?_ | refine below_drewN' ?_ _)))) (HMADE.out _) (by decide)).mono ?_); rintro e w5 ⟨rfl, hb_w5⟩; have hB_w5 : Below w3.heap.size w3 w5 := Below.trans (by (repeat (first | exact Below.refl _ _ | assumption | refine Below.setCell ?_ (by first | omega | (simp <;> omega)) _ | refine Below.alloc ?_ (by first | omega | (simp <;> omega)) _ | refine Below.drew ?_ | refine below_drewN' ?_ _))) (hb_w5.mono (by first | omega | (simp <;> omega)))))
      have HB5 := Lib.hid (HBw.out.trans ((hB_w3.trans (hB_w5.mono hB_w3.size)).mono (by have := HBw.out.size; omega)))
      have hm1 := fun W => ce_moved_any 0 0 true false 2 3 W (by decide) (by decide)
      have hm2 := fun W => ce_moved_any 0 0 false false (-1) 0 W (by decide) (by decide)
      rw [show movedV (Ce.moved ⟨0, 0, true, false⟩ 2 3) = .tuple #[.agg #[.int .i64 0, .int .i64 3, .bool true, .bool false], .bool true] from by rw [show Ce.moved ⟨0, 0, true, false⟩ 2 3 = (⟨0, 3, true, false⟩, true) from by decide]; rfl] at hm1
      rw [show movedV (Ce.moved ⟨0, 0, false, false⟩ (-1) 0) = .tuple #[.agg #[.int .i64 0, .int .i64 0, .bool false, .bool false], .bool false] from by rw [show Ce.moved ⟨0, 0, false, false⟩ (-1) 0 = (Ce.zero, false) from by decide]; rfl] at hm2
      have HM1 := Lib.hid hm1; have HM2 := Lib.hid hm2
      clear hm1 hm2 hb_w5 hB_w5 hrow3 hB_w3 hz_w3 hb_w4 hB_w4 hc_w4 hf_w4 hz_w4 hb_w1 hB_w1 hc_w1 hf_w1 hz_w1
      go_upto_region 13 with (first
        | (go_at_call 16; (with_reducible refine (HM1.out _).mono ?_); rintro e w6 ⟨rfl, hb_w6⟩; have hB_w6 : Below (w5).heap.size (w5) w6 := Below.trans (by (repeat (first | exact Below.refl _ _ | assumption | refine Below.setCell ?_ (by first | omega | (simp <;> omega)) _ | refine Below.alloc ?_ (by first | omega | (simp <;> omega)) _ | refine Below.drew ?_ | refine below_drewN' ?_ _))) (hb_w6.mono (by first | omega | (simp <;> omega))); obtain ⟨hc_w6, hf_w6⟩ := bcell hb_w6; have hz_w6 := hb_w6.size; (try simp only [size_drew', size_drewN', World.size_alloc, World.size_setCell] at hz_w6))
        | (go_at_call 20; (with_reducible refine (l15_ref_any 0 0 _).mono ?_); rintro e w7 ⟨rfl, hb_w7⟩; have hB_w7 : Below (w5).heap.size (w5) w7 := Below.trans (by (repeat (first | exact Below.refl _ _ | assumption | refine Below.setCell ?_ (by first | omega | (simp <;> omega)) _ | refine Below.alloc ?_ (by first | omega | (simp <;> omega)) _ | refine Below.drew ?_ | refine below_drewN' ?_ _))) (hb_w7.mono (by first | omega | (simp <;> omega))); obtain ⟨hc_w7, hf_w7⟩ := bcell hb_w7; have hz_w7 := hb_w7.size; (try simp only [size_drew', size_drewN', World.size_alloc, World.size_setCell] at hz_w7); have hl0_w7 : w6.heap.size < w7.heap.size := (by omega); have hm0_w7 : w6.heap.size ≤ w7.heap.size := (by omega); have hn0_w7 : ¬ w6.heap.size = w7.heap.size := (by omega); have hq0_w7 : ¬ w7.heap.size = w6.heap.size := (by omega); have hr0_w7 := fun o => hc_w7 (w6.heap.size) o (by (try simp only [size_drew', size_drewN', World.size_alloc, World.size_setCell]); omega); have hg0_w7 := fun o => hf_w7 (w6.heap.size) o (by (try simp only [size_drew', size_drewN', World.size_alloc, World.size_setCell]); omega))
        | (go_at_call 16; (with_reducible refine (HM2.out _).mono ?_); rintro e w8 ⟨rfl, hb_w8⟩; have hB_w8 : Below (w5).heap.size (w5) w8 := Below.trans (by (repeat (first | exact Below.refl _ _ | assumption | refine Below.setCell ?_ (by first | omega | (simp <;> omega)) _ | refine Below.alloc ?_ (by first | omega | (simp <;> omega)) _ | refine Below.drew ?_ | refine below_drewN' ?_ _))) (hb_w8.mono (by first | omega | (simp <;> omega))); obtain ⟨hc_w8, hf_w8⟩ := bcell hb_w8; have hz_w8 := hb_w8.size; (try simp only [size_drew', size_drewN', World.size_alloc, World.size_setCell] at hz_w8); have hl0_w8 : w6.heap.size < w8.heap.size := (by omega); have hm0_w8 : w6.heap.size ≤ w8.heap.size := (by omega); have hn0_w8 : ¬ w6.heap.size = w8.heap.size := (by omega); have hq0_w8 : ¬ w8.heap.size = w6.heap.size := (by omega); have hr0_w8 := fun o => hc_w8 (w6.heap.size) o (by (try simp only [size_drew', size_drewN', World.size_alloc, World.size_setCell]); omega); have hg0_w8 := fun o => hf_w8 (w6.heap.size) o (by (try simp only [size_drew', size_drewN', World.size_alloc, World.size_setCell]); omega)))
      obtain ⟨b8, hb8⟩ : ∃ b8, b8 = w6.heap.size := ⟨_, rfl⟩
      have y0 := (hr0_w8 0).trans ((hr0_w7 0).trans (by simp [go_sem]) : w7.cell? ⟨w6.heap.size, 0, none⟩ = some (.int .i64 0))
      have y1 := (hr0_w8 1).trans ((hr0_w7 1).trans (by simp [go_sem]) : w7.cell? ⟨w6.heap.size, 1, none⟩ = some (.int .i64 3))
      have y2 := (hr0_w8 2).trans ((hr0_w7 2).trans (by simp [go_sem]) : w7.cell? ⟨w6.heap.size, 2, none⟩ = some (.bool true))
      have y3 := (hr0_w8 3).trans ((hr0_w7 3).trans (by simp [go_sem]) : w7.cell? ⟨w6.heap.size, 3, none⟩ = some (.bool false))
      have l8 := hl0_w8
      have hB2 : Below w.heap.size w (w8.alloc (.cells #[.int .i64 0, .int .i64 0, .bool false, .bool false] 23)) := (HB5.out.trans (hB_w8.mono HB5.out.size)).alloc (Nat.le_trans HB5.out.size hB_w8.size) _
      rw [← hb8] at y0 y1 y2 y3 l8 ⊢
      clear hb8 hb_w8 hB_w8 hc_w8 hf_w8 hz_w8 hl0_w8 hm0_w8 hn0_w8 hq0_w8 hr0_w8 hg0_w8 hb_w7 hB_w7 hc_w7 hf_w7 hz_w7 hl0_w7 hm0_w7 hn0_w7 hq0_w7 hr0_w7 hg0_w7 hb_w6 hB_w6 hc_w6 hf_w6 hz_w6
      replace y0 := (cell_alloc_old (o := .cells #[.int .i64 0, .int .i64 0, .bool false, .bool false] 23) l8).trans y0
      replace y1 := (cell_alloc_old (o := .cells #[.int .i64 0, .int .i64 0, .bool false, .bool false] 23) l8).trans y1
      replace y2 := (cell_alloc_old (o := .cells #[.int .i64 0, .int .i64 0, .bool false, .bool false] 23) l8).trans y2
      replace y3 := (cell_alloc_old (o := .cells #[.int .i64 0, .int .i64 0, .bool false, .bool false] 23) l8).trans y3
      obtain ⟨X2, hX2⟩ : ∃ X, X = (w8.alloc (.cells #[.int .i64 0, .int .i64 0, .bool false, .bool false] 23)) := ⟨_, rfl⟩
      have l9 : b8 < X2.heap.size := by rw [hX2]; simp; omega
      rw [← hX2] at y0 y1 y2 y3 hB2 ⊢
      clear hX2 l8
      have HB2 := Lib.hid hB2
      have hzX := hB2.size
      have hp1 : ∀ W, Below w.heap.size w W → Calls Tryd.prog 14 #[.agg #[.int .i64 26, .int .i64 0, .bool false, .bool false]] W (RetB (.string ⟨#[65, 65, 49]⟩) W) := fun W hb => by
        have := ce_print_any 26 0 false false W (HT.out.below hb)
        rwa [ex_print] at this
      have hp2 : ∀ W, Below w.heap.size w W → Calls Tryd.prog 14 #[.agg #[.int .i64 64, .int .i64 0, .bool false, .bool false]] W (RetB (.string ⟨#[]⟩) W) := fun W hb => by
        have := ce_print_any 64 0 false false W (HT.out.below hb)
        rwa [show Ce.print ⟨64, 0, false, false⟩ = [] from by decide] at this
      have hi1 : ∀ W, Calls Tryd.prog 19 #[.agg #[.int .i64 1, .int .i64 1, .bool false, .bool false]] W (RetB (.int .i64 65) W) := fun W => by
        have := ce_index_any 1 1 false false W
        rwa [show Ce.index ⟨1, 1, false, false⟩ = 65 from by decide] at this
      have ha1 : ∀ W, Calls Tryd.prog 18 #[.int .i64 65] W (RetB (.agg #[.int .i64 1, .int .i64 1, .bool false, .bool false]) W) := fun W => by
        have := ce_at_any 65 W
        rwa [show Ce.at' 65 = ⟨1, 1, false, false⟩ from by decide] at this
      have ha2 : ∀ W, Calls Tryd.prog 18 #[.int .i64 (-1)] W (RetB (.agg #[.int .i64 (-1), .int .i64 (-1), .bool false, .bool false]) W) := fun W => by
        have := ce_at_any (-1) W
        rwa [show Ce.at' (-1) = ⟨-1, -1, false, false⟩ from by decide] at this
      have har : ∀ W, Calls Tryd.prog 24 #[.agg #[.int .i64 1, .int .i64 2, .bool false, .bool false], .agg #[.int .i64 0, .int .i64 0, .bool false, .bool false]] W (RetB (.int .i64 6) W) := fun W => by
        have := ce_area_any ⟨1, 2, false, false⟩ ⟨0, 0, false, false⟩ W
        rwa [show Ce.area ⟨1, 2, false, false⟩ ⟨0, 0, false, false⟩ = 6 from by decide] at this
      have HP1 := Lib.hid hp1; have HP2 := Lib.hid hp2; have HI1 := Lib.hid hi1; have HA1 := Lib.hid ha1; have HA2 := Lib.hid ha2; have HAR := Lib.hid har
      have t1 := refEq_yes 1 1 false false
      have t2 := refEq_yes (-1) (-1) false false
      have t3 := refEq_yes 0 3 true false
      clear hp1 hp2 hi1 ha1 ha2 har hB2 HM1 HM2 HB5 HCL HMADE HBw
      go_wp2_with (first
        | (go_at_call 14; (with_reducible refine (HP1.out _ (HB2.out.trans ((by (repeat (first | exact Below.refl _ _ | assumption | refine Below.setCell ?_ (by first | omega | (simp <;> omega)) _ | refine Below.alloc ?_ (by first | omega | (simp <;> omega)) _ | refine Below.drew ?_ | refine below_drewN' ?_ _)) : Below X2.heap.size X2 _).mono hzX))).mono ?_); rintro e v2 ⟨rfl, hb_v2⟩; have hB_v2 : Below (X2).heap.size (X2) v2 := Below.trans (by (repeat (first | exact Below.refl _ _ | assumption | refine Below.setCell ?_ (by first | omega | (simp <;> omega)) _ | refine Below.alloc ?_ (by first | omega | (simp <;> omega)) _ | refine Below.drew ?_ | refine below_drewN' ?_ _))) (hb_v2.mono (by first | omega | (simp <;> omega))); obtain ⟨hc_v2, hf_v2⟩ := bcell hb_v2; have hz_v2 := hb_v2.size; (try simp only [size_drew', size_drewN', World.size_alloc, World.size_setCell] at hz_v2); have hl0_v2 : b8 < v2.heap.size := (by omega); have hm0_v2 : b8 ≤ v2.heap.size := (by omega); have hn0_v2 : ¬ b8 = v2.heap.size := (by omega); have hq0_v2 : ¬ v2.heap.size = b8 := (by omega); have hr0_v2 := fun o => hc_v2 (b8) o (by (try simp only [size_drew', size_drewN', World.size_alloc, World.size_setCell]); omega); have hg0_v2 := fun o => hf_v2 (b8) o (by (try simp only [size_drew', size_drewN', World.size_alloc, World.size_setCell]); omega))
        | (go_at_call 14; (with_reducible refine (HP2.out _ (HB2.out.trans ((by (repeat (first | exact Below.refl _ _ | assumption | refine Below.setCell ?_ (by first | omega | (simp <;> omega)) _ | refine Below.alloc ?_ (by first | omega | (simp <;> omega)) _ | refine Below.drew ?_ | refine below_drewN' ?_ _)) : Below X2.heap.size X2 _).mono hzX))).mono ?_); rintro e v4 ⟨rfl, hb_v4⟩; have hB_v4 : Below (X2).heap.size (X2) v4 := Below.trans (by (repeat (first | exact Below.refl _ _ | assumption | refine Below.setCell ?_ (by first | omega | (simp <;> omega)) _ | refine Below.alloc ?_ (by first | omega | (simp <;> omega)) _ | refine Below.drew ?_ | refine below_drewN' ?_ _))) (hb_v4.mono (by first | omega | (simp <;> omega))); obtain ⟨hc_v4, hf_v4⟩ := bcell hb_v4; have hz_v4 := hb_v4.size; (try simp only [size_drew', size_drewN', World.size_alloc, World.size_setCell] at hz_v4); have hl0_v4 : b8 < v4.heap.size := (by omega); have hm0_v4 : b8 ≤ v4.heap.size := (by omega); have hn0_v4 : ¬ b8 = v4.heap.size := (by omega); have hq0_v4 : ¬ v4.heap.size = b8 := (by omega); have hr0_v4 := fun o => hc_v4 (b8) o (by (try simp only [size_drew', size_drewN', World.size_alloc, World.size_setCell]); omega); have hg0_v4 := fun o => hf_v4 (b8) o (by (try simp only [size_drew', size_drewN', World.size_alloc, World.size_setCell]); omega))
        | (go_at_call 19; (with_reducible refine (HI1.out _).mono ?_); rintro e v6 ⟨rfl, hb_v6⟩; have hB_v6 : Below (X2).heap.size (X2) v6 := Below.trans (by (repeat (first | exact Below.refl _ _ | assumption | refine Below.setCell ?_ (by first | omega | (simp <;> omega)) _ | refine Below.alloc ?_ (by first | omega | (simp <;> omega)) _ | refine Below.drew ?_ | refine below_drewN' ?_ _))) (hb_v6.mono (by first | omega | (simp <;> omega))); obtain ⟨hc_v6, hf_v6⟩ := bcell hb_v6; have hz_v6 := hb_v6.size; (try simp only [size_drew', size_drewN', World.size_alloc, World.size_setCell] at hz_v6); have hl0_v6 : b8 < v6.heap.size := (by omega); have hm0_v6 : b8 ≤ v6.heap.size := (by omega); have hn0_v6 : ¬ b8 = v6.heap.size := (by omega); have hq0_v6 : ¬ v6.heap.size = b8 := (by omega); have hr0_v6 := fun o => hc_v6 (b8) o (by (try simp only [size_drew', size_drewN', World.size_alloc, World.size_setCell]); omega); have hg0_v6 := fun o => hf_v6 (b8) o (by (try simp only [size_drew', size_drewN', World.size_alloc, World.size_setCell]); omega))
        | (go_at_call 18; (with_reducible refine (HA1.out _).mono ?_); rintro e v7 ⟨rfl, hb_v7⟩; have hB_v7 : Below (X2).heap.size (X2) v7 := Below.trans (by (repeat (first | exact Below.refl _ _ | assumption | refine Below.setCell ?_ (by first | omega | (simp <;> omega)) _ | refine Below.alloc ?_ (by first | omega | (simp <;> omega)) _ | refine Below.drew ?_ | refine below_drewN' ?_ _))) (hb_v7.mono (by first | omega | (simp <;> omega))); obtain ⟨hc_v7, hf_v7⟩ := bcell hb_v7; have hz_v7 := hb_v7.size; (try simp only [size_drew', size_drewN', World.size_alloc, World.size_setCell] at hz_v7); have hl0_v7 : b8 < v7.heap.size := (by omega); have hm0_v7 : b8 ≤ v7.heap.size := (by omega); have hn0_v7 : ¬ b8 = v7.heap.size := (by omega); have hq0_v7 : ¬ v7.heap.size = b8 := (by omega); have hr0_v7 := fun o => hc_v7 (b8) o (by (try simp only [size_drew', size_drewN', World.size_alloc, World.size_setCell]); omega); have hg0_v7 := fun o => hf_v7 (b8) o (by (try simp only [size_drew', size_drewN', World.size_alloc, World.size_setCell]); omega))
        | (go_at_call 18; (with_reducible refine (HA2.out _).mono ?_); rintro e v9 ⟨rfl, hb_v9⟩; have hB_v9 : Below (X2).heap.size (X2) v9 := Below.trans (by (repeat (first | exact Below.refl _ _ | assumption | refine Below.setCell ?_ (by first | omega | (simp <;> omega)) _ | refine Below.alloc ?_ (by first | omega | (simp <;> omega)) _ | refine Below.drew ?_ | refine below_drewN' ?_ _))) (hb_v9.mono (by first | omega | (simp <;> omega))); obtain ⟨hc_v9, hf_v9⟩ := bcell hb_v9; have hz_v9 := hb_v9.size; (try simp only [size_drew', size_drewN', World.size_alloc, World.size_setCell] at hz_v9); have hl0_v9 : b8 < v9.heap.size := (by omega); have hm0_v9 : b8 ≤ v9.heap.size := (by omega); have hn0_v9 : ¬ b8 = v9.heap.size := (by omega); have hq0_v9 : ¬ v9.heap.size = b8 := (by omega); have hr0_v9 := fun o => hc_v9 (b8) o (by (try simp only [size_drew', size_drewN', World.size_alloc, World.size_setCell]); omega); have hg0_v9 := fun o => hf_v9 (b8) o (by (try simp only [size_drew', size_drewN', World.size_alloc, World.size_setCell]); omega))
        | (go_at_call 24; (with_reducible refine (HAR.out _).mono ?_); rintro e v11 ⟨rfl, hb_v11⟩; have hB_v11 : Below (X2).heap.size (X2) v11 := Below.trans (by (repeat (first | exact Below.refl _ _ | assumption | refine Below.setCell ?_ (by first | omega | (simp <;> omega)) _ | refine Below.alloc ?_ (by first | omega | (simp <;> omega)) _ | refine Below.drew ?_ | refine below_drewN' ?_ _))) (hb_v11.mono (by first | omega | (simp <;> omega))); obtain ⟨hc_v11, hf_v11⟩ := bcell hb_v11; have hz_v11 := hb_v11.size; (try simp only [size_drew', size_drewN', World.size_alloc, World.size_setCell] at hz_v11); have hl0_v11 : b8 < v11.heap.size := (by omega); have hm0_v11 : b8 ≤ v11.heap.size := (by omega); have hn0_v11 : ¬ b8 = v11.heap.size := (by omega); have hq0_v11 : ¬ v11.heap.size = b8 := (by omega); have hr0_v11 := fun o => hc_v11 (b8) o (by (try simp only [size_drew', size_drewN', World.size_alloc, World.size_setCell]); omega); have hg0_v11 := fun o => hf_v11 (b8) o (by (try simp only [size_drew', size_drewN', World.size_alloc, World.size_setCell]); omega))
        | (go_at_call 20; (with_reducible refine (l15_ref_any _ _ _).mono ?_); rintro e v1 ⟨rfl, hb_v1⟩; have hB_v1 : Below (X2).heap.size (X2) v1 := Below.trans (by (repeat (first | exact Below.refl _ _ | assumption | refine Below.setCell ?_ (by first | omega | (simp <;> omega)) _ | refine Below.alloc ?_ (by first | omega | (simp <;> omega)) _ | refine Below.drew ?_ | refine below_drewN' ?_ _))) (hb_v1.mono (by first | omega | (simp <;> omega))); obtain ⟨hc_v1, hf_v1⟩ := bcell hb_v1; have hz_v1 := hb_v1.size; (try simp only [size_drew', size_drewN', World.size_alloc, World.size_setCell] at hz_v1); have hl0_v1 : b8 < v1.heap.size := (by omega); have hm0_v1 : b8 ≤ v1.heap.size := (by omega); have hn0_v1 : ¬ b8 = v1.heap.size := (by omega); have hq0_v1 : ¬ v1.heap.size = b8 := (by omega); have hr0_v1 := fun o => hc_v1 (b8) o (by (try simp only [size_drew', size_drewN', World.size_alloc, World.size_setCell]); omega); have hg0_v1 := fun o => hf_v1 (b8) o (by (try simp only [size_drew', size_drewN', World.size_alloc, World.size_setCell]); omega)))
      go_ret
      exact RetB.of rfl (HB2.out.trans ((by (repeat (first | exact Below.refl _ _ | assumption | refine Below.setCell ?_ (by first | omega | (simp <;> omega)) _ | refine Below.alloc ?_ (by first | omega | (simp <;> omega)) _ | refine Below.drew ?_ | refine below_drewN' ?_ _)) : Below X2.heap.size X2 _).mono hzX))
end Go.Proofs.YtbbeeglfgnabmaaDoor
