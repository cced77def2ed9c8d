/- The statement PatternPrints. -/
import Derived.Test.YticodcecillciaaDoorZ17
import Derived.Test.YticodcecillciaaDoorZ19
import Derived.Test.YticodcecillciaaDoorZ15
import Derived.Test.YticodcecillciaaDoorZ16
namespace Go.Proofs.YticodcecillciaaDoor
set_option linter.all false
open Go.RowKit

theorem r_print_at (l : List Pa.Sec) (v : Value) (w : World) (P : ByteArray) (hP : P = ⟨(Pa.print l).toArray⟩) (h : SecsAt w w.heap.size v l) (hl : l.length ≤ 1000) (hit : ∀ k (h : k < l.length), l[k].items.length ≤ 1000000) (ht : Txt 1000000000 l) :
    ∀ W, Below w.heap.size w W → Calls Tryd.prog 14 #[v] W (RetB (.string P) W) := fun W hW => by
  rw [hP]
  exact r_print_any l v w.heap.size W (h.below hW (Nat.le_refl _)) hW.size hl hit ht

set_option maxRecDepth 100000 in
set_option maxHeartbeats 16000000 in
theorem l13_prints_any (l : List Pa.Sec) (v : Value) (B : Nat) (w : World) (h : SecsAt w B v l) (hB : B ≤ w.heap.size) (hu : U8 w) (hm : MaxL w) :
    Calls Tryd.prog 4 #[.agg #[v]] w (RetB (.bool true) w) := by
  have hsh := fun (W : World) (hW : Below w.heap.size w W) => l13_shown_any W (hu.on hW) (hm.on hW)
  have hsm := fun (W : World) (hW : Below w.heap.size w W) => l13_small_any l v B W (h.below hW hB) (Nat.le_trans hB hW.size)
  cases hs : Pa.small l with
  | false =>
    rw [hs] at hsm
    obtain ⟨a, c, rfl, hc⟩ := h.form
    generalize l.length = n at *
    have HSH := Lib.hid hsh; have HSM := Lib.hid hsm
    clear hsh hsm h hc hs hu hm
    go_enter Tryd.func4, Tryd.ntmps4
    go_wp2_with (first
      | (go_at_call 6; (with_reducible refine (HSH.out _ (by (repeat (first | exact Below.refl _ _ | assumption | refine Below.setCell ?_ (by first | omega | (simp <;> omega)) _ | refine Below.alloc ?_ (by first | omega | (simp <;> omega)) _ | refine Below.drew ?_ | refine below_drewN' ?_ _)))).mono ?_); rintro e w1 ⟨rfl, hb_w1⟩; have hB1 : Below w.heap.size w w1 := Below.next (by (repeat (first | exact Below.refl _ _ | assumption | refine Below.setCell ?_ (by first | omega | (simp <;> omega)) _ | refine Below.alloc ?_ (by first | omega | (simp <;> omega)) _ | refine Below.drew ?_ | refine below_drewN' ?_ _))) hb_w1; have cx1 : w1.cell? ⟨w.heap.size, 0, none⟩ = some (.slice a n c) := (hb_w1.cell (p := ⟨w.heap.size, 0, none⟩) (by simp)).trans (by simp [go_sem]))
      | (go_at_call 7; (with_reducible refine (HSM.out _ (by (repeat (first | exact Below.refl _ _ | assumption | refine Below.setCell ?_ (by first | omega | (simp <;> omega)) _ | refine Below.alloc ?_ (by first | omega | (simp <;> omega)) _ | refine Below.drew ?_ | refine below_drewN' ?_ _)))).mono ?_); rintro e w2 ⟨rfl, hb_w2⟩; have hB2 : Below w.heap.size w w2 := Below.next (by (repeat (first | exact Below.refl _ _ | assumption | refine Below.setCell ?_ (by first | omega | (simp <;> omega)) _ | refine Below.alloc ?_ (by first | omega | (simp <;> omega)) _ | refine Below.drew ?_ | refine below_drewN' ?_ _))) hb_w2))
    go_ret
    exact RetB.of rfl hB2
  | true =>
    rw [hs] at hsm
    obtain ⟨h8, hpart, h600⟩ := Pa.small_parts hs
    have hit : ∀ k (h : k < l.length), l[k].items.length ≤ 1000000 := fun k hk => by have := (hpart k hk).1; omega
    have htx : Txt 1000000000 l := fun k hk j hj => by have := (hpart k hk).2 j hj; omega
    have hse := fun (W : World) (hW : Below w.heap.size w W) => l13_sections_any l v B W (h.below hW hB) (Nat.le_trans hB hW.size) (by omega) hit
    have hp1 := fun (W : World) (hW : Below w.heap.size w W) => pa_print_any l v B W (h.below hW hB) (Nat.le_trans hB hW.size) (by omega) hit (hu.on hW) (hm.on hW)
    have hp2 := fun (P : ByteArray) (hP : P = ⟨(Pa.print l).toArray⟩) (v3 : Value) (w5 : World) (hr : SecsAt w5 w5.heap.size v3 l) => r_print_at l v3 w5 P hP hr (by omega) hit htx
    obtain ⟨a, c, rfl, hc⟩ := h.form
    obtain ⟨P, hP⟩ : ∃ P : ByteArray, P = ⟨(Pa.print l).toArray⟩ := ⟨_, rfl⟩
    rw [← hP] at hp1
    obtain ⟨n, hn⟩ : ∃ n, n = l.length := ⟨_, rfl⟩
    rw [← hn] at hsm hse hp1 h8 ⊢
    have HSH := Lib.hid hsh; have HSM := Lib.hid hsm; have HSE := Lib.hid hse; have HP1 := Lib.hid hp1; have HP2 := Lib.hid (hp2 P hP)
    clear hsh hsm hse hp1 hp2 hn h hc hs hu hm hit htx hpart h600 hP
    go_enter Tryd.func4, Tryd.ntmps4
    go_wp2_with (first
      | (go_at_call 6; (with_reducible refine (HSH.out _ (by (repeat (first | exact Below.refl _ _ | assumption | refine Below.setCell ?_ (by first | omega | (simp <;> omega)) _ | refine Below.alloc ?_ (by first | omega | (simp <;> omega)) _ | refine Below.drew ?_ | refine below_drewN' ?_ _)))).mono ?_); rintro e w1 ⟨rfl, hb_w1⟩; have hB1 : Below w.heap.size w w1 := Below.next (by (repeat (first | exact Below.refl _ _ | assumption | refine Below.setCell ?_ (by first | omega | (simp <;> omega)) _ | refine Below.alloc ?_ (by first | omega | (simp <;> omega)) _ | refine Below.drew ?_ | refine below_drewN' ?_ _))) hb_w1; have cx1 : w1.cell? ⟨w.heap.size, 0, none⟩ = some (.slice a n c) := (hb_w1.cell (p := ⟨w.heap.size, 0, none⟩) (by simp)).trans (by simp [go_sem]); have l1 : w.heap.size < w1.heap.size := (by have := hb_w1.size; simp at this; omega))
      | (go_at_call 7; (with_reducible refine (HSM.out _ (by (repeat (first | exact Below.refl _ _ | assumption | refine Below.setCell ?_ (by first | omega | (simp <;> omega)) _ | refine Below.alloc ?_ (by first | omega | (simp <;> omega)) _ | refine Below.drew ?_ | refine below_drewN' ?_ _)))).mono ?_); rintro e w2 ⟨rfl, hb_w2⟩; have hB2 : Below w.heap.size w w2 := Below.next (by (repeat (first | exact Below.refl _ _ | assumption | refine Below.setCell ?_ (by first | omega | (simp <;> omega)) _ | refine Below.alloc ?_ (by first | omega | (simp <;> omega)) _ | refine Below.drew ?_ | refine below_drewN' ?_ _))) hb_w2; have cx2 : w2.cell? ⟨w.heap.size, 0, none⟩ = some (.slice a n c) := (hb_w2.cell (p := ⟨w.heap.size, 0, none⟩) l1).trans cx1; have l2 : w.heap.size < w2.heap.size := Nat.lt_of_lt_of_le l1 hb_w2.size))
    have hS : ∀ W, Below w2.heap.size w2 W → W.cell? ⟨w.heap.size, 0, none⟩ = some (.slice a n c) ∧ W.cell? ⟨w.heap.size, 0, none⟩ = some (.slice a n c) := fun W hW => ⟨(hW.cell (p := ⟨w.heap.size, 0, none⟩) l2).trans cx2, (hW.cell (p := ⟨w.heap.size, 0, none⟩) l2).trans cx2⟩
    have HS := Lib.hid hS
    clear hS
    have hz2 := hB2.size
    go_region_held3 (fun w' => w'.cell? ⟨w.heap.size, 0, none⟩ = some (.slice a n c) ∧ w'.cell? ⟨w.heap.size, 0, none⟩ = some (.slice a n c))
      (first | (exact HS.out _ (by first | assumption | (repeat (first | exact Below.refl _ _ | assumption | refine Below.setCell ?_ (by first | omega | (simp <;> omega)) _ | refine Below.alloc ?_ (by first | omega | (simp <;> omega)) _ | refine Below.drew ?_ | refine below_drewN' ?_ _)))))
      (first
        | (go_at_call 13; (with_reducible refine (HP1.out _ (by first | (exact hB2.trans (Below.mono (by first | assumption | (repeat (first | exact Below.refl _ _ | assumption | refine Below.setCell ?_ (by first | omega | (simp <;> omega)) _ | refine Below.alloc ?_ (by first | omega | (simp <;> omega)) _ | refine Below.drew ?_ | refine below_drewN' ?_ _))) hz2)) | (repeat (first | exact Below.refl _ _ | assumption | refine Below.setCell ?_ (by first | omega | (simp <;> omega)) _ | refine Below.alloc ?_ (by first | omega | (simp <;> omega)) _ | refine Below.drew ?_ | refine below_drewN' ?_ _)))).mono ?_); rintro e w4 ⟨rfl, hb4⟩; have hB4 : Below w2.heap.size w2 w4 := Below.next (by first | assumption | (repeat (first | exact Below.refl _ _ | assumption | refine Below.setCell ?_ (by first | omega | (simp <;> omega)) _ | refine Below.alloc ?_ (by first | omega | (simp <;> omega)) _ | refine Below.drew ?_ | refine below_drewN' ?_ _))) hb4)
        | (go_at_call 8; (with_reducible refine (HSE.out _ (by first | (exact hB2.trans (Below.mono (by first | assumption | (repeat (first | exact Below.refl _ _ | assumption | refine Below.setCell ?_ (by first | omega | (simp <;> omega)) _ | refine Below.alloc ?_ (by first | omega | (simp <;> omega)) _ | refine Below.drew ?_ | refine below_drewN' ?_ _))) hz2)) | (repeat (first | exact Below.refl _ _ | assumption | refine Below.setCell ?_ (by first | omega | (simp <;> omega)) _ | refine Below.alloc ?_ (by first | omega | (simp <;> omega)) _ | refine Below.drew ?_ | refine below_drewN' ?_ _)))).mono ?_); rintro e w5 ⟨v3, vis, rfl, hown, hb5⟩; have hB5 : Below w2.heap.size w2 w5 := Below.next (by first | assumption | (repeat (first | exact Below.refl _ _ | assumption | refine Below.setCell ?_ (by first | omega | (simp <;> omega)) _ | refine Below.alloc ?_ (by first | omega | (simp <;> omega)) _ | refine Below.drew ?_ | refine below_drewN' ?_ _))) hb5; have hp3 := HP2.out v3 w5 hown.read; have HP3 := Lib.hid hp3; clear hp3 hown)
        | (go_at_call 14; (with_reducible refine (HP3.out _ (by first | exact Below.refl _ _ | assumption)).mono ?_); rintro e w6 ⟨rfl, hb6⟩; have hB6 : Below w2.heap.size w2 w6 := Below.next (by first | assumption | (repeat (first | exact Below.refl _ _ | assumption | refine Below.setCell ?_ (by first | omega | (simp <;> omega)) _ | refine Below.alloc ?_ (by first | omega | (simp <;> omega)) _ | refine Below.drew ?_ | refine below_drewN' ?_ _))) hb6))
    all_goals
      (try go_wp2)
      go_ret
      exact RetB.of (by simp) (hB2.trans (Below.mono (by first | assumption | (repeat (first | exact Below.refl _ _ | assumption | refine Below.setCell ?_ (by first | omega | (simp <;> omega)) _ | refine Below.alloc ?_ (by first | omega | (simp <;> omega)) _ | refine Below.drew ?_ | refine below_drewN' ?_ _))) hz2))
end Go.Proofs.YticodcecillciaaDoor

/- The statements of chapter 13: a pattern is that of some sections. -/
namespace Go.Proofs.YticodcecillciaaDoor
set_option linter.all false
open Go.RowKit

set_option maxRecDepth 100000 in
set_option maxHeartbeats 8000000 in
theorem l13_same_true (l : List Pa.Sec) (u v2 : Value) (B : Nat) (w : World) (h : SecsAt w B u l) (h2 : SecsAt w B v2 l) (hB : B ≤ w.heap.size) (hl : l.length ≤ 1000) (hit : ∀ k (h : k < l.length), l[k].items.length ≤ 1000000) :
    Calls Tryd.prog 16 #[.agg #[u], v2] w (RetB (.bool true) w) := by
  obtain ⟨a, c, rfl, _⟩ := h.form
  obtain ⟨a2, c2, rfl, _⟩ := h2.form
  have hgt := fun h0 => h.get h0
  have hgt2 := fun h0 => h2.get h0
  obtain ⟨n, hn⟩ : ∃ n, n = l.length := ⟨_, rfl⟩
  rw [← hn] at hl ⊢
  have HGT := Lib.hid hgt; have HGT2 := Lib.hid hgt2; have HN := Lib.hid hn; have HIT := Lib.hid hit
  clear hgt hgt2 hn h h2 hit
  have hnn : ((n : Int) != (n : Int)) = false := by simp
  go_enter Tryd.func16, Tryd.ntmps16
  go_wp2_with fail
  go_loopw [5] (fun i wr => ∃ k : Nat, k ≤ n ∧ i = .int .i64 (k : Int) ∧ Below w.heap.size w wr ∧ w.heap.size < wr.heap.size ∧ wr.cell? ⟨w.heap.size, 0, none⟩ = some (.slice a n c)) (fun i _ => n - (intOf i).toNat)
  case atStart => exact ⟨0, Nat.zero_le _, rfl, by (repeat (first | exact Below.refl _ _ | assumption | refine Below.setCell ?_ (by first | omega | (simp <;> omega)) _ | refine Below.alloc ?_ (by first | omega | (simp <;> omega)) _ | refine Below.drew ?_ | refine below_drewN' ?_ _)), by simp, by simp [go_sem]⟩
  case round =>
    obtain ⟨k, hk, rfl, hbr, hzr, hbx⟩ := hrel
    by_cases hlt : k < n
    · have hkl : k < l.length := by rw [← HN.out]; exact hlt
      obtain ⟨b, o, c', e', _, hb, hh⟩ := HGT.out (by omega)
      rw [← HN.out] at e'
      cases e'
      obtain ⟨vi, hvi, d0, d1, d2⟩ := hh k hkl
      replace d0 := (hbr.cell (p := ⟨b, o + k * 3, none⟩) (by simp only; omega)).trans d0
      replace d1 := (hbr.cell (p := ⟨b, o + k * 3 + 1, none⟩) (by simp only; omega)).trans d1
      replace d2 := (hbr.cell (p := ⟨b, o + k * 3 + 2, none⟩) (by simp only; omega)).trans d2
      obtain ⟨ai, ci, rfl, _⟩ := hvi.form
      have hig := fun h0 => hvi.get h0
      obtain ⟨b2, o2, c2', e2', _, hb2, hh2⟩ := HGT2.out (by omega)
      rw [← HN.out] at e2'
      cases e2'
      obtain ⟨vj, hvj, g0, g1, g2⟩ := hh2 k hkl
      replace g0 := (hbr.cell (p := ⟨b2, o2 + k * 3, none⟩) (by simp only; omega)).trans g0
      replace g1 := (hbr.cell (p := ⟨b2, o2 + k * 3 + 1, none⟩) (by simp only; omega)).trans g1
      replace g2 := (hbr.cell (p := ⟨b2, o2 + k * 3 + 2, none⟩) (by simp only; omega)).trans g2
      obtain ⟨aj, cj, rfl, _⟩ := hvj.form
      have hjg := fun h0 => hvj.get h0
      have him := HIT.out k hkl
      obtain ⟨m, hm⟩ : ∃ m, m = l[k].items.length := ⟨_, rfl⟩
      rw [← hm] at d0 g0 him
      obtain ⟨gr, hgr⟩ : ∃ m, m = l[k].grouped := ⟨_, rfl⟩
      obtain ⟨sc, hsc⟩ : ∃ m, m = l[k].scale := ⟨_, rfl⟩
      rw [← hgr] at d1 g1
      rw [← hsc] at d2 g2
      have i1 : (k : Int) < (n : Int) := by omega
      have i2 : (k : Int) ≤ 1000 := by omega
      have e1 : (gr != gr) = false := by simp
      have e2 : (sc != sc) = false := by simp
      have e3 : ((m : Int) != (m : Int)) = false := by simp
      have nb : ¬ b = wr.heap.size := by omega
      have nb2 : ¬ b2 = wr.heap.size := by omega
      have nb3 : ¬ w.heap.size = wr.heap.size := by omega
      have lb : b < wr.heap.size := by omega
      have lb2 : b2 < wr.heap.size := by omega
      have HIG := Lib.hid hig; have HJG := Lib.hid hjg; have HM := Lib.hid hm
      clear hh hh2 hig hjg hvi hvj hm hgr hsc
      obtain ⟨wo, hwo⟩ : ∃ wo : World, wo = wr := ⟨_, rfl⟩
      subst hwo
      go_wp2_with fail
      go_quiet (fail)
      go_wp2_with fail
      have hX : ∀ W, Below (wo.alloc (.cells #[.slice ai m ci, .bool gr, .int .i64 sc] 32)).heap.size (wo.alloc (.cells #[.slice ai m ci, .bool gr, .int .i64 sc] 32)) W → W.cell? ⟨wo.heap.size, 0, none⟩ = some (.slice ai m ci) ∧ W.cell? ⟨b2, o2 + k * 3, none⟩ = some (.slice aj m cj) ∧ W.cell? ⟨w.heap.size, 0, none⟩ = some (.slice (some ⟨b, o, none⟩) n c) ∧ Below w.heap.size w W := fun W hW => by
        refine ⟨(hW.cell (p := ⟨wo.heap.size, 0, none⟩) (by simp)).trans (by simp [go_sem]), (hW.cell (p := ⟨b2, o2 + k * 3, none⟩) (by simp only [World.size_alloc]; omega)).trans ((World.cell?_alloc_past _ _ _ lb2).trans g0), (hW.cell (p := ⟨w.heap.size, 0, none⟩) (by simp only [World.size_alloc]; omega)).trans ((World.cell?_alloc_past _ _ _ hzr).trans hbx), (hbr.alloc (by omega) _).trans (hW.mono (by simp only [World.size_alloc]; omega))⟩
      have HX := Lib.hid hX
      clear hX
      go_loopw [7] (fun i wj => ∃ j : Nat, j ≤ m ∧ i = .int .i64 (j : Int) ∧ Below (wo.alloc (.cells #[.slice ai m ci, .bool gr, .int .i64 sc] 32)).heap.size (wo.alloc (.cells #[.slice ai m ci, .bool gr, .int .i64 sc] 32)) wj) (fun i _ => m - (intOf i).toNat)
      case atStart => exact ⟨0, Nat.zero_le _, rfl, by first | exact below_drewN' (Below.refl _ _) _ | (repeat (first | exact Below.refl _ _ | assumption | refine Below.setCell ?_ (by first | omega | (simp <;> omega)) _ | refine Below.alloc ?_ (by first | omega | (simp <;> omega)) _ | refine Below.drew ?_ | refine below_drewN' ?_ _))⟩
      case round =>
        obtain ⟨j, hj, rfl, hbj⟩ := hrel
        obtain ⟨y0, y1, y2, hbw⟩ := HX.out wr hbj
        by_cases hjm : j < m
        · have hjl : j < l[k].items.length := by rw [← HM.out]; exact hjm
          obtain ⟨bi, oi, cc, ee, _, hbi, hhi⟩ := HIG.out (by omega)
          rw [← HM.out] at ee
          cases ee
          obtain ⟨bj, oj, cc2, ee2, _, hbj2, hhj⟩ := HJG.out (by omega)
          rw [← HM.out] at ee2
          cases ee2
          obtain ⟨t0, t1⟩ := hhi j hjl
          obtain ⟨s0, s1⟩ := hhj j hjl
          replace t0 := (hbw.cell (p := ⟨bi, oi + j * 2, none⟩) (by simp only; omega)).trans t0
          replace t1 := (hbw.cell (p := ⟨bi, oi + j * 2 + 1, none⟩) (by simp only; omega)).trans t1
          replace s0 := (hbw.cell (p := ⟨bj, oj + j * 2, none⟩) (by simp only; omega)).trans s0
          replace s1 := (hbw.cell (p := ⟨bj, oj + j * 2 + 1, none⟩) (by simp only; omega)).trans s1
          obtain ⟨K, hK⟩ : ∃ K, K = l[k].items[j].kind := ⟨_, rfl⟩
          obtain ⟨TX, hTX⟩ : ∃ K, K = l[k].items[j].text := ⟨_, rfl⟩
          rw [← hK] at t0 s0
          rw [← hTX] at t1 s1
          have q1 : (j : Int) < (m : Int) := by omega
          have q2 : (j : Int) ≤ 1000000 := by omega
          have f1 : (K != K) = false := by simp
          have f2 : (TX.toList != TX.toList) = false := by simp
          clear hK hTX hhi hhj
          go_wp2_with fail
          go_quiet (fail)
          go_wp2_with fail
          go_roundw
          case rel => exact ⟨j + 1, by omega, by go_num, by first | exact below_drewN' hbj _ | (repeat (first | exact Below.refl _ _ | assumption | refine Below.setCell ?_ (by first | omega | (simp <;> omega)) _ | refine Below.alloc ?_ (by first | omega | (simp <;> omega)) _ | refine Below.drew ?_ | refine below_drewN' ?_ _))⟩
          case measure => simp [intOf]; omega
        · have hjm2 : j = m := by omega
          have q1 : ¬ (j : Int) < (m : Int) := by omega
          have hsz : w.heap.size < wr.heap.size := by have := hbj.size; simp only [World.size_alloc] at this; omega
          go_wp2_with fail
          go_roundw
          case rel => exact ⟨k + 1, by omega, by go_num, hbw, hsz, y2⟩
          case measure => simp [intOf]; omega
    · have hkn : k = n := by omega
      subst hkn
      go_wp2_with fail
      go_ret
      exact RetB.of rfl hbr
end Go.Proofs.YticodcecillciaaDoor

/- Plain Lean: a text with more behind it is read as far as the text goes as the text is. -/
namespace Go.Proofs.YticodcecillciaaDoor
set_option linter.all false
open Go.RowKit

namespace Pa
/-- A rune that stands is the same with more behind it. -/
theorem decN_more {n n' a b c d b' c' d' : Nat} (hn : n ≤ n') (hb : 1 < n → b' = b) (hc : 2 < n → c' = c) (hd : 3 < n → d' = d) (h : ¬ ((Lib.decodeN n a b c d).1 = 65533 ∧ (Lib.decodeN n a b c d).2 = 1)) : Lib.decodeN n' a b' c' d' = Lib.decodeN n a b c d := by
  unfold Lib.decodeN at *
  by_cases h1 : a < 128
  · rw [if_pos h1, if_pos h1]
  rw [if_neg h1] at h
  rw [if_neg h1, if_neg h1]
  by_cases h2 : a / 32 = 6 ∧ (1 < n ∧ b / 64 = 2)
  · have e := hb h2.2.1
    subst e
    rw [if_pos h2, if_pos ⟨h2.1, by omega, h2.2.2⟩]
  rw [if_neg h2] at h
  by_cases h3 : a / 16 = 14 ∧ (1 < n ∧ b / 64 = 2) ∧ (2 < n ∧ c / 64 = 2)
  · rw [hb h3.2.1.1, hc h3.2.2.1, if_neg (show ¬ (a / 32 = 6 ∧ (1 < n' ∧ b / 64 = 2)) by omega), if_neg h2, if_pos h3, if_pos ⟨h3.1, ⟨by omega, h3.2.1.2⟩, by omega, h3.2.2.2⟩]
  rw [if_neg h3] at h
  by_cases h4 : a / 8 = 30 ∧ (1 < n ∧ b / 64 = 2) ∧ (2 < n ∧ c / 64 = 2) ∧ (3 < n ∧ d / 64 = 2)
  · rw [hb h4.2.1.1, hc h4.2.2.1.1, hd h4.2.2.2.1, if_neg (show ¬ (a / 32 = 6 ∧ (1 < n' ∧ b / 64 = 2)) by omega), if_neg h2, if_neg (show ¬ (a / 16 = 14 ∧ (1 < n' ∧ b / 64 = 2) ∧ (2 < n' ∧ c / 64 = 2)) by omega), if_neg h3, if_pos h4, if_pos ⟨h4.1, ⟨by omega, h4.2.1.2⟩, ⟨by omega, h4.2.2.1.2⟩, by omega, h4.2.2.2.2⟩]
  rw [if_neg h4] at h
  exact absurd ⟨rfl, rfl⟩ h
theorem dec_left {s r : ByteArray} {p : Nat} (hp : p < s.size) (h : ¬ ((dec s p).1 = 65533 ∧ (dec s p).2 = 1)) : dec (s ++ r) p = dec s p := by
  unfold dec at *
  rw [ch_append_left hp]
  refine decN_more (by rw [ByteArray.size_append]; omega) (fun hb => ?_) (fun hc => ?_) (fun hd => ?_) h
  · exact ch_append_left (by omega)
  · exact ch_append_left (by omega)
  · exact ch_append_left (by omega)
theorem dec_right {v t : ByteArray} {p : Nat} : dec (v ++ t) (v.size + p) = dec t p := by
  unfold dec
  rw [ByteArray.size_append, show v.size + t.size - (v.size + p) = t.size - p by omega]
  rw [ch_append_right, show v.size + p + 1 = v.size + (p + 1) by omega, show v.size + p + 2 = v.size + (p + 2) by omega, show v.size + p + 3 = v.size + (p + 3) by omega, ch_append_right, ch_append_right, ch_append_right]
/-- A rune that is read, in the words of 'dec'. -/
theorem rune_ok {s : ByteArray} {p : Int} {st : St} (h : st.pos < s.size) (hb : ¬ ((dec s st.pos).1 = 65533 ∧ (dec s st.pos).2 = 1)) : rune s p st = .ok (s.extract st.pos (st.pos + (dec s st.pos).2), { st with pos := st.pos + (dec s st.pos).2 }) := by
  unfold rune
  rw [dec_eq s _ h]
  simp only
  have := decN_pos (s.size - st.pos) (ch s st.pos) (ch s (st.pos + 1)) (ch s (st.pos + 2)) (ch s (st.pos + 3))
  rw [if_neg]
  rintro (h0 | h0)
  · unfold dec at h0; omega
  · exact hb h0
theorem rune_left {s r : ByteArray} {p : Int} {st : St} {x : ByteArray × St} (e : rune s p st = .ok x) : rune (s ++ r) p st = .ok x := by
  obtain ⟨h1, rfl, h3, h4⟩ := rune_inv e
  have hd := dec_left (r := r) h1 h4
  rw [rune_ok (by rw [ByteArray.size_append]; omega) (by rw [hd]; exact h4), hd, ex_left h3]
theorem quoted_left {s r : ByteArray} {p stop : Nat} : ∀ (f : Nat) {st st' : St}, quoted s p stop f st = .ok st' → quoted (s ++ r) p stop f st = .ok st'
  | 0, st, st', e => e
  | f + 1, st, st', e => by
    unfold quoted at e ⊢
    split at e
    · rename_i hlt
      rw [if_pos hlt]
      obtain ⟨x, e1, e2⟩ := bind_inv e
      obtain ⟨y, e3, e4⟩ := bind_inv e2
      rw [rune_left e1]
      show (put 1 x.1 st.pos x.2).bind _ = _
      rw [e3]
      exact quoted_left f e4
    · rename_i hlt
      rw [if_neg hlt]; exact e
theorem indexByte_app {a b : List UInt8} {c : UInt8} (h : ¬ Lib.indexByte a c < 0) : Lib.indexByte (a ++ b) c = Lib.indexByte a c := by
  induction a with
  | nil => exfalso; apply h; show (-1 : Int) < 0; decide
  | cons x a ih =>
    rw [List.cons_append, Lib.indexByte, Lib.indexByte]
    rw [Lib.indexByte] at h
    split
    · rfl
    · rename_i hx
      rw [if_neg hx] at h
      have hge := Lib.indexByte_ge a c
      have ha : ¬ Lib.indexByte a c < 0 := by
        intro hc
        have : Lib.indexByte a c = -1 := by omega
        rw [this] at h
        simp at h
      rw [ih ha]
theorem hasPrefix_app {a b p : List UInt8} (h : Lib.hasPrefix a p = true) : Lib.hasPrefix (a ++ b) p = true := by
  unfold Lib.hasPrefix at *
  rw [List.isPrefixOf_iff_prefix] at *
  exact h.trans (List.prefix_append _ _)
theorem general_first {l : List UInt8} {c : UInt8} (hc : c ≠ 71) : Lib.hasPrefix (c :: l) general.data.toList = false := by
  unfold Lib.hasPrefix
  rw [Bool.eq_false_iff]
  intro h
  rw [List.isPrefixOf_iff_prefix] at h
  obtain ⟨z, hz⟩ := h
  have : general.data.toList = [71, 101, 110, 101, 114, 97, 108] := rfl
  rw [this] at hz
  simp only [List.cons_append, List.cons.injEq] at hz
  exact hc hz.1.symm
theorem ext_head {s : ByteArray} {p : Nat} (hp : p < s.size) : ∃ c l, (s.extract p s.size).data.toList = c :: l ∧ c.toNat = ch s p := by
  have hl : 0 < (s.extract p s.size).data.toList.length := by simp [ByteArray.size_extract]; omega
  match e : (s.extract p s.size).data.toList, hl with
  | c :: l, _ =>
    refine ⟨c, l, rfl, ?_⟩
    have := (ch_list s p 0 c (by rw [e]; rfl)).2
    rw [Nat.add_zero] at this
    exact this.symm
theorem other_left {s r : ByteArray} {c p : Nat} {st st' : St} (hp : st.pos = p + 1) (hc : c = ch s p) (hlt : p < s.size) (e : other s c p st = .ok st') : other (s ++ r) c p st = .ok st' := by
  unfold other at e ⊢
  split at e
  · rename_i h; rw [if_pos h, ex_left (by omega)]; exact e
  rename_i hb
  rw [if_neg hb]
  split at e
  · rename_i h; rw [if_pos h]; exact e
  rename_i hs
  rw [if_neg hs]
  have hx : ((s ++ r).extract p (s ++ r).size).data.toList = (s.extract p s.size).data.toList ++ r.data.toList := by
    rw [ex_end (by omega), ByteArray.data_append, Array.toList_append]
  split at e
  · rename_i h
    rw [if_pos (by rw [hx]; exact hasPrefix_app h)]; exact e
  rename_i hg
  split at e
  · rename_i h
    obtain ⟨x, l, hxl, hxc⟩ := ext_head hlt
    have hgf : Lib.hasPrefix ((s ++ r).extract p (s ++ r).size).data.toList general.data.toList = false := by
      rw [hx, hxl, List.cons_append]
      refine general_first fun hh => ?_
      rw [hh] at hxc
      have : ch s p = 71 := by rw [← hxc]; rfl
      omega
    rw [hgf, if_neg (by simp), if_pos ⟨h.1, by rw [ByteArray.size_append]; omega, by rw [ch_append_left h.2.1]; exact h.2.2⟩, ex_left (by omega)]
    exact e
  · cases e
/-- One step of the reader, with more behind the text: the same, if what comes is no digit. -/
theorem one_left {s r : ByteArray} {st st' : St} (hr : isDigit (ch r 0) = false) (h : Ok s st) (hp : st.pos < s.size) (e : one s st = .ok st') : one (s ++ r) st = .ok st' := by
  unfold one at e ⊢
  simp only at e ⊢
  rw [ch_append_left hp]
  split at e
  · rename_i h1; rw [if_pos h1]; exact e
  rename_i h1
  rw [if_neg h1]
  split at e
  · rename_i h2
    rw [if_pos h2]
    split at e
    · cases e
    rename_i hn
    rw [not_or] at hn
    obtain ⟨q1, q2⟩ := quote_stop hn.1
    have hx : ((s ++ r).extract (st.pos + 1) (s ++ r).size).data.toList = (s.extract (st.pos + 1) s.size).data.toList ++ r.data.toList := by
      rw [ex_end (by omega), ByteArray.data_append, Array.toList_append]
    rw [hx, indexByte_app hn.1, ex_left (by omega), if_neg (by rw [not_or]; exact hn)]
    obtain ⟨x, e1, e2⟩ := bind_inv e
    rw [quoted_left _ e1]
    exact e2
  rename_i h2
  rw [if_neg h2]
  split at e
  · rename_i h3
    rw [if_pos h3]
    obtain ⟨x, e1, e2⟩ := bind_inv e
    rw [rune_left e1]
    exact e2
  rename_i h3
  rw [if_neg h3]
  split at e
  · rename_i h4
    rw [if_pos h4]
    obtain ⟨x, e1, e2⟩ := bind_inv e
    rw [rune_left e1]
    exact e2
  rename_i h4
  rw [if_neg h4]
  split at e
  · rename_i h5
    rw [if_pos h5]
    unfold comma at e ⊢
    simp only at e ⊢
    have hnext : (decide (st.pos + 1 < (s ++ r).size) && isDigit (ch (s ++ r) (st.pos + 1))) = (decide (st.pos + 1 < s.size) && isDigit (ch s (st.pos + 1))) := by
      by_cases hlt : st.pos + 1 < s.size
      · rw [ch_append_left hlt, decide_eq_true hlt, decide_eq_true (by rw [ByteArray.size_append]; omega)]
      · rw [decide_eq_false hlt, Bool.false_and, show st.pos + 1 = s.size + 0 by omega, ch_append_right, hr, Bool.and_false]
    rw [hnext, ch_append_left (show st.pos - 1 < s.size by omega)]
    exact e
  rename_i h5
  rw [if_neg h5]
  split at e
  · rename_i h6
    rw [if_pos h6, ex_left (by omega)]; exact e
  · rename_i h6
    rw [if_neg h6]
    exact other_left rfl rfl hp e
/-- The whole text, with more behind it. -/
theorem loop_left {s r : ByteArray} (hr : isDigit (ch r 0) = false) : ∀ (f : Nat) {st e : St}, Ok s st → s.size < st.pos + f → loop s f st = .ok e → ∀ g, (s ++ r).size < st.pos + g → ∃ g', (s ++ r).size < e.pos + g' ∧ loop (s ++ r) g st = loop (s ++ r) g' e ∧ e.pos = s.size ∧ Ok s e
  | 0, st, e, h, hf, _, g, hg => by have := h.fit.pos; omega
  | f + 1, st, e, h, hf, he, g, hg => by
    unfold loop at he
    split at he
    · rename_i hlt
      obtain ⟨st', e1, e2⟩ := bind_inv he
      obtain ⟨h2, hp⟩ := h.one hlt e1
      have hsz : s.size ≤ (s ++ r).size := by rw [ByteArray.size_append]; omega
      obtain ⟨g, rfl⟩ : ∃ g', g = g' + 1 := ⟨g - 1, by omega⟩
      obtain ⟨g', a1, a2, a3, a4⟩ := loop_left hr f h2 (by omega) e2 g (by omega)
      refine ⟨g', a1, ?_, a3, a4⟩
      rw [← a2]
      conv => lhs; unfold loop
      rw [if_pos (by omega), one_left hr h hlt e1]
      rfl
    · rename_i hlt
      injection he with he
      subst he
      exact ⟨g, hg, rfl, by have := h.fit.pos; omega, h⟩
end Pa
end Go.Proofs.YticodcecillciaaDoor

/- Plain Lean: a text behind another one is read as it is by itself; two texts with a semicolon between are read as both. -/
namespace Go.Proofs.YticodcecillciaaDoor
set_option linter.all false
open Go.RowKit

namespace Pa
/-- A state of the second text's reader, behind the first one's section. -/
def shf (N : Nat) (a : Sec) (B0 : List Int) (I : Nat) (st : St) : St := ⟨N + st.pos, a :: st.secs, B0 ++ st.begins.map (· + (N : Int)), I + st.items, st.opn⟩
theorem shf_next (N : Nat) (a : Sec) (B0 : List Int) (I : Nat) (x : St) : ({ (shf N a B0 I x) with pos := (shf N a B0 I x).pos + 1 } : St) = shf N a B0 I { x with pos := x.pos + 1 } := rfl
theorem onLast_cons (a : Sec) (l : List Sec) (f : Sec → Sec) (h : 0 < l.length) : onLast (a :: l) f = a :: onLast l f := by
  unfold onLast
  obtain ⟨n, hn⟩ : ∃ n, l.length = n + 1 := ⟨l.length - 1, by omega⟩
  rw [List.length_cons, hn, Nat.add_sub_cancel, Nat.add_sub_cancel, List.modify_succ_cons]
theorem get_last (a : Sec) (l : List Sec) (h : 0 < l.length) : (a :: l)[(a :: l).length - 1]! = l[l.length - 1]! := by
  obtain ⟨n, hn⟩ : ∃ n, l.length = n + 1 := ⟨l.length - 1, by omega⟩
  rw [List.length_cons, hn, Nat.add_sub_cancel, Nat.add_sub_cancel]
  simp
variable {N : Nat} {a : Sec} {B0 : List Int} {I : Nat}
theorem put_right {k p p' : Int} {t : ByteArray} {st st' : St} (h0 : 0 < st.secs.length) (e : put k t p st = .ok st') (hi : I + st'.items ≤ 100) : put k t p' (shf N a B0 I st) = .ok (shf N a B0 I st') := by
  unfold put at e
  split at e
  · cases e
  injection e with e
  subst e
  unfold put shf
  simp only at hi ⊢
  rw [if_neg (by omega), onLast_cons _ _ _ h0, get_last _ _ h0]
  rfl
theorem rune_right {v t : ByteArray} {p p' : Int} {st : St} {x : ByteArray × St} (hv : v.size = N) (e : rune t p st = .ok x) : rune (v ++ t) p' (shf N a B0 I st) = .ok (x.1, shf N a B0 I x.2) := by
  obtain ⟨h1, rfl, h3, h4⟩ := rune_inv e
  have hd : dec (v ++ t) (shf N a B0 I st).pos = dec t st.pos := by
    show dec (v ++ t) (N + st.pos) = _
    rw [← hv, dec_right]
  rw [rune_ok (by show N + st.pos < _; rw [ByteArray.size_append]; omega) (by rw [hd]; exact h4), hd]
  show Except.ok ((v ++ t).extract (N + st.pos) (N + st.pos + (dec t st.pos).2), _) = _
  rw [← hv, Nat.add_assoc, ex_right]
  unfold shf
  rw [hv]
  simp only [Nat.add_assoc]
theorem quoted_mono {t : ByteArray} {p stop : Nat} : ∀ (f : Nat) {st st' : St}, quoted t p stop f st = .ok st' → st.items ≤ st'.items
  | 0, st, st', e => by injection e with e; subst e; exact Nat.le_refl _
  | f + 1, st, st', e => by
    unfold quoted at e
    split at e
    · obtain ⟨x, e1, e2⟩ := bind_inv e
      obtain ⟨y, e3, e4⟩ := bind_inv e2
      obtain ⟨_, rfl, _, _⟩ := rune_inv e1
      have h := quoted_mono f e4
      unfold put at e3
      split at e3
      · cases e3
      injection e3 with e3
      subst e3
      simp only at h
      omega
    · injection e with e; subst e; exact Nat.le_refl _
theorem put_items {k p : Int} {t : ByteArray} {st st' : St} (e : put k t p st = .ok st') : st'.items = st.items + 1 ∧ st'.secs.length = st.secs.length := by
  unfold put at e
  split at e
  · cases e
  injection e with e
  subst e
  exact ⟨rfl, onLast_len _ _⟩
theorem quoted_right {v t : ByteArray} {p p' stop : Nat} (hv : v.size = N) : ∀ (f : Nat) {st st' : St}, 0 < st.secs.length → quoted t p stop f st = .ok st' → I + st'.items ≤ 100 → quoted (v ++ t) p' (N + stop) f (shf N a B0 I st) = .ok (shf N a B0 I st')
  | 0, st, st', h0, e, _ => by injection e with e; subst e; rfl
  | f + 1, st, st', h0, e, hi => by
    unfold quoted at e ⊢
    rw [show (shf N a B0 I st).pos = N + st.pos from rfl]
    split at e
    · rename_i hlt
      rw [if_pos (show N + st.pos < N + stop by omega)]
      obtain ⟨x, e1, e2⟩ := bind_inv e
      obtain ⟨y, e3, e4⟩ := bind_inv e2
      rw [rune_right hv e1]
      obtain ⟨_, rfl, _, _⟩ := rune_inv e1
      have hm := quoted_mono f e4
      obtain ⟨hy1, hy2⟩ := put_items e3
      have hpr := put_right (N := N) (a := a) (B0 := B0) (I := I) (p' := ((N + st.pos : Nat) : Int)) (st := { st with pos := st.pos + (dec t st.pos).2 }) h0 e3 (by omega)
      exact (congrArg (fun z => Except.bind z (quoted (v ++ t) p' (N + stop) f)) hpr).trans (quoted_right hv f (by rw [hy2]; exact h0) e4 hi)
    · rename_i hlt
      rw [if_neg (show ¬ N + st.pos < N + stop by omega)]
      injection e with e; subst e; rfl
theorem comma_right {v t : ByteArray} {p : Nat} {st st' : St} (hv : v.size = N) (h0 : 0 < st.secs.length) (hp : st.pos = p + 1) (ho : st.opn = true → 0 < p) (e : comma t p st = .ok st') : comma (v ++ t) (N + p) (shf N a B0 I st) = .ok (shf N a B0 I st') := by
  unfold comma at e ⊢
  simp only at e ⊢
  have hn : (decide ((shf N a B0 I st).pos < (v ++ t).size) && isDigit (ch (v ++ t) (shf N a B0 I st).pos)) = (decide (st.pos < t.size) && isDigit (ch t st.pos)) := by
    show (decide (N + st.pos < (v ++ t).size) && isDigit (ch (v ++ t) (N + st.pos))) = _
    rw [← hv, ch_append_right, ByteArray.size_append]
    by_cases h : st.pos < t.size
    · rw [decide_eq_true h, decide_eq_true (by omega)]
    · rw [decide_eq_false h, decide_eq_false (by omega)]
  rw [hn]
  by_cases hop : st.opn = true
  · have hp0 := ho hop
    have hc : ch (v ++ t) (N + p - 1) = ch t (p - 1) := by
      rw [show N + p - 1 = N + (p - 1) by omega, ← hv, ch_append_right]
    rw [hc]
    have hop2 : (shf N a B0 I st).opn = st.opn := rfl
    rw [hop2]
    split at e
    · cases e
    rename_i h1
    rw [if_neg h1]
    split at e
    · rename_i h2
      rw [if_pos h2]
      injection e with e
      subst e
      show Except.ok _ = Except.ok _
      congr 1
      unfold shf
      simp only
      rw [onLast_cons _ _ _ h0]
    · rename_i h2
      rw [if_neg h2]
      injection e with e
      subst e
      show Except.ok _ = Except.ok _
      congr 1
      unfold shf
      simp only
      rw [onLast_cons _ _ _ h0]
  · rw [if_pos (.inl (by simpa using hop))] at e
    cases e
theorem ext_right {v t : ByteArray} {i : Nat} (hv : v.size = N) : (v ++ t).extract (N + i) (v ++ t).size = t.extract i t.size := by
  rw [ByteArray.size_append, ← hv, ex_right]
theorem other_right {v t : ByteArray} {c p : Nat} {st st' : St} (hv : v.size = N) (h0 : 0 < st.secs.length) (hp : st.pos = p + 1) (e : other t c p st = .ok st') (hi : I + st'.items ≤ 100) : other (v ++ t) c (N + p) (shf N a B0 I st) = .ok (shf N a B0 I st') := by
  unfold other at e ⊢
  have x1 : (v ++ t).extract (N + p) (N + p + 1) = t.extract p (p + 1) := by rw [Nat.add_assoc, ← hv, ex_right]
  have x2 : (v ++ t).extract (N + p + 1) (N + p + 2) = t.extract (p + 1) (p + 2) := by rw [Nat.add_assoc, Nat.add_assoc, ← hv, ex_right]
  rw [x1, ext_right hv, x2]
  split at e
  · rename_i h; rw [if_pos h]; exact put_right h0 e hi
  rename_i hb
  rw [if_neg hb]
  split at e
  · rename_i h; rw [if_pos h]; exact put_right h0 e hi
  rename_i hs
  rw [if_neg hs]
  split at e
  · rename_i h
    rw [if_pos h]
    have := put_right (N := N) (a := a) (B0 := B0) (I := I) (p' := ((N + p : Nat) : Int)) (st := { st with pos := p + 7 }) h0 e hi
    rw [show ({ (shf N a B0 I st) with pos := N + p + 7 } : St) = shf N a B0 I { st with pos := p + 7 } from rfl]
    exact this
  rename_i hg
  rw [if_neg hg]
  have hc : ch (v ++ t) (N + p + 1) = ch t (p + 1) := by rw [Nat.add_assoc, ← hv, ch_append_right]
  rw [hc]
  split at e
  · rename_i h
    rw [if_pos ⟨h.1, by rw [ByteArray.size_append, hv]; omega, h.2.2⟩]
    have := put_right (N := N) (a := a) (B0 := B0) (I := I) (p' := ((N + p : Nat) : Int)) (st := { st with pos := p + 2 }) h0 e hi
    rw [show ({ (shf N a B0 I st) with pos := N + p + 2 } : St) = shf N a B0 I { st with pos := p + 2 } from rfl]
    exact this
  · cases e
/-- One step of the second text's reader, behind the first text. -/
theorem one_right {v t : ByteArray} {st st' : St} (hv : v.size = N) (h : Ok t st) (hlt : st.pos < t.size) (e : one t st = .ok st') (hi : I + st'.items ≤ 100) (h3 : st'.secs.length ≤ 3) : one (v ++ t) (shf N a B0 I st) = .ok (shf N a B0 I st') := by
  have h0 := h.fit.some
  unfold one at e ⊢
  simp only at e ⊢
  have hpos : (shf N a B0 I st).pos = N + st.pos := rfl
  have hc : ch (v ++ t) (N + st.pos) = ch t st.pos := by rw [← hv, ch_append_right]
  have hst1 : ({ (shf N a B0 I st) with pos := N + st.pos + 1 } : St) = shf N a B0 I { st with pos := st.pos + 1 } := rfl
  rw [hpos, hc, hst1]
  split at e
  · rename_i h1
    rw [if_pos h1]
    unfold beg at e ⊢
    simp only at e
    split at e
    · cases e
    rename_i hne
    injection e with e
    subst e
    simp only [List.length_append, List.length_cons, List.length_nil] at h3
    rw [if_neg (by show ¬ (a :: st.secs).length = 4; rw [List.length_cons]; omega)]
    show Except.ok _ = Except.ok _
    congr 1
    unfold shf
    simp only [List.map_append, List.map_cons, List.map_nil, List.cons_append, List.append_assoc]
    congr 4
    omega
  rename_i h1
  rw [if_neg h1]
  split at e
  · rename_i h2
    rw [if_pos h2]
    have x1 : (v ++ t).extract (N + st.pos + 1) (v ++ t).size = t.extract (st.pos + 1) t.size := by rw [Nat.add_assoc]; exact ext_right hv
    have x2 : ∀ n : Nat, (v ++ t).extract (N + st.pos + 1) (N + st.pos + 1 + n) = t.extract (st.pos + 1) (st.pos + 1 + n) := fun n => by rw [Nat.add_assoc, Nat.add_assoc, ← hv, ex_right]
    rw [x1, x2]
    generalize (Lib.indexByte (t.extract (st.pos + 1) t.size).data.toList 34).toNat = n at *
    split at e
    · cases e
    rename_i hn
    rw [if_neg hn]
    obtain ⟨x, e1, e2⟩ := bind_inv e
    injection e2 with e2
    subst e2
    have hq := quoted_right (N := N) (a := a) (B0 := B0) (I := I) (v := v) (p' := N + st.pos) hv _ (st := { st with pos := st.pos + 1, opn := false }) h0 e1 hi
    rw [show N + (st.pos + 1 + n) = N + st.pos + 1 + n by omega] at hq
    exact (congrArg (fun z => Except.bind z (fun y : St => (Except.ok { y with pos := y.pos + 1 } : M St))) hq).trans (congrArg Except.ok (shf_next N a B0 I x))
  rename_i h2
  rw [if_neg h2]
  split at e
  · rename_i h4
    rw [if_pos h4]
    obtain ⟨x, e1, e2⟩ := bind_inv e
    rw [rune_right hv e1]
    obtain ⟨_, rfl, _, _⟩ := rune_inv e1
    exact put_right h0 e2 hi
  rename_i h4
  rw [if_neg h4]
  split at e
  · rename_i h5
    rw [if_pos h5]
    obtain ⟨x, e1, e2⟩ := bind_inv e
    rw [rune_right hv e1]
    obtain ⟨_, rfl, _, _⟩ := rune_inv e1
    exact put_right h0 e2 hi
  rename_i h5
  rw [if_neg h5]
  split at e
  · rename_i h6
    rw [if_pos h6]
    exact comma_right hv h0 rfl (fun ho => h.op ho) e
  rename_i h6
  rw [if_neg h6]
  split at e
  · rename_i h7
    rw [if_pos h7, show (v ++ t).extract (N + st.pos) (N + st.pos + 1) = t.extract st.pos (st.pos + 1) by rw [Nat.add_assoc, ← hv, ex_right]]
    exact put_right h0 e hi
  · rename_i h7
    rw [if_neg h7]
    exact other_right hv h0 rfl e hi
end Pa
end Go.Proofs.YticodcecillciaaDoor

/- Plain Lean: two texts of one section each, with a semicolon between, are read as both sections. -/
namespace Go.Proofs.YticodcecillciaaDoor
set_option linter.all false
open Go.RowKit

namespace Pa
theorem total_cons (a : Sec) (l : List Sec) : total (a :: l) = a.items.length + total l := by unfold total; simp
theorem total_onLast (f : Sec → Sec) (d : Nat) (hf : ∀ x, (f x).items.length = x.items.length + d) : ∀ l : List Sec, 0 < l.length → total (onLast l f) = total l + d
  | [], h => by simp at h
  | a :: l, _ => by
    by_cases h0 : 0 < l.length
    · rw [onLast_cons a l f h0, total_cons, total_cons, total_onLast f d hf l h0]; omega
    · have e : l = [] := List.length_eq_zero_iff.1 (by omega)
      subst e
      show total [f a] = _
      rw [total_cons, total_cons, hf]; simp [total]
/-- What a step keeps: the items are counted, they and the sections grow. -/
structure Grows (st st' : St) : Prop where
  tot : st.items = total st.secs → st'.items = total st'.secs
  items : st.items ≤ st'.items
  secs : st.secs.length ≤ st'.secs.length
theorem Grows.refl (st : St) : Grows st st := ⟨id, Nat.le_refl _, Nat.le_refl _⟩
theorem Grows.trans {a b c : St} (h : Grows a b) (h' : Grows b c) : Grows a c := ⟨fun x => h'.tot (h.tot x), Nat.le_trans h.items h'.items, Nat.le_trans h.secs h'.secs⟩
theorem put_grows {k p : Int} {t : ByteArray} {st st' : St} (h0 : 0 < st.secs.length) (e : put k t p st = .ok st') : Grows st st' := by
  unfold put at e
  split at e
  · cases e
  injection e with e
  subst e
  refine ⟨fun h => ?_, by simp only; omega, by simp only; rw [onLast_len]; exact Nat.le_refl _⟩
  simp only
  rw [total_onLast (fun z => { z with items := z.items ++ [⟨k, t⟩] }) 1 (fun x => by simp) st.secs h0, h]
theorem quoted_grows {s : ByteArray} {p stop : Nat} : ∀ (f : Nat) {st st' : St}, 0 < st.secs.length → quoted s p stop f st = .ok st' → Grows st st'
  | 0, st, st', _, e => by injection e with e; subst e; exact Grows.refl _
  | f + 1, st, st', h0, e => by
    unfold quoted at e
    split at e
    · obtain ⟨x, e1, e2⟩ := bind_inv e
      obtain ⟨y, e3, e4⟩ := bind_inv e2
      obtain ⟨_, rfl, _, _⟩ := rune_inv e1
      have h1 := put_grows (st := { st with pos := st.pos + (dec s st.pos).2 }) h0 e3
      have h2 := quoted_grows f (Nat.lt_of_lt_of_le h0 h1.secs) e4
      have h3 := h1.trans h2
      exact ⟨h3.tot, h3.items, h3.secs⟩
    · injection e with e; subst e; exact Grows.refl _
theorem one_grows {s : ByteArray} {st st' : St} (h0 : 0 < st.secs.length) (e : one s st = .ok st') : Grows st st' := by
  have hput : ∀ {k p : Int} {t : ByteArray} {st1 : St}, put k t p st1 = .ok st' → st1.secs = st.secs → st1.items = st.items → Grows st st' := fun {k p t st1} e h1 h2 => by
    have h := put_grows (st := st1) (by rw [h1]; exact h0) e
    exact ⟨fun x => h.tot (by rw [h1, h2]; exact x), by rw [← h2]; exact h.items, by rw [← h1]; exact h.secs⟩
  unfold one at e
  simp only at e
  split at e
  · unfold beg at e
    split at e
    · cases e
    injection e with e
    subst e
    refine ⟨fun h => ?_, Nat.le_refl _, by simp⟩
    simp only at h ⊢
    rw [h]; unfold total; simp
  split at e
  · split at e
    · cases e
    obtain ⟨x, e1, e2⟩ := bind_inv e
    injection e2 with e2
    subst e2
    have h := quoted_grows _ (st := { st with pos := st.pos + 1, opn := false }) h0 e1
    exact ⟨h.tot, h.items, h.secs⟩
  split at e
  · obtain ⟨x, e1, e2⟩ := bind_inv e
    obtain ⟨_, rfl, _, _⟩ := rune_inv e1
    exact hput e2 rfl rfl
  split at e
  · obtain ⟨x, e1, e2⟩ := bind_inv e
    obtain ⟨_, rfl, _, _⟩ := rune_inv e1
    exact hput e2 rfl rfl
  split at e
  · unfold comma at e
    simp only at e
    split at e
    · cases e
    split at e
    · injection e with e
      subst e
      refine ⟨fun h => ?_, Nat.le_refl _, by simp only; rw [onLast_len]; exact Nat.le_refl _⟩
      simp only at h ⊢
      rw [total_onLast (fun z => { z with grouped := true }) 0 (fun x => rfl) st.secs h0]; exact h
    · injection e with e
      subst e
      refine ⟨fun h => ?_, Nat.le_refl _, by simp only; rw [onLast_len]; exact Nat.le_refl _⟩
      simp only at h ⊢
      rw [total_onLast (fun z => { z with scale := z.scale + 1 }) 0 (fun x => rfl) st.secs h0]; exact h
  split at e
  · exact hput e rfl rfl
  · unfold other at e
    split at e
    · exact hput e rfl rfl
    split at e
    · exact hput e rfl rfl
    split at e
    · exact hput e rfl rfl
    split at e
    · exact hput e rfl rfl
    · cases e
theorem loop_grows {s : ByteArray} : ∀ (f : Nat) {st e : St}, Ok s st → loop s f st = .ok e → Grows st e
  | 0, st, e, _, he => by injection he with he; subst he; exact Grows.refl _
  | f + 1, st, e, h, he => by
    unfold loop at he
    split at he
    · rename_i hlt
      obtain ⟨st', e1, e2⟩ := bind_inv he
      exact (one_grows h.fit.some e1).trans (loop_grows f (h.one hlt e1).1 e2)
    · injection he with he; subst he; exact Grows.refl _
theorem loop_right {v t : ByteArray} {N : Nat} {a : Sec} {B0 : List Int} {I : Nat} (hv : v.size = N) : ∀ (f : Nat) {st e : St}, Ok t st → t.size < st.pos + f → loop t f st = .ok e → I + e.items ≤ 100 → e.secs.length ≤ 3 →
    ∀ g, (v ++ t).size < N + st.pos + g → loop (v ++ t) g (shf N a B0 I st) = .ok (shf N a B0 I e)
  | 0, st, e, h, hf, _, _, _, g, _ => by have := h.fit.pos; omega
  | f + 1, st, e, h, hf, he, hi, h3, g, hg => by
    have hsz : (v ++ t).size = N + t.size := by rw [ByteArray.size_append, hv]
    unfold loop at he
    split at he
    · rename_i hlt
      obtain ⟨st', e1, e2⟩ := bind_inv he
      obtain ⟨h2, hp⟩ := h.one hlt e1
      have hgr := loop_grows f h2 e2
      obtain ⟨g, rfl⟩ : ∃ g', g = g' + 1 := ⟨g - 1, by omega⟩
      have h1 := one_right (N := N) (a := a) (B0 := B0) (I := I) hv h hlt e1 (by have := hgr.items; omega) (by have := hgr.secs; omega)
      have hr := loop_right (a := a) (B0 := B0) hv f h2 (by omega) e2 hi h3 g (by omega)
      unfold loop
      rw [if_pos (show (shf N a B0 I st).pos < (v ++ t).size by show N + st.pos < _; omega)]
      exact (congrArg (fun z => Except.bind z (loop (v ++ t) g)) h1).trans hr
    · rename_i hlt
      injection he with he
      subst he
      exact loop_end (by show ¬ N + st.pos < _; omega)
theorem end_one {r : M St} {a : Sec} (h : endR r = ([a], 0, 0)) : ∃ e, r = .ok e ∧ e.secs = [a] ∧ wrong [a] < 0 := by
  unfold endR at h
  cases r with
  | error x => simp [Except.bind] at h
  | ok e =>
    have hb : (Except.ok e : M St).bind fin = fin e := rfl
    rw [hb] at h
    cases hf : fin e with
    | error x => rw [hf] at h; simp at h
    | ok x =>
      rw [hf] at h
      unfold fin at hf
      split at hf
      · cases hf
      · rename_i hw
        injection hf with hf
        subst hf
        simp only [Prod.mk.injEq, and_true] at h
        exact ⟨e, rfl, h, by rw [← h]; omega⟩
theorem wrong_one {a : Sec} (h : wrong [a] < 0) : shape a ≠ 0 := by
  have := wrong_neg h 0 (by simp)
  intro e
  unfold bad at this
  rw [show ([a] : List Sec)[0]! = a from rfl, if_pos e] at this
  cases this
theorem wrong_two {a b : Sec} (ha : shape a ≠ 0) (hb : shape b ≠ 0) (ha6 : shape a ≠ 6) (hb6 : shape b ≠ 6) : wrong [a, b] = -1 := by
  refine wrong_not fun i hi => ?_
  have : i = 0 ∨ i = 1 := by simp at hi; omega
  unfold bad
  rcases this with rfl | rfl
  · rw [show ([a, b] : List Sec)[0]! = a from rfl, if_neg ha, if_neg ha6]
    split
    · rfl
    · rfl
  · rw [show ([a, b] : List Sec)[1]! = b from rfl, if_neg hb, if_neg hb6]
    split
    · rfl
    · rfl
theorem joins {s t : ByteArray} {a b : Sec} (hs : s.size ≤ 490) (ht : t.size ≤ 490) (h1 : parse s = ([a], 0, 0)) (h2 : parse t = ([b], 0, 0)) (hn : a.items.length + b.items.length ≤ 100) (ha : shape a ≠ 6) (hb : shape b ≠ 6) :
    parse ((s ++ ⟨#[59]⟩) ++ t) = ([a, b], 0, 0) := by
  have hr1 : (⟨#[59]⟩ : ByteArray).size = 1 := rfl
  have hu : ((s ++ ⟨#[59]⟩) ++ t).size = s.size + 1 + t.size := by rw [ByteArray.size_append, ByteArray.size_append, hr1]
  rw [parse_eq _ (by omega)] at h1 h2 ⊢
  obtain ⟨e1, l1, s1, w1⟩ := end_one h1
  obtain ⟨e2, l2, s2, w2⟩ := end_one h2
  have o1 := ok_st1 s (by omega)
  have o2 := ok_st1 t (by omega)
  have g1 := (loop_grows _ o1 l1).tot rfl
  have g2 := (loop_grows _ o2 l2).tot rfl
  rw [s1] at g1
  rw [s2] at g2
  have g1' : e1.items = a.items.length := by rw [g1, total_cons]; rfl
  have g2' : e2.items = b.items.length := by rw [g2, total_cons]; rfl
  have hassoc : (s ++ ⟨#[59]⟩) ++ t = s ++ (⟨#[59]⟩ ++ t) := ByteArray.append_assoc
  have hd : isDigit (ch (⟨#[59]⟩ ++ t) 0) = false := by rw [ch_append_left (by decide)]; rfl
  obtain ⟨g', b1, b2, b3, b4⟩ := loop_left (r := ⟨#[59]⟩ ++ t) hd (s.size + 1) o1 (by show s.size < 0 + _; omega) l1 (((s ++ ⟨#[59]⟩) ++ t).size + 1) (by rw [← hassoc]; show _ < 0 + _; omega)
  rw [← hassoc] at b1 b2
  rw [b2]
  obtain ⟨g', rfl⟩ : ∃ k, g' = k + 1 := ⟨g' - 1, by omega⟩
  have hone : one ((s ++ ⟨#[59]⟩) ++ t) e1 = .ok (shf (s.size + 1) a e1.begins e1.items st1) := by
    unfold one
    have hc : ch ((s ++ ⟨#[59]⟩) ++ t) e1.pos = 59 := by
      rw [b3, hassoc, show s.size = s.size + 0 by omega, ch_append_right, ch_append_left (by decide)]; rfl
    simp only
    rw [hc, if_pos rfl]
    unfold beg
    simp only
    rw [s1, if_neg (by simp), b3]
    unfold shf st1
    simp
  unfold loop
  rw [if_pos (by omega), hone]
  have hloop := loop_right (N := s.size + 1) (a := a) (B0 := e1.begins) (I := e1.items) (v := s ++ ⟨#[59]⟩) (by rw [ByteArray.size_append, hr1]) (t.size + 1) o2 (by show t.size < 0 + _; omega) l2 (by omega) (by rw [s2]; simp) g' (by show _ < s.size + 1 + 0 + g'; omega)
  show endR (loop _ g' (shf (s.size + 1) a e1.begins e1.items st1)) = _
  rw [hloop]
  have hw := wrong_two (wrong_one w1) (wrong_one w2) ha hb
  unfold endR
  have hsec : (shf (s.size + 1) a e1.begins e1.items e2).secs = [a, b] := by unfold shf; simp only; rw [s2]
  have hf : (Except.ok (shf (s.size + 1) a e1.begins e1.items e2) : M St).bind fin = .ok (shf (s.size + 1) a e1.begins e1.items e2) := by
    show fin _ = _
    unfold fin
    rw [hsec, hw, if_neg (by decide)]
  rw [hf]
  simp only [hsec]
end Pa
end Go.Proofs.YticodcecillciaaDoor

/- The statement PatternJoins: where it asks nothing. -/
namespace Go.Proofs.YticodcecillciaaDoor
set_option linter.all false
open Go.RowKit

/-- What Parse answers, as the walks want it. -/
theorem parse_form (s : ByteArray) (w : World) (hu : U8 w) : Calls Tryd.prog 15 #[.string s] w (fun e w' => ∃ a cc, e = .returned (.tuple #[.agg #[.slice a (Pa.parse s).1.length cc], .int .i64 (Pa.parse s).2.1, .int .i64 (Pa.parse s).2.2]) ∧ Below w.heap.size w w') :=
  (pa_parse_any s w hu).mono fun e w' hh => by
    obtain ⟨v, rfl, hs, hb⟩ := hh
    obtain ⟨a, cc, rfl, _⟩ := hs.form
    exact ⟨a, cc, rfl, hb⟩

set_option maxRecDepth 100000 in
set_option maxHeartbeats 8000000 in
theorem l13_joins_long (s t : ByteArray) (w : World) (hu : U8 w) (hm : MaxL w) (h : 490 < s.size ∨ 490 < t.size) :
    Calls Tryd.prog 5 #[.string s, .string t] w (RetB (.bool true) w) := by
  have hsh := l13_shown_any w hu hm
  have HSH := Lib.hid hsh
  clear hsh hu hm
  by_cases h1 : 490 < s.size
  · have i1 : (490 : Int) < (s.size : Int) := by omega
    clear h h1
    go_enter Tryd.func5, Tryd.ntmps5
    go_wp2_with (go_at_call 6; (with_reducible refine (HSH.out).mono ?_); rintro e w1 ⟨rfl, hb_w1⟩)
    go_ret
    exact RetB.of rfl hb_w1
  · have i1 : ¬ (490 : Int) < (s.size : Int) := by omega
    have i2 : (490 : Int) < (t.size : Int) := by omega
    clear h h1
    go_enter Tryd.func5, Tryd.ntmps5
    go_wp2_with (go_at_call 6; (with_reducible refine (HSH.out).mono ?_); rintro e w1 ⟨rfl, hb_w1⟩)
    go_ret
    exact RetB.of rfl hb_w1

set_option maxRecDepth 100000 in
set_option maxHeartbeats 8000000 in
theorem l13_joins_not (s t : ByteArray) (w : World) (hu : U8 w) (hm : MaxL w) (hs : s.size ≤ 490) (ht : t.size ≤ 490)
    (h : ¬ ((Pa.parse s).2.1 = 0 ∧ (Pa.parse t).2.1 = 0 ∧ (Pa.parse s).1.length = 1 ∧ (Pa.parse t).1.length = 1)) :
    Calls Tryd.prog 5 #[.string s, .string t] w (RetB (.bool true) w) := by
  have hsh := l13_shown_any w hu hm
  have hp1 := fun (W : World) (hW : Below w.heap.size w W) => parse_form s W (hu.on hW)
  have hp2 := fun (W : World) (hW : Below w.heap.size w W) => parse_form t W (hu.on hW)
  have i1 : ¬ (490 : Int) < (s.size : Int) := by omega
  have i2 : ¬ (490 : Int) < (t.size : Int) := by omega
  generalize (Pa.parse s).2.1 = c1 at *
  generalize (Pa.parse s).2.2 = p1 at *
  generalize (Pa.parse s).1.length = n1 at *
  generalize (Pa.parse t).2.1 = c2 at *
  generalize (Pa.parse t).2.2 = p2 at *
  generalize (Pa.parse t).1.length = n2 at *
  have HSH := Lib.hid hsh; have HP1 := Lib.hid hp1; have HP2 := Lib.hid hp2
  clear hsh hp1 hp2 hu hm hs ht
  have hcase : (c1 != 0) = true ∨ ((c1 != 0) = false ∧ (c2 != 0) = true) ∨ ((c1 != 0) = false ∧ (c2 != 0) = false ∧ ((n1 : Int) != 1) = true) ∨ ((c1 != 0) = false ∧ (c2 != 0) = false ∧ ((n1 : Int) != 1) = false ∧ ((n2 : Int) != 1) = true) := by
    simp only [bne_iff_ne, bne_eq_false_iff_eq]
    by_cases a1 : c1 = 0
    · by_cases a2 : c2 = 0
      · by_cases a3 : n1 = 1
        · exact .inr (.inr (.inr ⟨a1, a2, by omega, fun e => h ⟨a1, a2, a3, by omega⟩⟩))
        · exact .inr (.inr (.inl ⟨a1, a2, by omega⟩))
      · exact .inr (.inl ⟨a1, a2⟩)
    · exact .inl a1
  clear h
  rcases hcase with f1 | ⟨f1, f2⟩ | ⟨f1, f2, f3⟩ | ⟨f1, f2, f3, f4⟩
  all_goals
    go_enter Tryd.func5, Tryd.ntmps5
    go_wp2_with (first
      | (go_at_call 6; (with_reducible refine (HSH.out).mono ?_); rintro e w1 ⟨rfl, hb_w1⟩)
      | (go_at_call 15; (with_reducible refine (HP1.out _ (by first | assumption | (repeat (first | exact Below.refl _ _ | assumption | refine Below.setCell ?_ (by first | omega | (simp <;> omega)) _ | refine Below.alloc ?_ (by first | omega | (simp <;> omega)) _ | refine Below.drew ?_ | refine below_drewN' ?_ _)))).mono ?_); rintro e w2 ⟨a1, cc1, rfl, hb_w2⟩; have hB2 : Below w.heap.size w w2 := Below.next (by first | assumption | (repeat (first | exact Below.refl _ _ | assumption | refine Below.setCell ?_ (by first | omega | (simp <;> omega)) _ | refine Below.alloc ?_ (by first | omega | (simp <;> omega)) _ | refine Below.drew ?_ | refine below_drewN' ?_ _))) hb_w2; have hz2 := hB2.size)
      | (go_at_call 15; (with_reducible refine (HP2.out _ (by first | (exact hB2.alloc hz2 _) | (repeat (first | exact Below.refl _ _ | assumption | refine Below.setCell ?_ (by first | omega | (simp <;> omega)) _ | refine Below.alloc ?_ (by first | omega | (simp <;> omega)) _ | refine Below.drew ?_ | refine below_drewN' ?_ _)))).mono ?_); rintro e w3 ⟨a2, cc2, rfl, hb_w3⟩; have hB3 : Below w.heap.size w w3 := (hB2.alloc hz2 _).trans (hb_w3.mono (by simp only [World.size_alloc]; omega)); have hz3 := hB3.size; have hz23 := hb_w3.size; (try simp only [World.size_alloc] at hz23); have cx : w3.cell? ⟨w2.heap.size, 0, none⟩ = some (.slice a1 n1 cc1) := (hb_w3.cell (p := ⟨w2.heap.size, 0, none⟩) (by simp)).trans (by simp [go_sem]); have lx : w2.heap.size < w3.heap.size := (by omega); have nx : ¬ w2.heap.size = w3.heap.size := (by omega)))
    go_ret
    exact RetB.of rfl (hB3.alloc hz3 _)
end Go.Proofs.YticodcecillciaaDoor
