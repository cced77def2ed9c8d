/- Two rows of references are compared, by the statements' own function. -/
import Derived.Test.YtbbeeglfgnabmaaDoorRows2
import Derived.Test.YtbbeeglfgnabmaaDoorRefEq
import Derived.Deep.QuietTactic
import Derived.BigQuiet
import Derived.Deep.DeepCutAuto
import Derived.IntWalk
namespace Go.Proofs.YtbbeeglfgnabmaaDoor
set_option linter.all false
open Go.RowKit
attribute [local go_sem high] ref_neq ref_guard

theorem take_succ_eq {l1 l2 : List Ce.Rf} {k : Nat} (h1 : k < l1.length) (h2 : k < l2.length) (h : l1.take k = l2.take k) (e : l1[k] = l2[k]) : l1.take (k + 1) = l2.take (k + 1) := by
  rw [List.take_succ_eq_append_getElem h1, List.take_succ_eq_append_getElem h2, h, e]

set_option maxRecDepth 100000 in
set_option maxHeartbeats 2000000 in
theorem l15_same_any (w : World) (b1 b2 : Nat) (v1 v2 : Value) (l1 l2 : List Ce.Rf) (h1 : RowR w b1 v1 l1) (h2 : RowR w b2 v2 l2) (n1 : l1.length ≤ 100000) (n2 : l2.length ≤ 100000) :
    Calls Tryd.prog 28 #[v1, v2] w (RetB (.bool (decide (l1 = l2))) w) := by
  obtain ⟨r, hr⟩ : ∃ r, r = decide (l1 = l2) := ⟨_, rfl⟩
  rw [← hr]
  by_cases hl : l1.length = l2.length
  · by_cases h0 : 0 < l1.length
    · obtain ⟨g1, c1, rfl, hg1, f1⟩ := h1.some h0
      obtain ⟨g2, c2, rfl, hg2, f2⟩ := h2.some (by omega)
      obtain ⟨N, hN⟩ : ∃ N, N = l1.length := ⟨_, rfl⟩
      rw [← hl, ← hN]
      have hNN : N ≤ 100000 := by omega
      have HR := Lib.hid hr; have HL := Lib.hid hl; have HN := Lib.hid hN; have F1 := Lib.hid f1; have F2 := Lib.hid f2
      clear hr hl hN f1 f2 h1 h2 n1 n2 h0
      go_enter Tryd.func28, Tryd.ntmps28
      go_wp2_with fail
      go_loopw [5] (fun i wr => ∃ k : Nat, k ≤ N ∧ i = .int .i64 k ∧ l1.take k = l2.take k ∧ Below w.heap.size w wr) (fun i _ => N - (intOf i).toNat)
      case atStart => exact ⟨0, Nat.zero_le _, rfl, by simp, Below.refl _ _⟩
      case round =>
        obtain ⟨k, hk, rfl, hpre, hbw⟩ := hrel
        have HP := Lib.hid hpre; clear hpre
        by_cases hlt : k < N
        · have k1 : k < l1.length := by have := HN.out; omega
          have k2 : k < l2.length := by have := HN.out; have := HL.out; omega
          obtain ⟨x0, x1, x2, x3⟩ := F1.out k k1
          obtain ⟨y0, y1, y2, y3⟩ := F2.out k k2
          have hb := fun (g i : Nat) (hg : g < w.heap.size) => hbw.cell (p := ⟨g, i, none⟩) hg
          replace x0 := (hb g1 (k * 4) hg1).trans x0
          replace x1 := (hb g1 (k * 4 + 1) hg1).trans x1
          replace x2 := (hb g1 (k * 4 + 2) hg1).trans x2
          replace x3 := (hb g1 (k * 4 + 3) hg1).trans x3
          replace y0 := (hb g2 (k * 4) hg2).trans y0
          replace y1 := (hb g2 (k * 4 + 1) hg2).trans y1
          replace y2 := (hb g2 (k * 4 + 2) hg2).trans y2
          replace y3 := (hb g2 (k * 4 + 3) hg2).trans y3
          obtain ⟨p, hp⟩ : ∃ p, p = l1[k] := ⟨_, rfl⟩
          obtain ⟨q, hq⟩ : ∃ q, q = l2[k] := ⟨_, rfl⟩
          rw [← hp] at x0 x1 x2 x3
          rw [← hq] at y0 y1 y2 y3
          have HPP := Lib.hid hp; have HQQ := Lib.hid hq
          clear hp hq hb
          obtain ⟨p0, p1, p2, p3⟩ := p
          obtain ⟨q0, q1, q2, q3⟩ := q
          simp only at x0 x1 x2 x3 y0 y1 y2 y3
          have i0 : (0 : Int) ≤ (k : Int) := by omega
          have i1 : (k : Int) < (N : Int) := by omega
          have i2 : (N : Int) ≤ 100000 := by omega
          by_cases heq : p0 = q0 ∧ p1 = q1 ∧ p2 = q2 ∧ p3 = q3
          · obtain ⟨rfl, rfl, rfl, rfl⟩ := heq
            have hb := refEq_yes p0 p1 p2 p3
            go_wp2_with fail
            go_quiet (fail)
            go_wp2
            go_roundw
            case rel => exact ⟨k + 1, by omega, by go_num, take_succ_eq k1 k2 HP.out (by rw [← HPP.out, ← HQQ.out]), by (repeat (first | exact Below.refl _ _ | assumption | refine Below.setCell ?_ (by first | omega | (simp <;> omega)) _ | refine Below.alloc ?_ (by first | omega | (simp <;> omega)) _ | refine Below.drew ?_ | refine below_drewN' ?_ _))⟩
            case measure => simp [intOf]; omega
          · have hb := refEq_no heq
            have hne : false = r := by
              rw [HR.out]; symm; rw [decide_eq_false_iff_not]; intro e
              apply heq
              have h3 := HPP.out; have h4 := HQQ.out
              subst e
              rw [← h3] at h4
              injection h4 with a1 a2 a3 a4
              exact ⟨a1.symm, a2.symm, a3.symm, a4.symm⟩
            have HNE := Lib.hid hne; clear hne heq
            go_wp2_with fail
            go_quiet (fail)
            go_wp2
            go_ret
            exact RetB.of (congrArg Value.bool HNE.out) (by (repeat (first | exact Below.refl _ _ | assumption | refine Below.setCell ?_ (by first | omega | (simp <;> omega)) _ | refine Below.alloc ?_ (by first | omega | (simp <;> omega)) _ | refine Below.drew ?_ | refine below_drewN' ?_ _)))
        · have hkk : k = N := by omega
          have hy : true = r := by
            rw [HR.out]; symm; rw [decide_eq_true_iff]
            have h3 := HP.out
            rw [hkk, List.take_of_length_le (by have := HN.out; omega), List.take_of_length_le (by have := HN.out; have := HL.out; omega)] at h3
            exact h3
          have HY := Lib.hid hy; clear hy hkk
          go_wp2
          go_ret
          exact RetB.of (congrArg Value.bool HY.out) hbw
    · have e1 : l1 = [] := List.length_eq_zero_iff.1 (by omega)
      have e2 : l2 = [] := List.length_eq_zero_iff.1 (by omega)
      subst e1 e2
      obtain ⟨⟨a1, c1, rfl⟩, _⟩ := h1
      obtain ⟨⟨a2, c2, rfl⟩, _⟩ := h2
      have HR := Lib.hid hr; clear hr hl h0 n1 n2
      simp only [List.length_nil]
      go_enter Tryd.func28, Tryd.ntmps28
      go_wp2_with fail
      go_loopw [5] (fun i wr => i = .int .i64 0 ∧ Below w.heap.size w wr) (fun i _ => 0)
      case atStart => exact ⟨rfl, Below.refl _ _⟩
      case round =>
        obtain ⟨rfl, hbw⟩ := hrel
        go_wp2
        go_ret
        exact RetB.of (congrArg Value.bool (by rw [HR.out]; rfl)) hbw
  · obtain ⟨⟨a1, c1, rfl⟩, _⟩ := h1
    obtain ⟨⟨a2, c2, rfl⟩, _⟩ := h2
    have hne : false = r := by rw [hr]; symm; rw [decide_eq_false_iff_not]; intro e; exact hl (congrArg List.length e)
    obtain ⟨N, hN⟩ : ∃ N, N = l1.length := ⟨_, rfl⟩
    obtain ⟨M, hM⟩ : ∃ N, N = l2.length := ⟨_, rfl⟩
    rw [← hN, ← hM] at hl ⊢
    have hb : ((N : Int) == M) = false := beq_eq_false_iff_ne.2 (by omega)
    have hb2 : ((N : Int) != M) = true := by simp; omega
    have HNE := Lib.hid hne; clear hne hr hl hN hM n1 n2
    go_enter Tryd.func28, Tryd.ntmps28
    go_wp2
    go_ret
    exact RetB.of (congrArg Value.bool HNE.out) (Below.refl _ _)
end Go.Proofs.YtbbeeglfgnabmaaDoor
