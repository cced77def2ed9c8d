/- What is moved, by the reference. -/
import Derived.Test.YtbbeeglfgnabmaaDoorT52
namespace Go.Proofs.YtbbeeglfgnabmaaDoor
set_option linter.all false
open Go.RowKit

theorem r15_mv_any (x d : Int) (f : Bool) (e : Int) (w : World) (hx : 0 ≤ x ∧ x < e) (he : e ≤ 1000) (hd : -9223372036854775808 ≤ d ∧ d ≤ 9223372036854775807) : Calls Tryd.prog 42 #[.int .i64 x, .int .i64 d, .bool f, .int .i64 e] w (Ret0 (.int .i64 (Ce.mv x d e f)) w) := by
  obtain ⟨v, hv⟩ : ∃ v, v = Ce.mv x d e f := ⟨_, rfl⟩
  rw [← hv]
  unfold Ce.mv at hv
  obtain ⟨x1, x2⟩ := hx
  cases f with
  | true =>
    rw [if_pos rfl] at hv
    have HV := Lib.hid hv; clear hv
    go_enter Tryd.func42, Tryd.ntmps42
    go_wp2
    go_ret
    exact Ret0.of (congrArg (Value.int .i64) HV.out.symm)
  | false =>
    rw [if_neg (by simp)] at hv
    by_cases h1 : d < -x
    · rw [if_pos (.inl h1)] at hv
      have HV := Lib.hid hv; clear hv
      go_enter Tryd.func42, Tryd.ntmps42
      go_wp2
      go_ret
      exact Ret0.of (congrArg (Value.int .i64) HV.out.symm)
    by_cases h2 : e - x ≤ d
    · rw [if_pos (.inr h2)] at hv
      have HV := Lib.hid hv; clear hv
      go_enter Tryd.func42, Tryd.ntmps42
      go_wp2
      go_ret
      exact Ret0.of (congrArg (Value.int .i64) HV.out.symm)
    · rw [if_neg (by omega)] at hv
      have h3 : -x ≤ d := by omega
      have h4 : d < e - x := by omega
      have HV := Lib.hid hv; clear hv
      go_enter Tryd.func42, Tryd.ntmps42
      go_wp2
      go_ret
      exact Ret0.of (congrArg (Value.int .i64) HV.out.symm)

set_option maxHeartbeats 1000000 in
theorem r15_moved_any (c d : Int) (a b : Bool) (p q : Int) (w : World) (hp : -9223372036854775808 ≤ p ∧ p ≤ 9223372036854775807) (hq : -9223372036854775808 ≤ q ∧ q ≤ 9223372036854775807) :
    Calls Tryd.prog 17 #[.agg #[.int .i64 c, .int .i64 d, .bool a, .bool b], .int .i64 p, .int .i64 q] w (RetB (movedV (Ce.moved ⟨c, d, a, b⟩ p q)) w) := by
  have hr := fun w => r15_right_any c d a b w
  cases h : Ce.right ⟨c, d, a, b⟩ with
  | false =>
    have he : movedV (Ce.moved ⟨c, d, a, b⟩ p q) = .tuple #[.agg #[.int .i64 0, .int .i64 0, .bool false, .bool false], .bool false] := by rw [Ce.moved, if_neg (by rw [h]; simp)]; rfl
    rw [he]
    rw [h] at hr
    have HR := Lib.hid hr; clear he hr h
    go_enter Tryd.func17, Tryd.ntmps17
    go_wp2_with (go_at_call 13; (with_reducible refine (HR.out _).mono ?_); rintro e w1 ⟨rfl, hb_w1⟩; have hB_w1 : Below (w).heap.size (w) w1 := Below.trans (by (repeat (first | exact Below.refl _ _ | assumption | refine Below.setCell ?_ (by first | omega | (simp <;> omega)) _ | refine Below.alloc ?_ (by first | omega | (simp <;> omega)) _ | refine Below.drew ?_ | refine below_drewN' ?_ _))) (hb_w1.mono (by first | omega | (simp <;> omega))); obtain ⟨hc_w1, hf_w1⟩ := bcell hb_w1; have hz_w1 := hb_w1.size; (try simp only [size_drew', size_drewN', World.size_alloc, World.size_setCell] at hz_w1); have hl0_w1 : w.heap.size < w1.heap.size := (by omega); have hm0_w1 : w.heap.size ≤ w1.heap.size := (by omega); have hn0_w1 : ¬ w.heap.size = w1.heap.size := (by omega); have hq0_w1 : ¬ w1.heap.size = w.heap.size := (by omega); have hr0_w1 := fun o => hc_w1 (w.heap.size) o (by (try simp only [size_drew', size_drewN', World.size_alloc, World.size_setCell]); omega); have hg0_w1 := fun o => hf_w1 (w.heap.size) o (by (try simp only [size_drew', size_drewN', World.size_alloc, World.size_setCell]); omega); have hl1_w1 : w.heap.size + 1 < w1.heap.size := (by omega); have hm1_w1 : w.heap.size + 1 ≤ w1.heap.size := (by omega); have hn1_w1 : ¬ w.heap.size + 1 = w1.heap.size := (by omega); have hq1_w1 : ¬ w1.heap.size = w.heap.size + 1 := (by omega); have hr1_w1 := fun o => hc_w1 (w.heap.size + 1) o (by (try simp only [size_drew', size_drewN', World.size_alloc, World.size_setCell]); omega); have hg1_w1 := fun o => hf_w1 (w.heap.size + 1) o (by (try simp only [size_drew', size_drewN', World.size_alloc, World.size_setCell]); omega))
    (refine bodyPost_ret (v := .tuple #[.agg #[.int .i64 0, .int .i64 0, .bool false, .bool false], .bool false]) (by (simp [results, Tryd.results17, go_sem, hr0_w1, hl0_w1, hm0_w1, hn0_w1, hq0_w1, hr1_w1, hl1_w1, hm1_w1, hn1_w1, hq1_w1]; done)) rfl (RetB.of rfl (by (repeat (first | exact Below.refl _ _ | assumption | refine Below.setCell ?_ (by first | omega | (simp <;> omega)) _ | refine Below.alloc ?_ (by first | omega | (simp <;> omega)) _ | refine Below.drew ?_ | refine below_drewN' ?_ _)))))
  | true =>
    obtain ⟨g1, g2, g3, g4⟩ := (Ce.right_iff _).1 h
    simp only at g1 g2 g3 g4
    rw [h] at hr
    have hm1 := fun W => r15_mv_any c p a 64 W ⟨g1, g2⟩ (by omega) hp
    have hm2 := fun W => r15_mv_any d q b 1000 W ⟨g3, g4⟩ (by omega) hq
    unfold Ce.moved
    rw [if_pos h]
    simp only
    obtain ⟨X, hX⟩ : ∃ X, X = Ce.mv c p 64 a := ⟨_, rfl⟩
    obtain ⟨Y, hY⟩ : ∃ Y, Y = Ce.mv d q 1000 b := ⟨_, rfl⟩
    rw [← hX] at hm1 ⊢
    rw [← hY] at hm2 ⊢
    have hs := fun w => r15_right_any X Y a b w
    cases h2 : Ce.right ⟨X, Y, a, b⟩ with
    | true =>
      rw [if_pos rfl]
      rw [h2] at hs
      have HR := Lib.hid hr; have HS := Lib.hid hs; have HM1 := Lib.hid hm1; have HM2 := Lib.hid hm2; clear hr hs h h2 hm1 hm2 hX hY
      have tok1 : True := trivial
      go_enter Tryd.func17, Tryd.ntmps17
      go_wp2_with (first
        | (clear tok1; (go_at_call 13; (with_reducible refine (HR.out _).mono ?_); rintro e w1 ⟨rfl, hb_w1⟩; have hB_w1 : Below (w).heap.size (w) w1 := Below.trans (by (repeat (first | exact Below.refl _ _ | assumption | refine Below.setCell ?_ (by first | omega | (simp <;> omega)) _ | refine Below.alloc ?_ (by first | omega | (simp <;> omega)) _ | refine Below.drew ?_ | refine below_drewN' ?_ _))) (hb_w1.mono (by first | omega | (simp <;> omega))); obtain ⟨hc_w1, hf_w1⟩ := bcell hb_w1; have hz_w1 := hb_w1.size; (try simp only [size_drew', size_drewN', World.size_alloc, World.size_setCell] at hz_w1); have hl0_w1 : w.heap.size < w1.heap.size := (by omega); have hm0_w1 : w.heap.size ≤ w1.heap.size := (by omega); have hn0_w1 : ¬ w.heap.size = w1.heap.size := (by omega); have hq0_w1 : ¬ w1.heap.size = w.heap.size := (by omega); have hr0_w1 := fun o => hc_w1 (w.heap.size) o (by (try simp only [size_drew', size_drewN', World.size_alloc, World.size_setCell]); omega); have hg0_w1 := fun o => hf_w1 (w.heap.size) o (by (try simp only [size_drew', size_drewN', World.size_alloc, World.size_setCell]); omega); have hl1_w1 : w.heap.size + 1 < w1.heap.size := (by omega); have hm1_w1 : w.heap.size + 1 ≤ w1.heap.size := (by omega); have hn1_w1 : ¬ w.heap.size + 1 = w1.heap.size := (by omega); have hq1_w1 : ¬ w1.heap.size = w.heap.size + 1 := (by omega); have hr1_w1 := fun o => hc_w1 (w.heap.size + 1) o (by (try simp only [size_drew', size_drewN', World.size_alloc, World.size_setCell]); omega); have hg1_w1 := fun o => hf_w1 (w.heap.size + 1) o (by (try simp only [size_drew', size_drewN', World.size_alloc, World.size_setCell]); omega)))
        | (go_at_call 42; (with_reducible refine (HM1.out _).mono ?_); rintro e w' ⟨rfl, rfl⟩)
        | (go_at_call 42; (with_reducible refine (HM2.out _).mono ?_); rintro e w' ⟨rfl, rfl⟩)
        | (go_at_call 13; (with_reducible refine (HS.out _).mono ?_); rintro e w2 ⟨rfl, hb_w2⟩; have hB_w2 : Below (w).heap.size (w) w2 := Below.trans (by (repeat (first | exact Below.refl _ _ | assumption | refine Below.setCell ?_ (by first | omega | (simp <;> omega)) _ | refine Below.alloc ?_ (by first | omega | (simp <;> omega)) _ | refine Below.drew ?_ | refine below_drewN' ?_ _))) (hb_w2.mono (by first | omega | (simp <;> omega))); obtain ⟨hc_w2, hf_w2⟩ := bcell hb_w2; have hz_w2 := hb_w2.size; (try simp only [size_drew', size_drewN', World.size_alloc, World.size_setCell] at hz_w2); have hl0_w2 : w.heap.size < w2.heap.size := (by omega); have hm0_w2 : w.heap.size ≤ w2.heap.size := (by omega); have hn0_w2 : ¬ w.heap.size = w2.heap.size := (by omega); have hq0_w2 : ¬ w2.heap.size = w.heap.size := (by omega); have hr0_w2 := fun o => hc_w2 (w.heap.size) o (by (try simp only [size_drew', size_drewN', World.size_alloc, World.size_setCell]); omega); have hg0_w2 := fun o => hf_w2 (w.heap.size) o (by (try simp only [size_drew', size_drewN', World.size_alloc, World.size_setCell]); omega); have hl1_w2 : w.heap.size + 1 < w2.heap.size := (by omega); have hm1_w2 : w.heap.size + 1 ≤ w2.heap.size := (by omega); have hn1_w2 : ¬ w.heap.size + 1 = w2.heap.size := (by omega); have hq1_w2 : ¬ w2.heap.size = w.heap.size + 1 := (by omega); have hr1_w2 := fun o => hc_w2 (w.heap.size + 1) o (by (try simp only [size_drew', size_drewN', World.size_alloc, World.size_setCell]); omega); have hg1_w2 := fun o => hf_w2 (w.heap.size + 1) o (by (try simp only [size_drew', size_drewN', World.size_alloc, World.size_setCell]); omega)))
      (refine bodyPost_ret (v := .tuple #[.agg #[.int .i64 X, .int .i64 Y, .bool a, .bool b], .bool true]) (by (simp [results, Tryd.results17, go_sem, hr0_w1, hl0_w1, hm0_w1, hn0_w1, hq0_w1, hr1_w1, hl1_w1, hm1_w1, hn1_w1, hq1_w1, hr0_w2, hl0_w2, hm0_w2, hn0_w2, hq0_w2, hr1_w2, hl1_w2, hm1_w2, hn1_w2, hq1_w2]; done)) rfl (RetB.of rfl (by (repeat (first | exact Below.refl _ _ | assumption | refine Below.setCell ?_ (by first | omega | (simp <;> omega)) _ | refine Below.alloc ?_ (by first | omega | (simp <;> omega)) _ | refine Below.drew ?_ | refine below_drewN' ?_ _)))))
    | false =>
      rw [if_neg (by simp)]
      rw [h2] at hs
      have HR := Lib.hid hr; have HS := Lib.hid hs; have HM1 := Lib.hid hm1; have HM2 := Lib.hid hm2; clear hr hs h h2 hm1 hm2 hX hY
      have tok1 : True := trivial
      go_enter Tryd.func17, Tryd.ntmps17
      go_wp2_with (first
        | (clear tok1; (go_at_call 13; (with_reducible refine (HR.out _).mono ?_); rintro e w1 ⟨rfl, hb_w1⟩; have hB_w1 : Below (w).heap.size (w) w1 := Below.trans (by (repeat (first | exact Below.refl _ _ | assumption | refine Below.setCell ?_ (by first | omega | (simp <;> omega)) _ | refine Below.alloc ?_ (by first | omega | (simp <;> omega)) _ | refine Below.drew ?_ | refine below_drewN' ?_ _))) (hb_w1.mono (by first | omega | (simp <;> omega))); obtain ⟨hc_w1, hf_w1⟩ := bcell hb_w1; have hz_w1 := hb_w1.size; (try simp only [size_drew', size_drewN', World.size_alloc, World.size_setCell] at hz_w1); have hl0_w1 : w.heap.size < w1.heap.size := (by omega); have hm0_w1 : w.heap.size ≤ w1.heap.size := (by omega); have hn0_w1 : ¬ w.heap.size = w1.heap.size := (by omega); have hq0_w1 : ¬ w1.heap.size = w.heap.size := (by omega); have hr0_w1 := fun o => hc_w1 (w.heap.size) o (by (try simp only [size_drew', size_drewN', World.size_alloc, World.size_setCell]); omega); have hg0_w1 := fun o => hf_w1 (w.heap.size) o (by (try simp only [size_drew', size_drewN', World.size_alloc, World.size_setCell]); omega); have hl1_w1 : w.heap.size + 1 < w1.heap.size := (by omega); have hm1_w1 : w.heap.size + 1 ≤ w1.heap.size := (by omega); have hn1_w1 : ¬ w.heap.size + 1 = w1.heap.size := (by omega); have hq1_w1 : ¬ w1.heap.size = w.heap.size + 1 := (by omega); have hr1_w1 := fun o => hc_w1 (w.heap.size + 1) o (by (try simp only [size_drew', size_drewN', World.size_alloc, World.size_setCell]); omega); have hg1_w1 := fun o => hf_w1 (w.heap.size + 1) o (by (try simp only [size_drew', size_drewN', World.size_alloc, World.size_setCell]); omega)))
        | (go_at_call 42; (with_reducible refine (HM1.out _).mono ?_); rintro e w' ⟨rfl, rfl⟩)
        | (go_at_call 42; (with_reducible refine (HM2.out _).mono ?_); rintro e w' ⟨rfl, rfl⟩)
        | (go_at_call 13; (with_reducible refine (HS.out _).mono ?_); rintro e w2 ⟨rfl, hb_w2⟩; have hB_w2 : Below (w).heap.size (w) w2 := Below.trans (by (repeat (first | exact Below.refl _ _ | assumption | refine Below.setCell ?_ (by first | omega | (simp <;> omega)) _ | refine Below.alloc ?_ (by first | omega | (simp <;> omega)) _ | refine Below.drew ?_ | refine below_drewN' ?_ _))) (hb_w2.mono (by first | omega | (simp <;> omega))); obtain ⟨hc_w2, hf_w2⟩ := bcell hb_w2; have hz_w2 := hb_w2.size; (try simp only [size_drew', size_drewN', World.size_alloc, World.size_setCell] at hz_w2); have hl0_w2 : w.heap.size < w2.heap.size := (by omega); have hm0_w2 : w.heap.size ≤ w2.heap.size := (by omega); have hn0_w2 : ¬ w.heap.size = w2.heap.size := (by omega); have hq0_w2 : ¬ w2.heap.size = w.heap.size := (by omega); have hr0_w2 := fun o => hc_w2 (w.heap.size) o (by (try simp only [size_drew', size_drewN', World.size_alloc, World.size_setCell]); omega); have hg0_w2 := fun o => hf_w2 (w.heap.size) o (by (try simp only [size_drew', size_drewN', World.size_alloc, World.size_setCell]); omega); have hl1_w2 : w.heap.size + 1 < w2.heap.size := (by omega); have hm1_w2 : w.heap.size + 1 ≤ w2.heap.size := (by omega); have hn1_w2 : ¬ w.heap.size + 1 = w2.heap.size := (by omega); have hq1_w2 : ¬ w2.heap.size = w.heap.size + 1 := (by omega); have hr1_w2 := fun o => hc_w2 (w.heap.size + 1) o (by (try simp only [size_drew', size_drewN', World.size_alloc, World.size_setCell]); omega); have hg1_w2 := fun o => hf_w2 (w.heap.size + 1) o (by (try simp only [size_drew', size_drewN', World.size_alloc, World.size_setCell]); omega)))
      (refine bodyPost_ret (v := .tuple #[.agg #[.int .i64 0, .int .i64 0, .bool false, .bool false], .bool false]) (by (simp [results, Tryd.results17, go_sem, hr0_w1, hl0_w1, hm0_w1, hn0_w1, hq0_w1, hr1_w1, hl1_w1, hm1_w1, hn1_w1, hq1_w1, hr0_w2, hl0_w2, hm0_w2, hn0_w2, hq0_w2, hr1_w2, hl1_w2, hm1_w2, hn1_w2, hq1_w2]; done)) rfl (RetB.of rfl (by (repeat (first | exact Below.refl _ _ | assumption | refine Below.setCell ?_ (by first | omega | (simp <;> omega)) _ | refine Below.alloc ?_ (by first | omega | (simp <;> omega)) _ | refine Below.drew ?_ | refine below_drewN' ?_ _)))))
end Go.Proofs.YtbbeeglfgnabmaaDoor
