/- Cells' numbers, by the program and by the reference; what is moved. -/
import Derived.Test.YtbbeeglfgnabmaaDoorT50
namespace Go.Proofs.YtbbeeglfgnabmaaDoor
set_option linter.all false
open Go.RowKit

theorem rv_mk (c d : Int) (a b : Bool) : rv ⟨c, d, a, b⟩ = .agg #[.int .i64 c, .int .i64 d, .bool a, .bool b] := rfl

theorem ce_index_any (c d : Int) (a b : Bool) (w : World) : Calls Tryd.prog 19 #[.agg #[.int .i64 c, .int .i64 d, .bool a, .bool b]] w (RetB (.int .i64 (Ce.index ⟨c, d, a, b⟩)) w) := by
  obtain ⟨v, hv⟩ : ∃ v, v = Ce.index ⟨c, d, a, b⟩ := ⟨_, rfl⟩
  rw [← hv]
  have hr := fun w => ce_right_any c d a b w
  cases h : Ce.right ⟨c, d, a, b⟩ with
  | true =>
    obtain ⟨h1, h2, h3, h4⟩ := (Ce.right_iff _).1 h
    simp only at h1 h2 h3 h4
    have he : v = d * 64 + c := by rw [hv, Ce.index, if_pos h]; simp only; omega
    rw [h] at hr
    have HR := Lib.hid hr; have HE := Lib.hid he; clear hv he hr h
    go_enter Tryd.func19, Tryd.ntmps19
    go_wp2_with (go_at_call 12; (with_reducible refine (HR.out _).mono ?_); rintro e w1 ⟨rfl, hb_w1⟩; have hB_w1 : Below (w).heap.size (w) w1 := Below.trans (by (repeat (first | exact Below.refl _ _ | assumption | refine Below.setCell ?_ (by first | omega | (simp <;> omega)) _ | refine Below.alloc ?_ (by first | omega | (simp <;> omega)) _ | refine Below.drew ?_ | refine below_drewN' ?_ _))) (hb_w1.mono (by first | omega | (simp <;> omega))); obtain ⟨hc_w1, hf_w1⟩ := bcell hb_w1; have hz_w1 := hb_w1.size; (try simp only [size_drew', size_drewN', World.size_alloc, World.size_setCell] at hz_w1); have hl0_w1 : w.heap.size < w1.heap.size := (by omega); have hm0_w1 : w.heap.size ≤ w1.heap.size := (by omega); have hn0_w1 : ¬ w.heap.size = w1.heap.size := (by omega); have hq0_w1 : ¬ w1.heap.size = w.heap.size := (by omega); have hr0_w1 := fun o => hc_w1 (w.heap.size) o (by (try simp only [size_drew', size_drewN', World.size_alloc, World.size_setCell]); omega); have hg0_w1 := fun o => hf_w1 (w.heap.size) o (by (try simp only [size_drew', size_drewN', World.size_alloc, World.size_setCell]); omega))
    go_ret
    exact RetB.of (congrArg (Value.int .i64) HE.out.symm) (by (repeat (first | exact Below.refl _ _ | assumption | refine Below.setCell ?_ (by first | omega | (simp <;> omega)) _ | refine Below.alloc ?_ (by first | omega | (simp <;> omega)) _ | refine Below.drew ?_ | refine below_drewN' ?_ _)))
  | false =>
    have he : v = -1 := by rw [hv, Ce.index, if_neg (by rw [h]; simp)]
    rw [h] at hr
    have HR := Lib.hid hr; have HE := Lib.hid he; clear hv he hr h
    go_enter Tryd.func19, Tryd.ntmps19
    go_wp2_with (go_at_call 12; (with_reducible refine (HR.out _).mono ?_); rintro e w1 ⟨rfl, hb_w1⟩; have hB_w1 : Below (w).heap.size (w) w1 := Below.trans (by (repeat (first | exact Below.refl _ _ | assumption | refine Below.setCell ?_ (by first | omega | (simp <;> omega)) _ | refine Below.alloc ?_ (by first | omega | (simp <;> omega)) _ | refine Below.drew ?_ | refine below_drewN' ?_ _))) (hb_w1.mono (by first | omega | (simp <;> omega))); obtain ⟨hc_w1, hf_w1⟩ := bcell hb_w1; have hz_w1 := hb_w1.size; (try simp only [size_drew', size_drewN', World.size_alloc, World.size_setCell] at hz_w1); have hl0_w1 : w.heap.size < w1.heap.size := (by omega); have hm0_w1 : w.heap.size ≤ w1.heap.size := (by omega); have hn0_w1 : ¬ w.heap.size = w1.heap.size := (by omega); have hq0_w1 : ¬ w1.heap.size = w.heap.size := (by omega); have hr0_w1 := fun o => hc_w1 (w.heap.size) o (by (try simp only [size_drew', size_drewN', World.size_alloc, World.size_setCell]); omega); have hg0_w1 := fun o => hf_w1 (w.heap.size) o (by (try simp only [size_drew', size_drewN', World.size_alloc, World.size_setCell]); omega))
    go_ret
    exact RetB.of (congrArg (Value.int .i64) HE.out.symm) (by (repeat (first | exact Below.refl _ _ | assumption | refine Below.setCell ?_ (by first | omega | (simp <;> omega)) _ | refine Below.alloc ?_ (by first | omega | (simp <;> omega)) _ | refine Below.drew ?_ | refine below_drewN' ?_ _)))

theorem r15_index_any (c d : Int) (a b : Bool) (w : World) : Calls Tryd.prog 22 #[.agg #[.int .i64 c, .int .i64 d, .bool a, .bool b]] w (RetB (.int .i64 (Ce.index ⟨c, d, a, b⟩)) w) := by
  obtain ⟨v, hv⟩ : ∃ v, v = Ce.index ⟨c, d, a, b⟩ := ⟨_, rfl⟩
  rw [← hv]
  have hr := fun w => r15_right_any c d a b w
  cases h : Ce.right ⟨c, d, a, b⟩ with
  | true =>
    obtain ⟨h1, h2, h3, h4⟩ := (Ce.right_iff _).1 h
    simp only at h1 h2 h3 h4
    have he : v = 64 * d + c := by rw [hv, Ce.index, if_pos h]
    rw [h] at hr
    have HR := Lib.hid hr; have HE := Lib.hid he; clear hv he hr h
    go_enter Tryd.func22, Tryd.ntmps22
    go_wp2_with (go_at_call 13; (with_reducible refine (HR.out _).mono ?_); rintro e w1 ⟨rfl, hb_w1⟩; have hB_w1 : Below (w).heap.size (w) w1 := Below.trans (by (repeat (first | exact Below.refl _ _ | assumption | refine Below.setCell ?_ (by first | omega | (simp <;> omega)) _ | refine Below.alloc ?_ (by first | omega | (simp <;> omega)) _ | refine Below.drew ?_ | refine below_drewN' ?_ _))) (hb_w1.mono (by first | omega | (simp <;> omega))); obtain ⟨hc_w1, hf_w1⟩ := bcell hb_w1; have hz_w1 := hb_w1.size; (try simp only [size_drew', size_drewN', World.size_alloc, World.size_setCell] at hz_w1); have hl0_w1 : w.heap.size < w1.heap.size := (by omega); have hm0_w1 : w.heap.size ≤ w1.heap.size := (by omega); have hn0_w1 : ¬ w.heap.size = w1.heap.size := (by omega); have hq0_w1 : ¬ w1.heap.size = w.heap.size := (by omega); have hr0_w1 := fun o => hc_w1 (w.heap.size) o (by (try simp only [size_drew', size_drewN', World.size_alloc, World.size_setCell]); omega); have hg0_w1 := fun o => hf_w1 (w.heap.size) o (by (try simp only [size_drew', size_drewN', World.size_alloc, World.size_setCell]); omega))
    go_ret
    exact RetB.of (congrArg (Value.int .i64) HE.out.symm) (by (repeat (first | exact Below.refl _ _ | assumption | refine Below.setCell ?_ (by first | omega | (simp <;> omega)) _ | refine Below.alloc ?_ (by first | omega | (simp <;> omega)) _ | refine Below.drew ?_ | refine below_drewN' ?_ _)))
  | false =>
    have he : v = -1 := by rw [hv, Ce.index, if_neg (by rw [h]; simp)]
    rw [h] at hr
    have HR := Lib.hid hr; have HE := Lib.hid he; clear hv he hr h
    go_enter Tryd.func22, Tryd.ntmps22
    go_wp2_with (go_at_call 13; (with_reducible refine (HR.out _).mono ?_); rintro e w1 ⟨rfl, hb_w1⟩; have hB_w1 : Below (w).heap.size (w) w1 := Below.trans (by (repeat (first | exact Below.refl _ _ | assumption | refine Below.setCell ?_ (by first | omega | (simp <;> omega)) _ | refine Below.alloc ?_ (by first | omega | (simp <;> omega)) _ | refine Below.drew ?_ | refine below_drewN' ?_ _))) (hb_w1.mono (by first | omega | (simp <;> omega))); obtain ⟨hc_w1, hf_w1⟩ := bcell hb_w1; have hz_w1 := hb_w1.size; (try simp only [size_drew', size_drewN', World.size_alloc, World.size_setCell] at hz_w1); have hl0_w1 : w.heap.size < w1.heap.size := (by omega); have hm0_w1 : w.heap.size ≤ w1.heap.size := (by omega); have hn0_w1 : ¬ w.heap.size = w1.heap.size := (by omega); have hq0_w1 : ¬ w1.heap.size = w.heap.size := (by omega); have hr0_w1 := fun o => hc_w1 (w.heap.size) o (by (try simp only [size_drew', size_drewN', World.size_alloc, World.size_setCell]); omega); have hg0_w1 := fun o => hf_w1 (w.heap.size) o (by (try simp only [size_drew', size_drewN', World.size_alloc, World.size_setCell]); omega))
    go_ret
    exact RetB.of (congrArg (Value.int .i64) HE.out.symm) (by (repeat (first | exact Below.refl _ _ | assumption | refine Below.setCell ?_ (by first | omega | (simp <;> omega)) _ | refine Below.alloc ?_ (by first | omega | (simp <;> omega)) _ | refine Below.drew ?_ | refine below_drewN' ?_ _)))

theorem ce_at_any (i : Int) (w : World) : Calls Tryd.prog 18 #[.int .i64 i] w (RetB (rv (Ce.at' i)) w) := by
  by_cases h1 : i < 0
  · have he : rv (Ce.at' i) = .agg #[.int .i64 (-1), .int .i64 (-1), .bool false, .bool false] := by rw [Ce.at', if_pos (.inl h1)]; rfl
    rw [he]; clear he
    go_enter Tryd.func18, Tryd.ntmps18
    go_wp2
    (refine bodyPost_ret (v := .agg #[.int .i64 (-1), .int .i64 (-1), .bool false, .bool false]) (by (simp [results, Tryd.results18, go_sem]; done)) rfl (RetB.of rfl (by (repeat (first | exact Below.refl _ _ | assumption | refine Below.setCell ?_ (by first | omega | (simp <;> omega)) _ | refine Below.alloc ?_ (by first | omega | (simp <;> omega)) _ | refine Below.drew ?_ | refine below_drewN' ?_ _)))))
  · by_cases h2 : 64000 ≤ i
    · have he : rv (Ce.at' i) = .agg #[.int .i64 (-1), .int .i64 (-1), .bool false, .bool false] := by rw [Ce.at', if_pos (.inr h2)]; rfl
      rw [he]; clear he
      go_enter Tryd.func18, Tryd.ntmps18
      go_wp2
      (refine bodyPost_ret (v := .agg #[.int .i64 (-1), .int .i64 (-1), .bool false, .bool false]) (by (simp [results, Tryd.results18, go_sem]; done)) rfl (RetB.of rfl (by (repeat (first | exact Below.refl _ _ | assumption | refine Below.setCell ?_ (by first | omega | (simp <;> omega)) _ | refine Below.alloc ?_ (by first | omega | (simp <;> omega)) _ | refine Below.drew ?_ | refine below_drewN' ?_ _)))))
    · have he : rv (Ce.at' i) = .agg #[.int .i64 (i % 64), .int .i64 (i / 64), .bool false, .bool false] := by rw [Ce.at', if_neg (by omega)]; rfl
      rw [he]; clear he
      have h3 : 0 ≤ i := by omega
      have h4 : i < 64000 := by omega
      go_enter Tryd.func18, Tryd.ntmps18
      go_wp2
      (refine bodyPost_ret (v := .agg #[.int .i64 (i % 64), .int .i64 (i / 64), .bool false, .bool false]) (by (simp [results, Tryd.results18, go_sem]; done)) rfl (RetB.of rfl (by (repeat (first | exact Below.refl _ _ | assumption | refine Below.setCell ?_ (by first | omega | (simp <;> omega)) _ | refine Below.alloc ?_ (by first | omega | (simp <;> omega)) _ | refine Below.drew ?_ | refine below_drewN' ?_ _)))))

theorem r15_at_any (i : Int) (w : World) : Calls Tryd.prog 23 #[.int .i64 i] w (RetB (rv (Ce.at' i)) w) := by
  by_cases h1 : i < 0
  · have he : rv (Ce.at' i) = .agg #[.int .i64 (-1), .int .i64 (-1), .bool false, .bool false] := by rw [Ce.at', if_pos (.inl h1)]; rfl
    rw [he]; clear he
    go_enter Tryd.func23, Tryd.ntmps23
    go_wp2
    (refine bodyPost_ret (v := .agg #[.int .i64 (-1), .int .i64 (-1), .bool false, .bool false]) (by (simp [results, Tryd.results23, go_sem]; done)) rfl (RetB.of rfl (by (repeat (first | exact Below.refl _ _ | assumption | refine Below.setCell ?_ (by first | omega | (simp <;> omega)) _ | refine Below.alloc ?_ (by first | omega | (simp <;> omega)) _ | refine Below.drew ?_ | refine below_drewN' ?_ _)))))
  · by_cases h2 : 64000 ≤ i
    · have he : rv (Ce.at' i) = .agg #[.int .i64 (-1), .int .i64 (-1), .bool false, .bool false] := by rw [Ce.at', if_pos (.inr h2)]; rfl
      rw [he]; clear he
      go_enter Tryd.func23, Tryd.ntmps23
      go_wp2
      (refine bodyPost_ret (v := .agg #[.int .i64 (-1), .int .i64 (-1), .bool false, .bool false]) (by (simp [results, Tryd.results23, go_sem]; done)) rfl (RetB.of rfl (by (repeat (first | exact Below.refl _ _ | assumption | refine Below.setCell ?_ (by first | omega | (simp <;> omega)) _ | refine Below.alloc ?_ (by first | omega | (simp <;> omega)) _ | refine Below.drew ?_ | refine below_drewN' ?_ _)))))
    · have he : rv (Ce.at' i) = .agg #[.int .i64 (i % 64), .int .i64 (i / 64), .bool false, .bool false] := by rw [Ce.at', if_neg (by omega)]; rfl
      rw [he]; clear he
      have h3 : 0 ≤ i := by omega
      have h4 : i < 64000 := by omega
      go_enter Tryd.func23, Tryd.ntmps23
      go_wp2
      (refine bodyPost_ret (v := .agg #[.int .i64 (i % 64), .int .i64 (i / 64), .bool false, .bool false]) (by (simp [results, Tryd.results23, go_sem]; done)) rfl (RetB.of rfl (by (repeat (first | exact Below.refl _ _ | assumption | refine Below.setCell ?_ (by first | omega | (simp <;> omega)) _ | refine Below.alloc ?_ (by first | omega | (simp <;> omega)) _ | refine Below.drew ?_ | refine below_drewN' ?_ _)))))
end Go.Proofs.YtbbeeglfgnabmaaDoor
