/- The cells of an area, by the reference. -/
import Derived.Test.YtbbeeglfgnabmaaDoorT73
import Derived.Deep.DeepCutAuto
namespace Go.Proofs.YtbbeeglfgnabmaaDoor
set_option linter.all false
open Go.RowKit

theorem RowR.mono {w : World} {base base' : Nat} {v : Value} {l : List Ce.Rf} (h : RowR w base v l) (hb : base' ≤ base) : RowR w base' v l := by
  refine ⟨h.1, h.2.1, ?_⟩
  rcases h.2.2 with h2 | ⟨g, cap, cur, rfl, hg, r⟩
  · exact .inl h2
  · exact .inr ⟨g, cap, cur, rfl, Nat.le_trans hb hg, r⟩
theorem rowOf_nil (m0 : Int) (r : Int) : rowOf m0 0 r = [] := by simp [rowOf, upto]

set_option maxRecDepth 100000 in
set_option maxHeartbeats 4000000 in
theorem r15_cells_yes (c d : Int) (x y : Bool) (c' d' : Int) (x' y' : Bool) (w : World) (h : Ce.right ⟨c, d, x, y⟩ = true) (h2 : Ce.right ⟨c', d', x', y'⟩ = true) :
    Calls Tryd.prog 30 #[.agg #[.int .i64 c, .int .i64 d, .bool x, .bool y], .agg #[.int .i64 c', .int .i64 d', .bool x', .bool y']] w (Gives (Ce.cells ⟨c, d, x, y⟩ ⟨c', d', x', y'⟩) w) := by
  obtain ⟨i0, hI⟩ := info_parts infoRef
  obtain ⟨hi, hi0, hi1, hi2⟩ := hI
  have hr := fun W => r15_right_any c d x y W
  have hs := fun W => r15_right_any c' d' x' y' W
  have hb : Ce.both ⟨c, d, x, y⟩ ⟨c', d', x', y'⟩ = true := by unfold Ce.both; rw [h, h2]; rfl
  have hbd := Ce.both_bd hb
  have hcells := cells_rows ⟨c, d, x, y⟩ ⟨c', d', x', y'⟩ hb
  rw [h] at hr; rw [h2] at hs
  obtain ⟨L, hL⟩ : ∃ L, L = Ce.cells ⟨c, d, x, y⟩ ⟨c', d', x', y'⟩ := ⟨_, rfl⟩
  rw [← hL] at hcells ⊢
  simp only [Ce.lo, Ce.hi] at hcells hbd
  obtain ⟨m0, hm0⟩ : ∃ m, m = min c c' := ⟨_, rfl⟩
  obtain ⟨m1, hm1⟩ : ∃ m, m = min d d' := ⟨_, rfl⟩
  obtain ⟨m2, hm2⟩ : ∃ m, m = max c c' := ⟨_, rfl⟩
  obtain ⟨m3, hm3⟩ : ∃ m, m = max d d' := ⟨_, rfl⟩
  rw [← hm0, ← hm1, ← hm2, ← hm3] at hbd hcells
  obtain ⟨z0, z1, z2, z3, z4, z5⟩ := hbd
  obtain ⟨K, hK⟩ : ∃ K : Nat, K = (m2 - m0 + 1).toNat := ⟨_, rfl⟩
  obtain ⟨M, hM⟩ : ∃ M : Nat, M = (m3 - m1 + 1).toNat := ⟨_, rfl⟩
  rw [← hK, ← hM] at hcells
  have hKi : (K : Int) = m2 - m0 + 1 := by omega
  have hMi : (M : Int) = m3 - m1 + 1 := by omega
  have e0 : (if c' < c then c' else c) = m0 := by rw [hm0]; split <;> omega
  have e1 : (if d' < d then d' else d) = m1 := by rw [hm1]; split <;> omega
  have e2 : (if c < c' then c' else c) = m2 := by rw [hm2]; split <;> omega
  have e3 : (if d < d' then d' else d) = m3 := by rw [hm3]; split <;> omega
  have HR := Lib.hid hr; have HS := Lib.hid hs; have HL := Lib.hid hcells; have HK := Lib.hid hKi; have HM := Lib.hid hMi
  clear hr hs h h2 hb hm0 hm1 hm2 hm3 hcells hL hKi hMi hK hM
  have tok1 : True := trivial
  go_enter Tryd.func30, Tryd.ntmps30
  go_upto_region 6 with (first
    | (clear tok1; (go_at_call 13; (with_reducible refine (HR.out _).mono ?_); rintro e w1 ⟨rfl, hb_w1⟩; have hB_w1 : Below (w).heap.size (w) w1 := Below.trans (by (repeat (first | exact Below.refl _ _ | assumption | refine Below.setCell ?_ (by first | omega | (simp <;> omega)) _ | refine Below.alloc ?_ (by first | omega | (simp <;> omega)) _ | refine Below.drew ?_ | refine below_drewN' ?_ _))) (hb_w1.mono (by first | omega | (simp <;> omega))); obtain ⟨hc_w1, hf_w1⟩ := bcell hb_w1; have hz_w1 := hb_w1.size; (try simp only [size_drew', size_drewN', World.size_alloc, World.size_setCell] at hz_w1); have hl0_w1 : w.heap.size < w1.heap.size := (by omega); have hm0_w1 : w.heap.size ≤ w1.heap.size := (by omega); have hn0_w1 : ¬ w.heap.size = w1.heap.size := (by omega); have hq0_w1 : ¬ w1.heap.size = w.heap.size := (by omega); have hr0_w1 := fun o => hc_w1 (w.heap.size) o (by (try simp only [size_drew', size_drewN', World.size_alloc, World.size_setCell]); omega); have hg0_w1 := fun o => hf_w1 (w.heap.size) o (by (try simp only [size_drew', size_drewN', World.size_alloc, World.size_setCell]); omega); have hl1_w1 : w.heap.size + 1 < w1.heap.size := (by omega); have hm1_w1 : w.heap.size + 1 ≤ w1.heap.size := (by omega); have hn1_w1 : ¬ w.heap.size + 1 = w1.heap.size := (by omega); have hq1_w1 : ¬ w1.heap.size = w.heap.size + 1 := (by omega); have hr1_w1 := fun o => hc_w1 (w.heap.size + 1) o (by (try simp only [size_drew', size_drewN', World.size_alloc, World.size_setCell]); omega); have hg1_w1 := fun o => hf_w1 (w.heap.size + 1) o (by (try simp only [size_drew', size_drewN', World.size_alloc, World.size_setCell]); omega)))
    | (go_at_call 13; (with_reducible refine (HS.out _).mono ?_); rintro e w2 ⟨rfl, hb_w2⟩; have hB_w2 : Below (w).heap.size (w) w2 := Below.trans (by (repeat (first | exact Below.refl _ _ | assumption | refine Below.setCell ?_ (by first | omega | (simp <;> omega)) _ | refine Below.alloc ?_ (by first | omega | (simp <;> omega)) _ | refine Below.drew ?_ | refine below_drewN' ?_ _))) (hb_w2.mono (by first | omega | (simp <;> omega))); obtain ⟨hc_w2, hf_w2⟩ := bcell hb_w2; have hz_w2 := hb_w2.size; (try simp only [size_drew', size_drewN', World.size_alloc, World.size_setCell] at hz_w2); have hl0_w2 : w.heap.size < w2.heap.size := (by omega); have hm0_w2 : w.heap.size ≤ w2.heap.size := (by omega); have hn0_w2 : ¬ w.heap.size = w2.heap.size := (by omega); have hq0_w2 : ¬ w2.heap.size = w.heap.size := (by omega); have hr0_w2 := fun o => hc_w2 (w.heap.size) o (by (try simp only [size_drew', size_drewN', World.size_alloc, World.size_setCell]); omega); have hg0_w2 := fun o => hf_w2 (w.heap.size) o (by (try simp only [size_drew', size_drewN', World.size_alloc, World.size_setCell]); omega); have hl1_w2 : w.heap.size + 1 < w2.heap.size := (by omega); have hm1_w2 : w.heap.size + 1 ≤ w2.heap.size := (by omega); have hn1_w2 : ¬ w.heap.size + 1 = w2.heap.size := (by omega); have hq1_w2 : ¬ w2.heap.size = w.heap.size + 1 := (by omega); have hr1_w2 := fun o => hc_w2 (w.heap.size + 1) o (by (try simp only [size_drew', size_drewN', World.size_alloc, World.size_setCell]); omega); have hg1_w2 := fun o => hf_w2 (w.heap.size + 1) o (by (try simp only [size_drew', size_drewN', World.size_alloc, World.size_setCell]); omega)))
  have p0 : w2.cell? ⟨w.heap.size, 0, none⟩ = some (.int .i64 c) := (hr0_w2 0).trans ((hr0_w1 0).trans (by simp [go_sem]))
  have p1 : w2.cell? ⟨w.heap.size, 1, none⟩ = some (.int .i64 d) := (hr0_w2 1).trans ((hr0_w1 1).trans (by simp [go_sem]))
  have q0 : w2.cell? ⟨w.heap.size + 1, 0, none⟩ = some (.int .i64 c') := (hr1_w2 0).trans ((hr1_w1 0).trans (by simp [go_sem]))
  have q1 : w2.cell? ⟨w.heap.size + 1, 1, none⟩ = some (.int .i64 d') := (hr1_w2 1).trans ((hr1_w1 1).trans (by simp [go_sem]))
  have l0 : w.heap.size < w2.heap.size := hl0_w2
  have l1 : w.heap.size + 1 < w2.heap.size := hl1_w2
  have HB := Lib.hid hB_w2
  clear hb_w1 hB_w1 hc_w1 hf_w1 hb_w2 hB_w2 hc_w2 hf_w2 hr0_w1 hr0_w2 hr1_w1 hr1_w2 hg0_w1 hg0_w2 hg1_w1 hg1_w2
  go_wp2_with fail
  go_loopw [5, 8] (fun v rw wr => ∃ i : Nat, i ≤ M ∧ rw = .int .i64 (m1 + i) ∧ RowR wr w2.heap.size v (rowsOf m0 K (upto m1 i)) ∧ Below w2.heap.size w2 wr) (fun _ rw _ => (m3 + 1 - intOf rw).toNat)
  case atStart => exact ⟨0, Nat.zero_le _, by simp, by simpa [rowsOf, upto] using RowR.nil w2 w2.heap.size, Below.refl _ _⟩
  case round =>
    obtain ⟨i, hi9, rfl, hrow, hbw⟩ := hrel
    have P0 := (hbw.cell (p := ⟨w.heap.size, 0, none⟩) l0).trans p0
    have P1 := (hbw.cell (p := ⟨w.heap.size, 1, none⟩) l0).trans p1
    have Q0 := (hbw.cell (p := ⟨w.heap.size + 1, 0, none⟩) l1).trans q0
    have Q1 := (hbw.cell (p := ⟨w.heap.size + 1, 1, none⟩) l1).trans q1
    by_cases hlt : m1 + i ≤ m3
    · have hiM : i < M := by have := HM.out; omega
      go_wp2_with fail
      go_loopw [5, 9] (fun v cl wr => ∃ j : Nat, j ≤ K ∧ cl = .int .i64 (m0 + j) ∧ RowR wr w2.heap.size v (rowsOf m0 K (upto m1 i) ++ rowOf m0 j (m1 + i)) ∧ Below w2.heap.size w2 wr) (fun _ cl _ => (m2 + 1 - intOf cl).toNat)
      case atStart => exact ⟨0, Nat.zero_le _, by simp, by rw [rowOf_nil, List.append_nil]; exact hrow, hbw⟩
      case round =>
        obtain ⟨j, hj, rfl, hrow2, hbw2⟩ := hrel
        have U0 := (hbw2.cell (p := ⟨w.heap.size, 0, none⟩) l0).trans p0
        have U1 := (hbw2.cell (p := ⟨w.heap.size, 1, none⟩) l0).trans p1
        have V0 := (hbw2.cell (p := ⟨w.heap.size + 1, 0, none⟩) l1).trans q0
        have V1 := (hbw2.cell (p := ⟨w.heap.size + 1, 1, none⟩) l1).trans q1
        clear P0 P1 Q0 Q1
        have hsz := hbw2.size
        by_cases hlt2 : m0 + j ≤ m2
        · have hjK : j < K := by have := HK.out; omega
          have hll : (rowsOf m0 K (upto m1 i) ++ rowOf m0 j (m1 + i)).length ≤ 70000 := by
            rw [List.length_append, rowsOf_len, rowOf_len, upto_len]
            have h1 := HK.out
            have h2 := HM.out
            have h3 : i * K ≤ 1000 * 64 := Nat.mul_le_mul (by omega) (by omega)
            omega
          have hsn : rowsOf m0 K (upto m1 i) ++ rowOf m0 (j + 1) (m1 + i) = rowsOf m0 K (upto m1 i) ++ rowOf m0 j (m1 + i) ++ [⟨m0 + j, m1 + i, false, false⟩] := by rw [rowOf_snoc, List.append_assoc]
          have HSN := Lib.hid hsn; clear hsn
          obtain ⟨l, hl⟩ : ∃ l, l = rowsOf m0 K (upto m1 i) ++ rowOf m0 j (m1 + i) := ⟨_, rfl⟩
          rw [← hl] at hrow2 hll
          have HLL := Lib.hid hl; clear hl
          have hown := hrow2.2
          obtain ⟨⟨av, cv, rfl⟩, _⟩ := id hrow2
          go_wp2_with (at_builtin; refine wpList_append_own _ rfl _ _ 42 rfl w2.heap.size 23 i0 (.agg #[.int .i64 0, .int .i64 0, .bool false, .bool false]) 4 24 Tryd.underlying42 hi hi0 hi1 hi2 rfl (by decide) _ _ _ rfl (hown.alloc _) ⟨wr.heap.size, 0, none⟩ 1 1 [.int .i64 (m0 + j), .int .i64 (m1 + i), .bool false, .bool false] rfl rfl (cells_new wr _ _) (by simp [Value.oneCell']) (by unfold maxLen; omega) (by omega) (by simp; omega) ?_; intro v' w3 hown' hgrow hnil)
          have hrow3 : RowR w3 w2.heap.size v' (l ++ [⟨m0 + j, m1 + i, false, false⟩]) := RowR.of hown' (by simp) (by rw [refs_snoc])
          have hbw3 := (hbw2.alloc hsz (.cells #[.int .i64 (m0 + j), .int .i64 (m1 + i), .bool false, .bool false] 23)).grown hgrow (by simp; omega) (fun j e => (hown.lt j e).1)
          clear hown' hgrow hnil
          go_wp2
          go_roundw
          case rel => exact ⟨j + 1, by omega, by go_num, by rw [HSN.out, ← HLL.out]; exact hrow3, hbw3⟩
          case measure => simp [intOf]; omega
        · have hjK : j = K := by have := HK.out; omega
          rw [hjK, ← rowsOf_snoc, ← upto_succ] at hrow2
          clear hjK
          go_wp2
          go_roundw
          case rel => exact ⟨i + 1, by omega, by go_num, hrow2, hbw2⟩
          case measure => simp [intOf]; omega
    · have hiM : i = M := by have := HM.out; omega
      rw [hiM, ← HL.out] at hrow
      clear hiM
      go_wp2
      go_ret
      exact ⟨_, rfl, hrow.mono (by omega), HB.out.trans (hbw.mono (by omega))⟩

set_option maxHeartbeats 2000000 in
theorem r15_cells_no (c d : Int) (x y : Bool) (c' d' : Int) (x' y' : Bool) (t1 t2 : Bool) (w : World) (h : Ce.right ⟨c, d, x, y⟩ = t1) (h2 : Ce.right ⟨c', d', x', y'⟩ = t2) (hn : (t1 && t2) = false) :
    Calls Tryd.prog 30 #[.agg #[.int .i64 c, .int .i64 d, .bool x, .bool y], .agg #[.int .i64 c', .int .i64 d', .bool x', .bool y']] w (Gives [] w) := by
  have hr := fun W => r15_right_any c d x y W
  have hs := fun W => r15_right_any c' d' x' y' W
  rw [h] at hr; rw [h2] at hs
  clear h h2
  have tok1 : True := trivial
  cases t1 <;> cases t2 <;> (try (exact absurd hn (by decide)))
  all_goals (
    have HR := Lib.hid hr; have HS := Lib.hid hs; clear hr hs hn
    go_enter Tryd.func30, Tryd.ntmps30
    go_wp2_with (first
      | (clear tok1; (go_at_call 13; (with_reducible refine (HR.out _).mono ?_); rintro e w1 ⟨rfl, hb_w1⟩; have hB_w1 : Below (w).heap.size (w) w1 := Below.trans (by (repeat (first | exact Below.refl _ _ | assumption | refine Below.setCell ?_ (by first | omega | (simp <;> omega)) _ | refine Below.alloc ?_ (by first | omega | (simp <;> omega)) _ | refine Below.drew ?_ | refine below_drewN' ?_ _))) (hb_w1.mono (by first | omega | (simp <;> omega))); obtain ⟨hc_w1, hf_w1⟩ := bcell hb_w1; have hz_w1 := hb_w1.size; (try simp only [size_drew', size_drewN', World.size_alloc, World.size_setCell] at hz_w1); have hl0_w1 : w.heap.size < w1.heap.size := (by omega); have hm0_w1 : w.heap.size ≤ w1.heap.size := (by omega); have hn0_w1 : ¬ w.heap.size = w1.heap.size := (by omega); have hq0_w1 : ¬ w1.heap.size = w.heap.size := (by omega); have hr0_w1 := fun o => hc_w1 (w.heap.size) o (by (try simp only [size_drew', size_drewN', World.size_alloc, World.size_setCell]); omega); have hg0_w1 := fun o => hf_w1 (w.heap.size) o (by (try simp only [size_drew', size_drewN', World.size_alloc, World.size_setCell]); omega); have hl1_w1 : w.heap.size + 1 < w1.heap.size := (by omega); have hm1_w1 : w.heap.size + 1 ≤ w1.heap.size := (by omega); have hn1_w1 : ¬ w.heap.size + 1 = w1.heap.size := (by omega); have hq1_w1 : ¬ w1.heap.size = w.heap.size + 1 := (by omega); have hr1_w1 := fun o => hc_w1 (w.heap.size + 1) o (by (try simp only [size_drew', size_drewN', World.size_alloc, World.size_setCell]); omega); have hg1_w1 := fun o => hf_w1 (w.heap.size + 1) o (by (try simp only [size_drew', size_drewN', World.size_alloc, World.size_setCell]); omega)))
      | (go_at_call 13; (with_reducible refine (HS.out _).mono ?_); rintro e w2 ⟨rfl, hb_w2⟩; have hB_w2 : Below (w).heap.size (w) w2 := Below.trans (by (repeat (first | exact Below.refl _ _ | assumption | refine Below.setCell ?_ (by first | omega | (simp <;> omega)) _ | refine Below.alloc ?_ (by first | omega | (simp <;> omega)) _ | refine Below.drew ?_ | refine below_drewN' ?_ _))) (hb_w2.mono (by first | omega | (simp <;> omega))); obtain ⟨hc_w2, hf_w2⟩ := bcell hb_w2; have hz_w2 := hb_w2.size; (try simp only [size_drew', size_drewN', World.size_alloc, World.size_setCell] at hz_w2); have hl0_w2 : w.heap.size < w2.heap.size := (by omega); have hm0_w2 : w.heap.size ≤ w2.heap.size := (by omega); have hn0_w2 : ¬ w.heap.size = w2.heap.size := (by omega); have hq0_w2 : ¬ w2.heap.size = w.heap.size := (by omega); have hr0_w2 := fun o => hc_w2 (w.heap.size) o (by (try simp only [size_drew', size_drewN', World.size_alloc, World.size_setCell]); omega); have hg0_w2 := fun o => hf_w2 (w.heap.size) o (by (try simp only [size_drew', size_drewN', World.size_alloc, World.size_setCell]); omega); have hl1_w2 : w.heap.size + 1 < w2.heap.size := (by omega); have hm1_w2 : w.heap.size + 1 ≤ w2.heap.size := (by omega); have hn1_w2 : ¬ w.heap.size + 1 = w2.heap.size := (by omega); have hq1_w2 : ¬ w2.heap.size = w.heap.size + 1 := (by omega); have hr1_w2 := fun o => hc_w2 (w.heap.size + 1) o (by (try simp only [size_drew', size_drewN', World.size_alloc, World.size_setCell]); omega); have hg1_w2 := fun o => hf_w2 (w.heap.size + 1) o (by (try simp only [size_drew', size_drewN', World.size_alloc, World.size_setCell]); omega)))
    go_ret
    exact ⟨_, rfl, RowR.nil _ _, by (repeat (first | exact Below.refl _ _ | assumption | refine Below.setCell ?_ (by first | omega | (simp <;> omega)) _ | refine Below.alloc ?_ (by first | omega | (simp <;> omega)) _ | refine Below.drew ?_ | refine below_drewN' ?_ _))⟩)

theorem r15_cells_any (a b : Ce.Rf) (w : World) : Calls Tryd.prog 30 #[rv a, rv b] w (Gives (Ce.cells a b) w) := by
  obtain ⟨c, d, x, y⟩ := a
  obtain ⟨c', d', x', y'⟩ := b
  cases h : Ce.right ⟨c, d, x, y⟩ with
  | false =>
    have e : Ce.cells ⟨c, d, x, y⟩ ⟨c', d', x', y'⟩ = [] := by unfold Ce.cells Ce.both; rw [h]; rfl
    rw [e]; exact r15_cells_no c d x y c' d' x' y' _ _ w h rfl (by simp)
  | true =>
    cases h2 : Ce.right ⟨c', d', x', y'⟩ with
    | false =>
      have e : Ce.cells ⟨c, d, x, y⟩ ⟨c', d', x', y'⟩ = [] := by unfold Ce.cells Ce.both; rw [h, h2]; rfl
      rw [e]; exact r15_cells_no c d x y c' d' x' y' _ _ w h h2 (by simp)
    | true => exact r15_cells_yes c d x y c' d' x' y' w h h2
end Go.Proofs.YtbbeeglfgnabmaaDoor
