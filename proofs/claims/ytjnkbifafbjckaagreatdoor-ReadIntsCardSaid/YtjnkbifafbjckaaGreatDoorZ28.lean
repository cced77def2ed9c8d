import Derived.Test.YtjnkbifafbjckaaGreatDoorZ13
import Derived.Test.YtjnkbifafbjckaaGreatDoorZ17
import Derived.Test.YtjnkbifafbjckaaGreatDoorZ27
namespace Go.Proofs.YtjnkbifafbjckaaGreatDoor
set_option linter.all false
open Go.RowKit

theorem digAt_getD' (s : ByteArray) (k : Nat) : digAt s k = s.data.toList.getD k 48 := by
  by_cases h : k < s.size
  · rw [← digAt_in s k k h rfl, List.getD_eq_getElem?_getD, Dc.get?_bytes s k h]; rfl
  · rw [digAt_out s k (by omega), List.getD_eq_getElem?_getD, List.getElem?_eq_none (by rw [bs_length]; omega)]; rfl

/-- Both boxes lie as they were laid. -/
def TwoD (w wr : World) (na nb : Bool) (s t : ByteArray) (x y : Int) : Prop :=
  Below (w.heap.size + 2) ((w.alloc (.cells #[.bool na, .string s, .int .i64 x] 25)).alloc (.cells #[.bool nb, .string t, .int .i64 y] 25)) wr
theorem TwoD.cells {w wr : World} {na nb : Bool} {s t : ByteArray} {x y : Int} (h : TwoD w wr na nb s t x y) : (wr.cell? ⟨w.heap.size, 0, none⟩ = some (.bool na) ∧ wr.cell? ⟨w.heap.size, 1, none⟩ = some (.string s) ∧ wr.cell? ⟨w.heap.size, 2, none⟩ = some (.int .i64 x)) ∧
    (wr.cell? ⟨w.heap.size + 1, 0, none⟩ = some (.bool nb) ∧ wr.cell? ⟨w.heap.size + 1, 1, none⟩ = some (.string t) ∧ wr.cell? ⟨w.heap.size + 1, 2, none⟩ = some (.int .i64 y)) ∧ w.heap.size + 2 ≤ wr.heap.size := by
  refine ⟨⟨?_, ?_, ?_⟩, ⟨?_, ?_, ?_⟩, ?_⟩
  · rw [h.cell (p := ⟨w.heap.size, 0, none⟩) (by show w.heap.size < _; omega)]; simp [go_sem]
  · rw [h.cell (p := ⟨w.heap.size, 1, none⟩) (by show w.heap.size < _; omega)]; simp [go_sem]
  · rw [h.cell (p := ⟨w.heap.size, 2, none⟩) (by show w.heap.size < _; omega)]; simp [go_sem]
  · rw [h.cell (p := ⟨w.heap.size + 1, 0, none⟩) (by show w.heap.size + 1 < _; omega)]; simp [go_sem]
  · rw [h.cell (p := ⟨w.heap.size + 1, 1, none⟩) (by show w.heap.size + 1 < _; omega)]; simp [go_sem]
  · rw [h.cell (p := ⟨w.heap.size + 1, 2, none⟩) (by show w.heap.size + 1 < _; omega)]; simp [go_sem]
  · have := h.size; simp only [World.size_alloc] at this; omega
theorem TwoD.below {w wr : World} {na nb : Bool} {s t : ByteArray} {x y : Int} (h : TwoD w wr na nb s t x y) : Below w.heap.size w wr :=
  (((Below.refl _ _).alloc (Nat.le_refl _) _).alloc (by simp) _).trans (h.mono (by omega))
theorem TwoD.on {w wr w1 : World} {na nb : Bool} {s t : ByteArray} {x y : Int} (h : TwoD w wr na nb s t x y) (hb : Below wr.heap.size wr w1) : TwoD w w1 na nb s t x y :=
  Below.trans h (hb.mono h.cells.2.2)

set_option maxRecDepth 100000 in
set_option maxHeartbeats 2000000 in
theorem r7_size_any (na nb : Bool) (s t : ByteArray) (x y : Int) (w : World) (hs : Dc.right s.data.toList x = true) (ht : Dc.right t.data.toList y = true) :
    Calls Tryz.prog 108 #[.agg #[.bool na, .string s, .int .i64 x], .agg #[.bool nb, .string t, .int .i64 y]] w (RetB (.int .i64 (Dc.sizeC s.data.toList x t.data.toList y)) w) := by
  have hls := Dc.right_len hs
  have hlt := Dc.right_len ht
  obtain ⟨hx1, hx2⟩ := Dc.right_exp hs
  obtain ⟨hy1, hy2⟩ := Dc.right_exp ht
  rw [bs_length] at hls hlt
  obtain ⟨r, hr⟩ : ∃ r, r = Dc.sizeC s.data.toList x t.data.toList y := ⟨_, rfl⟩
  rw [← hr]
  by_cases h0 : s.size = 0 ∨ t.size = 0
  · have hor : s.data.toList = [] ∨ t.data.toList = [] := by
      rcases h0 with h | h
      · exact .inl (List.length_eq_zero_iff.1 (by rw [bs_length]; exact h))
      · exact .inr (List.length_eq_zero_iff.1 (by rw [bs_length]; exact h))
    rw [Dc.sizeC, if_pos hor, bs_length, bs_length] at hr
    have HR := Lib.hid hr; clear hr hor hs ht
    by_cases e : s.size = 0
    · have e0 : ((s.size : Int) == 0) = true := beq_iff_eq.2 (by omega)
      have e1 : ¬ 0 < (s.size : Int) := by omega
      by_cases e2 : 0 < t.size
      · have e3 : 0 < (t.size : Int) := by omega
        have hv : r = -1 := by rw [HR.out]; exact Dc.sg_lt (by omega)
        have HV := Lib.hid hv; clear hv e h0
        go_enter Tryz.func108, Tryz.ntmps108
        go_wp2_with fail
        go_ret
        exact RetB.of (congrArg (Value.int .i64) HV.out.symm) (by (repeat (first | exact Below.refl _ _ | assumption | refine Below.setCell ?_ (by first | omega | (simp <;> omega)) _ | refine Below.alloc ?_ (by first | omega | (simp <;> omega)) _ | refine Below.drew ?_ | refine below_drewN' ?_ _)))
      · have e3 : ¬ 0 < (t.size : Int) := by omega
        have hv : r = 0 := by rw [HR.out]; exact Dc.sg_eq (by omega)
        have HV := Lib.hid hv; clear hv e h0
        go_enter Tryz.func108, Tryz.ntmps108
        go_wp2_with fail
        go_ret
        exact RetB.of (congrArg (Value.int .i64) HV.out.symm) (by (repeat (first | exact Below.refl _ _ | assumption | refine Below.setCell ?_ (by first | omega | (simp <;> omega)) _ | refine Below.alloc ?_ (by first | omega | (simp <;> omega)) _ | refine Below.drew ?_ | refine below_drewN' ?_ _)))
    · have e0 : ((s.size : Int) == 0) = false := beq_eq_false_iff_ne.2 (by omega)
      have e1 : 0 < (s.size : Int) := by omega
      have e2 : ((t.size : Int) == 0) = true := beq_iff_eq.2 (by omega)
      have hv : r = 1 := by rw [HR.out]; exact Dc.sg_gt (by omega)
      have HV := Lib.hid hv; clear hv e h0
      go_enter Tryz.func108, Tryz.ntmps108
      go_wp2_with fail
      go_ret
      exact RetB.of (congrArg (Value.int .i64) HV.out.symm) (by (repeat (first | exact Below.refl _ _ | assumption | refine Below.setCell ?_ (by first | omega | (simp <;> omega)) _ | refine Below.alloc ?_ (by first | omega | (simp <;> omega)) _ | refine Below.drew ?_ | refine below_drewN' ?_ _)))
  · have e1 : ((s.size : Int) == 0) = false := beq_eq_false_iff_ne.2 (by omega)
    have e2 : ((t.size : Int) == 0) = false := beq_eq_false_iff_ne.2 (by omega)
    have hor : ¬ (s.data.toList = [] ∨ t.data.toList = []) := by
      rintro (h | h)
      · have := congrArg List.length h; rw [bs_length, List.length_nil] at this; omega
      · have := congrArg List.length h; rw [bs_length, List.length_nil] at this; omega
    rw [Dc.sizeC, if_neg hor, bs_length, bs_length] at hr
    have hp1 := fun w => r7_point_any na s x w (by omega)
    have hp2 := fun w => r7_point_any nb t y w (by omega)
    rw [Dc.point_eq, if_pos hs] at hp1
    rw [Dc.point_eq, if_pos ht] at hp2
    obtain ⟨p, hp⟩ : ∃ p, p = (s.size : Int) + x := ⟨_, rfl⟩
    obtain ⟨q, hq⟩ : ∃ q, q = (t.size : Int) + y := ⟨_, rfl⟩
    rw [← hp] at hp1 hr
    rw [← hq] at hp2 hr
    have hpb : -1000000 ≤ p ∧ p ≤ 1000000 := by omega
    have hqb : -1000000 ≤ q ∧ q ≤ 1000000 := by omega
    obtain ⟨hpb1, hpb2⟩ := hpb
    obtain ⟨hqb1, hqb2⟩ := hqb
    have P1 := Lib.hid hp1; have P2 := Lib.hid hp2; have HR := Lib.hid hr; have HP := Lib.hid hp; have HQ := Lib.hid hq
    have HRS := Lib.hid hs; have HRT := Lib.hid ht
    clear hp1 hp2 hr hp hq hor h0 hs ht
    by_cases hpq : p = q
    · have hr2 := HR.out
      rw [if_neg (by omega), if_neg (by omega)] at hr2
      have HR2 := Lib.hid hr2; clear hr2
      subst hpq
      have hat1 : ∀ (k : Nat) (W : World), k ≤ 10000 → Calls Tryz.prog 92 #[.agg #[.bool na, .string s, .int .i64 x], .int .i64 (p - 1 - k)] W (RetB (.int .u8 ((s.data.toList.getD k 48).toNat)) W) := fun k W hk => by
        rw [← digAt_getD']; exact r7_at_any na s x _ k W (by omega) (by omega) (by omega) (by have := HP.out; omega)
      have hat2 : ∀ (k : Nat) (W : World), k ≤ 10000 → Calls Tryz.prog 92 #[.agg #[.bool nb, .string t, .int .i64 y], .int .i64 (p - 1 - k)] W (RetB (.int .u8 ((t.data.toList.getD k 48).toNat)) W) := fun k W hk => by
        rw [← digAt_getD']; exact r7_at_any nb t y _ k W (by omega) (by omega) (by omega) (by have := HQ.out; omega)
      have A1 := Lib.hid hat1; have A2 := Lib.hid hat2; clear hat1 hat2
      have hpp : ((p : Int) != p) = false := by simp
      go_enter Tryz.func108, Tryz.ntmps108
      go_wp2_with (first
        | (go_at_call 75; (with_reducible refine (P1.out _).mono ?_); rintro e w1 ⟨rfl, hb_w1⟩; have hB_w1 : Below (w).heap.size (w) w1 := Below.trans (by (repeat (first | exact Below.refl _ _ | assumption | refine Below.setCell ?_ (by first | omega | (simp <;> omega)) _ | refine Below.alloc ?_ (by first | omega | (simp <;> omega)) _ | refine Below.drew ?_ | refine below_drewN' ?_ _))) (hb_w1.mono (by first | omega | (simp <;> omega))); obtain ⟨hc_w1, hf_w1⟩ := bcell hb_w1; have hz_w1 := hb_w1.size; (try simp only [size_drew', size_drewN', World.size_alloc, World.size_setCell] at hz_w1); have hl0_w1 : w.heap.size < w1.heap.size := (by omega); have hm0_w1 : w.heap.size ≤ w1.heap.size := (by omega); have hn0_w1 : ¬ w.heap.size = w1.heap.size := (by omega); have hq0_w1 : ¬ w1.heap.size = w.heap.size := (by omega); have hr0_w1 := fun o => hc_w1 (w.heap.size) o (by (try simp only [size_drew', size_drewN', World.size_alloc, World.size_setCell]); omega); have hg0_w1 := fun o => hf_w1 (w.heap.size) o (by (try simp only [size_drew', size_drewN', World.size_alloc, World.size_setCell]); omega); have hl1_w1 : w.heap.size + 1 < w1.heap.size := (by omega); have hm1_w1 : w.heap.size + 1 ≤ w1.heap.size := (by omega); have hn1_w1 : ¬ w.heap.size + 1 = w1.heap.size := (by omega); have hq1_w1 : ¬ w1.heap.size = w.heap.size + 1 := (by omega); have hr1_w1 := fun o => hc_w1 (w.heap.size + 1) o (by (try simp only [size_drew', size_drewN', World.size_alloc, World.size_setCell]); omega); have hg1_w1 := fun o => hf_w1 (w.heap.size + 1) o (by (try simp only [size_drew', size_drewN', World.size_alloc, World.size_setCell]); omega))
        | (go_at_call 75; (with_reducible refine (P2.out _).mono ?_); rintro e w2 ⟨rfl, hb_w2⟩; have hB_w2 : Below (w).heap.size (w) w2 := Below.trans (by (repeat (first | exact Below.refl _ _ | assumption | refine Below.setCell ?_ (by first | omega | (simp <;> omega)) _ | refine Below.alloc ?_ (by first | omega | (simp <;> omega)) _ | refine Below.drew ?_ | refine below_drewN' ?_ _))) (hb_w2.mono (by first | omega | (simp <;> omega))); obtain ⟨hc_w2, hf_w2⟩ := bcell hb_w2; have hz_w2 := hb_w2.size; (try simp only [size_drew', size_drewN', World.size_alloc, World.size_setCell] at hz_w2); have hl0_w2 : w.heap.size < w2.heap.size := (by omega); have hm0_w2 : w.heap.size ≤ w2.heap.size := (by omega); have hn0_w2 : ¬ w.heap.size = w2.heap.size := (by omega); have hq0_w2 : ¬ w2.heap.size = w.heap.size := (by omega); have hr0_w2 := fun o => hc_w2 (w.heap.size) o (by (try simp only [size_drew', size_drewN', World.size_alloc, World.size_setCell]); omega); have hg0_w2 := fun o => hf_w2 (w.heap.size) o (by (try simp only [size_drew', size_drewN', World.size_alloc, World.size_setCell]); omega); have hl1_w2 : w.heap.size + 1 < w2.heap.size := (by omega); have hm1_w2 : w.heap.size + 1 ≤ w2.heap.size := (by omega); have hn1_w2 : ¬ w.heap.size + 1 = w2.heap.size := (by omega); have hq1_w2 : ¬ w2.heap.size = w.heap.size + 1 := (by omega); have hr1_w2 := fun o => hc_w2 (w.heap.size + 1) o (by (try simp only [size_drew', size_drewN', World.size_alloc, World.size_setCell]); omega); have hg1_w2 := fun o => hf_w2 (w.heap.size + 1) o (by (try simp only [size_drew', size_drewN', World.size_alloc, World.size_setCell]); omega)))
      go_loopw [7, 8, 9] (fun i _ _ wr => ∃ k : Nat, k ≤ max s.size t.size ∧ i = .int .i64 k ∧ (∀ j, j < k → s.data.toList.getD j 48 = t.data.toList.getD j 48) ∧ TwoD w wr na nb s t x y) (fun i _ _ _ => max s.size t.size - (intOf i).toNat)
      case atStart => exact ⟨0, Nat.zero_le _, rfl, by omega, (Below.refl _ _).trans ((hb_w1.mono (by simp only [World.size_alloc]; omega)).trans (hb_w2.mono (by omega)))⟩
      case round =>
        obtain ⟨k, hk, rfl, heq, htwo⟩ := hrel
        obtain ⟨⟨k0, k1, k2⟩, ⟨k3, k4, k5⟩, k6⟩ := htwo.cells
        have HTWO := Lib.hid htwo; have HEQ := Lib.hid heq; clear htwo heq
        clear hb_w1 hb_w2 hB_w1 hB_w2 hc_w1 hc_w2 hf_w1 hf_w2
        by_cases hlt : k < max s.size t.size
        · obtain ⟨c, hc⟩ : ∃ c, c = s.data.toList.getD k 48 := ⟨_, rfl⟩
          obtain ⟨d, hd⟩ : ∃ d, d = t.data.toList.getD k 48 := ⟨_, rfl⟩
          have h1 := fun W => A1.out k W (by omega)
          have h2 := fun W => A2.out k W (by omega)
          rw [← hc] at h1
          rw [← hd] at h2
          have H1 := Lib.hid h1; have H2 := Lib.hid h2; have HC := Lib.hid hc; have HD := Lib.hid hd; clear h1 h2 hc hd
          by_cases hks : k < s.size
          · go_wp2_with (first
              | (go_at_call 92; (with_reducible refine (H1.out _).mono ?_); rintro e w5 ⟨rfl, hb_w5⟩; have hB_w5 : Below (wr).heap.size (wr) w5 := Below.trans (by (repeat (first | exact Below.refl _ _ | assumption | refine Below.setCell ?_ (by first | omega | (simp <;> omega)) _ | refine Below.alloc ?_ (by first | omega | (simp <;> omega)) _ | refine Below.drew ?_ | refine below_drewN' ?_ _))) (hb_w5.mono (by first | omega | (simp <;> omega))); obtain ⟨hc_w5, hf_w5⟩ := bcell hb_w5; have hz_w5 := hb_w5.size; (try simp only [size_drew', size_drewN', World.size_alloc, World.size_setCell] at hz_w5); have hl0_w5 : w.heap.size < w5.heap.size := (by omega); have hm0_w5 : w.heap.size ≤ w5.heap.size := (by omega); have hn0_w5 : ¬ w.heap.size = w5.heap.size := (by omega); have hq0_w5 : ¬ w5.heap.size = w.heap.size := (by omega); have hr0_w5 := fun o => hc_w5 (w.heap.size) o (by (try simp only [size_drew', size_drewN', World.size_alloc, World.size_setCell]); omega); have hg0_w5 := fun o => hf_w5 (w.heap.size) o (by (try simp only [size_drew', size_drewN', World.size_alloc, World.size_setCell]); omega); have hl1_w5 : w.heap.size + 1 < w5.heap.size := (by omega); have hm1_w5 : w.heap.size + 1 ≤ w5.heap.size := (by omega); have hn1_w5 : ¬ w.heap.size + 1 = w5.heap.size := (by omega); have hq1_w5 : ¬ w5.heap.size = w.heap.size + 1 := (by omega); have hr1_w5 := fun o => hc_w5 (w.heap.size + 1) o (by (try simp only [size_drew', size_drewN', World.size_alloc, World.size_setCell]); omega); have hg1_w5 := fun o => hf_w5 (w.heap.size + 1) o (by (try simp only [size_drew', size_drewN', World.size_alloc, World.size_setCell]); omega))
              | (go_at_call 92; (with_reducible refine (H2.out _).mono ?_); rintro e w6 ⟨rfl, hb_w6⟩; have hB_w6 : Below (wr).heap.size (wr) w6 := Below.trans (by (repeat (first | exact Below.refl _ _ | assumption | refine Below.setCell ?_ (by first | omega | (simp <;> omega)) _ | refine Below.alloc ?_ (by first | omega | (simp <;> omega)) _ | refine Below.drew ?_ | refine below_drewN' ?_ _))) (hb_w6.mono (by first | omega | (simp <;> omega))); obtain ⟨hc_w6, hf_w6⟩ := bcell hb_w6; have hz_w6 := hb_w6.size; (try simp only [size_drew', size_drewN', World.size_alloc, World.size_setCell] at hz_w6); have hl0_w6 : w.heap.size < w6.heap.size := (by omega); have hm0_w6 : w.heap.size ≤ w6.heap.size := (by omega); have hn0_w6 : ¬ w.heap.size = w6.heap.size := (by omega); have hq0_w6 : ¬ w6.heap.size = w.heap.size := (by omega); have hr0_w6 := fun o => hc_w6 (w.heap.size) o (by (try simp only [size_drew', size_drewN', World.size_alloc, World.size_setCell]); omega); have hg0_w6 := fun o => hf_w6 (w.heap.size) o (by (try simp only [size_drew', size_drewN', World.size_alloc, World.size_setCell]); omega); have hl1_w6 : w.heap.size + 1 < w6.heap.size := (by omega); have hm1_w6 : w.heap.size + 1 ≤ w6.heap.size := (by omega); have hn1_w6 : ¬ w.heap.size + 1 = w6.heap.size := (by omega); have hq1_w6 : ¬ w6.heap.size = w.heap.size + 1 := (by omega); have hr1_w6 := fun o => hc_w6 (w.heap.size + 1) o (by (try simp only [size_drew', size_drewN', World.size_alloc, World.size_setCell]); omega); have hg1_w6 := fun o => hf_w6 (w.heap.size + 1) o (by (try simp only [size_drew', size_drewN', World.size_alloc, World.size_setCell]); omega)))
            · have h1 : (c.toNat : Int) < d.toNat := by omega
              go_ret
              exact RetB.of (congrArg (Value.int .i64) (by rw [HR2.out, (Dc.cmp_lt k _ _ (Dc.right_dig HRS.out) (Dc.right_dig HRT.out) HEQ.out (by rw [← HC.out, ← HD.out]; omega)).1])) (HTWO.out.on hB_w6).below
            · have h1 : (d.toNat : Int) < c.toNat := by omega
              go_ret
              exact RetB.of (congrArg (Value.int .i64) (by rw [HR2.out, (Dc.cmp_lt k _ _ (Dc.right_dig HRT.out) (Dc.right_dig HRS.out) (fun j hj => (HEQ.out j hj).symm) (by rw [← HC.out, ← HD.out]; omega)).2])) (HTWO.out.on hB_w6).below
            · have h1 : (d.toNat : Int) ≤ c.toNat := by omega
              have h2 : (c.toNat : Int) ≤ d.toNat := by omega
              have hcd : c = d := UInt8.toNat_inj.1 (by omega)
              have HCD := Lib.hid hcd; clear hcd
              go_roundw
              case rel => exact ⟨k + 1, by omega, by go_num, fun j hj => by
                by_cases e : j < k
                · exact HEQ.out j e
                · obtain rfl : j = k := by omega
                  rw [← HC.out, ← HD.out, HCD.out], HTWO.out.on hB_w6⟩
              case measure => simp [intOf]; omega
          · have hkt : k < t.size := by omega
            go_wp2_with (first
              | (go_at_call 92; (with_reducible refine (H1.out _).mono ?_); rintro e w7 ⟨rfl, hb_w7⟩; have hB_w7 : Below (wr).heap.size (wr) w7 := Below.trans (by (repeat (first | exact Below.refl _ _ | assumption | refine Below.setCell ?_ (by first | omega | (simp <;> omega)) _ | refine Below.alloc ?_ (by first | omega | (simp <;> omega)) _ | refine Below.drew ?_ | refine below_drewN' ?_ _))) (hb_w7.mono (by first | omega | (simp <;> omega))); obtain ⟨hc_w7, hf_w7⟩ := bcell hb_w7; have hz_w7 := hb_w7.size; (try simp only [size_drew', size_drewN', World.size_alloc, World.size_setCell] at hz_w7); have hl0_w7 : w.heap.size < w7.heap.size := (by omega); have hm0_w7 : w.heap.size ≤ w7.heap.size := (by omega); have hn0_w7 : ¬ w.heap.size = w7.heap.size := (by omega); have hq0_w7 : ¬ w7.heap.size = w.heap.size := (by omega); have hr0_w7 := fun o => hc_w7 (w.heap.size) o (by (try simp only [size_drew', size_drewN', World.size_alloc, World.size_setCell]); omega); have hg0_w7 := fun o => hf_w7 (w.heap.size) o (by (try simp only [size_drew', size_drewN', World.size_alloc, World.size_setCell]); omega); have hl1_w7 : w.heap.size + 1 < w7.heap.size := (by omega); have hm1_w7 : w.heap.size + 1 ≤ w7.heap.size := (by omega); have hn1_w7 : ¬ w.heap.size + 1 = w7.heap.size := (by omega); have hq1_w7 : ¬ w7.heap.size = w.heap.size + 1 := (by omega); have hr1_w7 := fun o => hc_w7 (w.heap.size + 1) o (by (try simp only [size_drew', size_drewN', World.size_alloc, World.size_setCell]); omega); have hg1_w7 := fun o => hf_w7 (w.heap.size + 1) o (by (try simp only [size_drew', size_drewN', World.size_alloc, World.size_setCell]); omega))
              | (go_at_call 92; (with_reducible refine (H2.out _).mono ?_); rintro e w8 ⟨rfl, hb_w8⟩; have hB_w8 : Below (wr).heap.size (wr) w8 := Below.trans (by (repeat (first | exact Below.refl _ _ | assumption | refine Below.setCell ?_ (by first | omega | (simp <;> omega)) _ | refine Below.alloc ?_ (by first | omega | (simp <;> omega)) _ | refine Below.drew ?_ | refine below_drewN' ?_ _))) (hb_w8.mono (by first | omega | (simp <;> omega))); obtain ⟨hc_w8, hf_w8⟩ := bcell hb_w8; have hz_w8 := hb_w8.size; (try simp only [size_drew', size_drewN', World.size_alloc, World.size_setCell] at hz_w8); have hl0_w8 : w.heap.size < w8.heap.size := (by omega); have hm0_w8 : w.heap.size ≤ w8.heap.size := (by omega); have hn0_w8 : ¬ w.heap.size = w8.heap.size := (by omega); have hq0_w8 : ¬ w8.heap.size = w.heap.size := (by omega); have hr0_w8 := fun o => hc_w8 (w.heap.size) o (by (try simp only [size_drew', size_drewN', World.size_alloc, World.size_setCell]); omega); have hg0_w8 := fun o => hf_w8 (w.heap.size) o (by (try simp only [size_drew', size_drewN', World.size_alloc, World.size_setCell]); omega); have hl1_w8 : w.heap.size + 1 < w8.heap.size := (by omega); have hm1_w8 : w.heap.size + 1 ≤ w8.heap.size := (by omega); have hn1_w8 : ¬ w.heap.size + 1 = w8.heap.size := (by omega); have hq1_w8 : ¬ w8.heap.size = w.heap.size + 1 := (by omega); have hr1_w8 := fun o => hc_w8 (w.heap.size + 1) o (by (try simp only [size_drew', size_drewN', World.size_alloc, World.size_setCell]); omega); have hg1_w8 := fun o => hf_w8 (w.heap.size + 1) o (by (try simp only [size_drew', size_drewN', World.size_alloc, World.size_setCell]); omega)))
            · have h1 : (c.toNat : Int) < d.toNat := by omega
              go_ret
              exact RetB.of (congrArg (Value.int .i64) (by rw [HR2.out, (Dc.cmp_lt k _ _ (Dc.right_dig HRS.out) (Dc.right_dig HRT.out) HEQ.out (by rw [← HC.out, ← HD.out]; omega)).1])) (HTWO.out.on hB_w8).below
            · have h1 : (d.toNat : Int) < c.toNat := by omega
              go_ret
              exact RetB.of (congrArg (Value.int .i64) (by rw [HR2.out, (Dc.cmp_lt k _ _ (Dc.right_dig HRT.out) (Dc.right_dig HRS.out) (fun j hj => (HEQ.out j hj).symm) (by rw [← HC.out, ← HD.out]; omega)).2])) (HTWO.out.on hB_w8).below
            · have h1 : (d.toNat : Int) ≤ c.toNat := by omega
              have h2 : (c.toNat : Int) ≤ d.toNat := by omega
              have hcd : c = d := UInt8.toNat_inj.1 (by omega)
              have HCD := Lib.hid hcd; clear hcd
              go_roundw
              case rel => exact ⟨k + 1, by omega, by go_num, fun j hj => by
                by_cases e : j < k
                · exact HEQ.out j e
                · obtain rfl : j = k := by omega
                  rw [← HC.out, ← HD.out, HCD.out], HTWO.out.on hB_w8⟩
              case measure => simp [intOf]; omega
        · have hv : r = 0 := by
            rw [HR2.out]
            exact Dc.cmp_all (Dc.right_endOk HRS.out) (Dc.right_endOk HRT.out) k (by rw [bs_length]; omega) (by rw [bs_length]; omega) HEQ.out
          have HV := Lib.hid hv; clear hv
          go_wp2
          go_ret
          exact RetB.of (congrArg (Value.int .i64) HV.out.symm) HTWO.out.below
    · have hpp : ((p : Int) != q) = true := by simpa using hpq
      have HPQ := Lib.hid hpq; clear hpq
      go_enter Tryz.func108, Tryz.ntmps108
      go_wp2_with (first
        | (go_at_call 75; (with_reducible refine (P1.out _).mono ?_); rintro e w1 ⟨rfl, hb_w1⟩; have hB_w1 : Below (w).heap.size (w) w1 := Below.trans (by (repeat (first | exact Below.refl _ _ | assumption | refine Below.setCell ?_ (by first | omega | (simp <;> omega)) _ | refine Below.alloc ?_ (by first | omega | (simp <;> omega)) _ | refine Below.drew ?_ | refine below_drewN' ?_ _))) (hb_w1.mono (by first | omega | (simp <;> omega))); obtain ⟨hc_w1, hf_w1⟩ := bcell hb_w1; have hz_w1 := hb_w1.size; (try simp only [size_drew', size_drewN', World.size_alloc, World.size_setCell] at hz_w1); have hl0_w1 : w.heap.size < w1.heap.size := (by omega); have hm0_w1 : w.heap.size ≤ w1.heap.size := (by omega); have hn0_w1 : ¬ w.heap.size = w1.heap.size := (by omega); have hq0_w1 : ¬ w1.heap.size = w.heap.size := (by omega); have hr0_w1 := fun o => hc_w1 (w.heap.size) o (by (try simp only [size_drew', size_drewN', World.size_alloc, World.size_setCell]); omega); have hg0_w1 := fun o => hf_w1 (w.heap.size) o (by (try simp only [size_drew', size_drewN', World.size_alloc, World.size_setCell]); omega); have hl1_w1 : w.heap.size + 1 < w1.heap.size := (by omega); have hm1_w1 : w.heap.size + 1 ≤ w1.heap.size := (by omega); have hn1_w1 : ¬ w.heap.size + 1 = w1.heap.size := (by omega); have hq1_w1 : ¬ w1.heap.size = w.heap.size + 1 := (by omega); have hr1_w1 := fun o => hc_w1 (w.heap.size + 1) o (by (try simp only [size_drew', size_drewN', World.size_alloc, World.size_setCell]); omega); have hg1_w1 := fun o => hf_w1 (w.heap.size + 1) o (by (try simp only [size_drew', size_drewN', World.size_alloc, World.size_setCell]); omega))
        | (go_at_call 75; (with_reducible refine (P2.out _).mono ?_); rintro e w2 ⟨rfl, hb_w2⟩; have hB_w2 : Below (w).heap.size (w) w2 := Below.trans (by (repeat (first | exact Below.refl _ _ | assumption | refine Below.setCell ?_ (by first | omega | (simp <;> omega)) _ | refine Below.alloc ?_ (by first | omega | (simp <;> omega)) _ | refine Below.drew ?_ | refine below_drewN' ?_ _))) (hb_w2.mono (by first | omega | (simp <;> omega))); obtain ⟨hc_w2, hf_w2⟩ := bcell hb_w2; have hz_w2 := hb_w2.size; (try simp only [size_drew', size_drewN', World.size_alloc, World.size_setCell] at hz_w2); have hl0_w2 : w.heap.size < w2.heap.size := (by omega); have hm0_w2 : w.heap.size ≤ w2.heap.size := (by omega); have hn0_w2 : ¬ w.heap.size = w2.heap.size := (by omega); have hq0_w2 : ¬ w2.heap.size = w.heap.size := (by omega); have hr0_w2 := fun o => hc_w2 (w.heap.size) o (by (try simp only [size_drew', size_drewN', World.size_alloc, World.size_setCell]); omega); have hg0_w2 := fun o => hf_w2 (w.heap.size) o (by (try simp only [size_drew', size_drewN', World.size_alloc, World.size_setCell]); omega); have hl1_w2 : w.heap.size + 1 < w2.heap.size := (by omega); have hm1_w2 : w.heap.size + 1 ≤ w2.heap.size := (by omega); have hn1_w2 : ¬ w.heap.size + 1 = w2.heap.size := (by omega); have hq1_w2 : ¬ w2.heap.size = w.heap.size + 1 := (by omega); have hr1_w2 := fun o => hc_w2 (w.heap.size + 1) o (by (try simp only [size_drew', size_drewN', World.size_alloc, World.size_setCell]); omega); have hg1_w2 := fun o => hf_w2 (w.heap.size + 1) o (by (try simp only [size_drew', size_drewN', World.size_alloc, World.size_setCell]); omega)))
      · go_ret
        exact RetB.of (congrArg (Value.int .i64) (by rw [HR.out, if_pos (by assumption)])) hB_w2
      · go_ret
        have h1 := HPQ.out
        exact RetB.of (congrArg (Value.int .i64) (by rw [HR.out, if_neg (by omega), if_pos (by omega)])) hB_w2
theorem r7_cmp_false {na nb : Bool} {la lb : Dc.Bs} {x y : Int} (h : Dc.right la x = false ∨ Dc.right lb y = false) : Dc.cmpC na la x nb lb y = 0 := by
  rw [Dc.cmpC, if_neg]
  rintro ⟨h1, h2⟩
  rcases h with h | h
  · rw [h] at h1; cases h1
  · rw [h] at h2; cases h2
theorem cmp_signs {na nb : Bool} {s t : ByteArray} {x y : Int} (ha : Dc.right s.data.toList x = true) (hb : Dc.right t.data.toList y = true) : Dc.cmpC na s.data.toList x nb t.data.toList y =
    if (na && decide (0 < (s.size : Int))) = (nb && decide (0 < (t.size : Int))) then (if (na && decide (0 < (s.size : Int))) = true then Dc.sizeC t.data.toList y s.data.toList x else Dc.sizeC s.data.toList x t.data.toList y)
    else if (na && decide (0 < (s.size : Int))) = true then -1 else 1 := by
  rw [Dc.size_swap ha hb, Dc.cmpC, if_pos ⟨ha, hb⟩]
  have h1 : ∀ u : ByteArray, (u.data.toList = []) ↔ ¬ 0 < u.size := fun u => by rw [← List.length_eq_zero_iff, bs_length]; omega
  have hz : s.size = 0 → Dc.sizeC s.data.toList x t.data.toList y = Dc.sg 0 t.size := fun h => by
    rw [Dc.sizeC, if_pos (.inl ((h1 s).2 (by omega))), bs_length, bs_length, h]
  have hz2 : t.size = 0 → Dc.sizeC s.data.toList x t.data.toList y = Dc.sg s.size 0 := fun h => by
    rw [Dc.sizeC, if_pos (.inr ((h1 t).2 (by omega))), bs_length, bs_length, h]
  unfold Dc.sgn
  simp only [h1]
  by_cases a : 0 < s.size
  · by_cases b : 0 < t.size
    · cases na <;> cases nb <;> simp [a, b]
    · have e := hz2 (by omega)
      rw [e, Dc.sg_gt (show 0 < s.size from a)]
      cases na <;> cases nb <;> simp [a, b]
  · by_cases b : 0 < t.size
    · have e := hz (by omega)
      rw [e, Dc.sg_lt (show 0 < t.size from b)]
      cases na <;> cases nb <;> simp [a, b]
    · have e := hz (by omega)
      rw [e, Dc.sg_eq (show 0 = t.size by omega)]
      cases na <;> cases nb <;> simp [a, b]

set_option maxRecDepth 100000 in
set_option maxHeartbeats 4000000 in
theorem r7_cmp_any (na nb : Bool) (s t : ByteArray) (x y : Int) (w : World) (hls : s.size ≤ 9223372036854775807) (hlt : t.size ≤ 9223372036854775807) :
    Calls Tryz.prog 41 #[.agg #[.bool na, .string s, .int .i64 x], .agg #[.bool nb, .string t, .int .i64 y]] w (RetB (.int .i64 (Dc.cmpC na s.data.toList x nb t.data.toList y)) w) := by
  have hr1 := fun w => r7_right_any na s x w hls
  have hr2 := fun w => r7_right_any nb t y w hlt
  obtain ⟨r, hr⟩ : ∃ r, r = Dc.cmpC na s.data.toList x nb t.data.toList y := ⟨_, rfl⟩
  rw [← hr]
  obtain ⟨ba, hba⟩ : ∃ b, b = Dc.right s.data.toList x := ⟨_, rfl⟩
  obtain ⟨bb, hbb⟩ : ∃ b, b = Dc.right t.data.toList y := ⟨_, rfl⟩
  by_cases hboth : ba = true ∧ bb = true
  · obtain ⟨rfl, rfl⟩ := hboth
    rw [← hba] at hr1
    rw [← hbb] at hr2
    have hz1 := fun w => r7_size_any na nb s t x y w hba.symm hbb.symm
    have hz2 := fun w => r7_size_any nb na t s y x w hbb.symm hba.symm
    rw [cmp_signs hba.symm hbb.symm] at hr
    obtain ⟨z1, hz1e⟩ : ∃ z, z = Dc.sizeC s.data.toList x t.data.toList y := ⟨_, rfl⟩
    obtain ⟨z2, hz2e⟩ : ∃ z, z = Dc.sizeC t.data.toList y s.data.toList x := ⟨_, rfl⟩
    rw [← hz1e] at hz1 hr
    rw [← hz2e] at hz2 hr
    have R1 := Lib.hid hr1; have R2 := Lib.hid hr2; have Z1 := Lib.hid hz1; have Z2 := Lib.hid hz2; have HR := Lib.hid hr
    clear hr1 hr2 hz1 hz2 hr hz1e hz2e hba hbb
    obtain ⟨u, hu⟩ : ∃ u, u = (na && decide (0 < (s.size : Int))) := ⟨_, rfl⟩
    obtain ⟨v, hv⟩ : ∃ u, u = (nb && decide (0 < (t.size : Int))) := ⟨_, rfl⟩
    have hrr := HR.out
    rw [← hu, ← hv] at hrr
    have HRR := Lib.hid hrr; have HU := Lib.hid hu; have HV := Lib.hid hv; clear hrr hu hv HR
    go_enter Tryz.func41, Tryz.ntmps41
    go_upto_region 5 with (first | (go_at_call 91; (with_reducible refine (R1.out _).mono ?_); rintro e w1 ⟨rfl, hb_w1⟩; have hB_w1 : Below (w).heap.size (w) w1 := Below.trans (by (repeat (first | exact Below.refl _ _ | assumption | refine Below.setCell ?_ (by first | omega | (simp <;> omega)) _ | refine Below.alloc ?_ (by first | omega | (simp <;> omega)) _ | refine Below.drew ?_ | refine below_drewN' ?_ _))) (hb_w1.mono (by first | omega | (simp <;> omega))); obtain ⟨hc_w1, hf_w1⟩ := bcell hb_w1; have hz_w1 := hb_w1.size; (try simp only [size_drew', size_drewN', World.size_alloc, World.size_setCell] at hz_w1); have hl0_w1 : w.heap.size < w1.heap.size := (by omega); have hm0_w1 : w.heap.size ≤ w1.heap.size := (by omega); have hn0_w1 : ¬ w.heap.size = w1.heap.size := (by omega); have hq0_w1 : ¬ w1.heap.size = w.heap.size := (by omega); have hr0_w1 := fun o => hc_w1 (w.heap.size) o (by (try simp only [size_drew', size_drewN', World.size_alloc, World.size_setCell]); omega); have hg0_w1 := fun o => hf_w1 (w.heap.size) o (by (try simp only [size_drew', size_drewN', World.size_alloc, World.size_setCell]); omega); have hl1_w1 : w.heap.size + 1 < w1.heap.size := (by omega); have hm1_w1 : w.heap.size + 1 ≤ w1.heap.size := (by omega); have hn1_w1 : ¬ w.heap.size + 1 = w1.heap.size := (by omega); have hq1_w1 : ¬ w1.heap.size = w.heap.size + 1 := (by omega); have hr1_w1 := fun o => hc_w1 (w.heap.size + 1) o (by (try simp only [size_drew', size_drewN', World.size_alloc, World.size_setCell]); omega); have hg1_w1 := fun o => hf_w1 (w.heap.size + 1) o (by (try simp only [size_drew', size_drewN', World.size_alloc, World.size_setCell]); omega)) | (go_at_call 91; (with_reducible refine (R2.out _).mono ?_); rintro e w2 ⟨rfl, hb_w2⟩; have hB_w2 : Below (w).heap.size (w) w2 := Below.trans (by (repeat (first | exact Below.refl _ _ | assumption | refine Below.setCell ?_ (by first | omega | (simp <;> omega)) _ | refine Below.alloc ?_ (by first | omega | (simp <;> omega)) _ | refine Below.drew ?_ | refine below_drewN' ?_ _))) (hb_w2.mono (by first | omega | (simp <;> omega))); obtain ⟨hc_w2, hf_w2⟩ := bcell hb_w2; have hz_w2 := hb_w2.size; (try simp only [size_drew', size_drewN', World.size_alloc, World.size_setCell] at hz_w2); have hl0_w2 : w.heap.size < w2.heap.size := (by omega); have hm0_w2 : w.heap.size ≤ w2.heap.size := (by omega); have hn0_w2 : ¬ w.heap.size = w2.heap.size := (by omega); have hq0_w2 : ¬ w2.heap.size = w.heap.size := (by omega); have hr0_w2 := fun o => hc_w2 (w.heap.size) o (by (try simp only [size_drew', size_drewN', World.size_alloc, World.size_setCell]); omega); have hg0_w2 := fun o => hf_w2 (w.heap.size) o (by (try simp only [size_drew', size_drewN', World.size_alloc, World.size_setCell]); omega); have hl1_w2 : w.heap.size + 1 < w2.heap.size := (by omega); have hm1_w2 : w.heap.size + 1 ≤ w2.heap.size := (by omega); have hn1_w2 : ¬ w.heap.size + 1 = w2.heap.size := (by omega); have hq1_w2 : ¬ w2.heap.size = w.heap.size + 1 := (by omega); have hr1_w2 := fun o => hc_w2 (w.heap.size + 1) o (by (try simp only [size_drew', size_drewN', World.size_alloc, World.size_setCell]); omega); have hg1_w2 := fun o => hf_w2 (w.heap.size + 1) o (by (try simp only [size_drew', size_drewN', World.size_alloc, World.size_setCell]); omega)))
    go_cut [7] (fun a wr => a = .bool u ∧ wr = w2)
    case first => as_aux_lemma =>
      have hue := HU.out
      have HUE := Lib.hid hue; clear hue
      cases na
      · go_wp2
        go_meet
        exact ⟨by rw [HUE.out]; rfl, rfl⟩
      · go_wp2
        go_meet
        exact ⟨by rw [HUE.out]; simp, rfl⟩
    obtain ⟨rfl, hwc⟩ := hcut
    subst hwc
    go_upto_region 6 with (fail)
    go_cut [8] (fun a wr => a = .bool v ∧ wr = wc)
    case first => as_aux_lemma =>
      have hue := HV.out
      have HUE := Lib.hid hue; clear hue
      cases nb
      · go_wp2
        go_meet
        exact ⟨by rw [HUE.out]; rfl, rfl⟩
      · go_wp2
        go_meet
        exact ⟨by rw [HUE.out]; simp, rfl⟩
    obtain ⟨rfl, hwc⟩ := hcut
    subst hwc
    have k1 : wc.cell? ⟨w.heap.size, 0, none⟩ = some (.bool na) ∧ wc.cell? ⟨w.heap.size, 1, none⟩ = some (.string s) ∧ wc.cell? ⟨w.heap.size, 2, none⟩ = some (.int .i64 x) ∧ wc.cell? ⟨w.heap.size + 1, 0, none⟩ = some (.bool nb) ∧ wc.cell? ⟨w.heap.size + 1, 1, none⟩ = some (.string t) ∧ wc.cell? ⟨w.heap.size + 1, 2, none⟩ = some (.int .i64 y) := by
      refine ⟨?_, ?_, ?_, ?_, ?_, ?_⟩ <;> first | (rw [hr0_w2, hr0_w1]; simp [go_sem]) | (rw [hr1_w2, hr1_w1]; simp [go_sem])
    obtain ⟨k1, k2, k3, k4, k5, k6⟩ := k1
    cases u <;> cases v
    · have hv : r = z1 := by rw [HRR.out, if_pos rfl, if_neg (by simp)]
      have HVV := Lib.hid hv; clear hv
      go_wp2_with (go_at_call 108; (with_reducible refine (Z1.out _).mono ?_); rintro e w5 ⟨rfl, hb_w5⟩; have hB_w5 : Below (w).heap.size (w) w5 := Below.trans (by (repeat (first | exact Below.refl _ _ | assumption | refine Below.setCell ?_ (by first | omega | (simp <;> omega)) _ | refine Below.alloc ?_ (by first | omega | (simp <;> omega)) _ | refine Below.drew ?_ | refine below_drewN' ?_ _))) (hb_w5.mono (by first | omega | (simp <;> omega))); obtain ⟨hc_w5, hf_w5⟩ := bcell hb_w5; have hz_w5 := hb_w5.size; (try simp only [size_drew', size_drewN', World.size_alloc, World.size_setCell] at hz_w5); have hl0_w5 : w.heap.size < w5.heap.size := (by omega); have hm0_w5 : w.heap.size ≤ w5.heap.size := (by omega); have hn0_w5 : ¬ w.heap.size = w5.heap.size := (by omega); have hq0_w5 : ¬ w5.heap.size = w.heap.size := (by omega); have hr0_w5 := fun o => hc_w5 (w.heap.size) o (by (try simp only [size_drew', size_drewN', World.size_alloc, World.size_setCell]); omega); have hg0_w5 := fun o => hf_w5 (w.heap.size) o (by (try simp only [size_drew', size_drewN', World.size_alloc, World.size_setCell]); omega))
      go_ret
      exact RetB.of (congrArg (Value.int .i64) HVV.out.symm) (by (repeat (first | exact Below.refl _ _ | assumption | refine Below.setCell ?_ (by first | omega | (simp <;> omega)) _ | refine Below.alloc ?_ (by first | omega | (simp <;> omega)) _ | refine Below.drew ?_ | refine below_drewN' ?_ _)))
    · have hv : r = 1 := by rw [HRR.out, if_neg (by simp), if_neg (by simp)]
      have HVV := Lib.hid hv; clear hv
      go_wp2
      go_ret
      exact RetB.of (congrArg (Value.int .i64) HVV.out.symm) (by (repeat (first | exact Below.refl _ _ | assumption | refine Below.setCell ?_ (by first | omega | (simp <;> omega)) _ | refine Below.alloc ?_ (by first | omega | (simp <;> omega)) _ | refine Below.drew ?_ | refine below_drewN' ?_ _)))
    · have hv : r = -1 := by rw [HRR.out, if_neg (by simp), if_pos rfl]
      have HVV := Lib.hid hv; clear hv
      go_wp2
      go_ret
      exact RetB.of (congrArg (Value.int .i64) HVV.out.symm) (by (repeat (first | exact Below.refl _ _ | assumption | refine Below.setCell ?_ (by first | omega | (simp <;> omega)) _ | refine Below.alloc ?_ (by first | omega | (simp <;> omega)) _ | refine Below.drew ?_ | refine below_drewN' ?_ _)))
    · have hv : r = z2 := by rw [HRR.out, if_pos rfl, if_pos rfl]
      have HVV := Lib.hid hv; clear hv
      go_wp2_with (go_at_call 108; (with_reducible refine (Z2.out _).mono ?_); rintro e w6 ⟨rfl, hb_w6⟩; have hB_w6 : Below (w).heap.size (w) w6 := Below.trans (by (repeat (first | exact Below.refl _ _ | assumption | refine Below.setCell ?_ (by first | omega | (simp <;> omega)) _ | refine Below.alloc ?_ (by first | omega | (simp <;> omega)) _ | refine Below.drew ?_ | refine below_drewN' ?_ _))) (hb_w6.mono (by first | omega | (simp <;> omega))); obtain ⟨hc_w6, hf_w6⟩ := bcell hb_w6; have hz_w6 := hb_w6.size; (try simp only [size_drew', size_drewN', World.size_alloc, World.size_setCell] at hz_w6); have hl0_w6 : w.heap.size < w6.heap.size := (by omega); have hm0_w6 : w.heap.size ≤ w6.heap.size := (by omega); have hn0_w6 : ¬ w.heap.size = w6.heap.size := (by omega); have hq0_w6 : ¬ w6.heap.size = w.heap.size := (by omega); have hr0_w6 := fun o => hc_w6 (w.heap.size) o (by (try simp only [size_drew', size_drewN', World.size_alloc, World.size_setCell]); omega); have hg0_w6 := fun o => hf_w6 (w.heap.size) o (by (try simp only [size_drew', size_drewN', World.size_alloc, World.size_setCell]); omega))
      go_ret
      exact RetB.of (congrArg (Value.int .i64) HVV.out.symm) (by (repeat (first | exact Below.refl _ _ | assumption | refine Below.setCell ?_ (by first | omega | (simp <;> omega)) _ | refine Below.alloc ?_ (by first | omega | (simp <;> omega)) _ | refine Below.drew ?_ | refine below_drewN' ?_ _)))
  · have hv : r = 0 := by
      rw [hr]
      refine r7_cmp_false ?_
      cases ba
      · exact .inl hba.symm
      · cases bb
        · exact .inr hbb.symm
        · exact absurd ⟨rfl, rfl⟩ hboth
    rw [← hba] at hr1
    rw [← hbb] at hr2
    have R1 := Lib.hid hr1; have R2 := Lib.hid hr2; have HV := Lib.hid hv
    clear hr1 hr2 hr hba hbb hv
    cases ba
    · clear hboth
      go_enter Tryz.func41, Tryz.ntmps41
      go_wp2_with (first | (go_at_call 91; (with_reducible refine (R1.out _).mono ?_); rintro e w3 ⟨rfl, hb_w3⟩; have hB_w3 : Below (w).heap.size (w) w3 := Below.trans (by (repeat (first | exact Below.refl _ _ | assumption | refine Below.setCell ?_ (by first | omega | (simp <;> omega)) _ | refine Below.alloc ?_ (by first | omega | (simp <;> omega)) _ | refine Below.drew ?_ | refine below_drewN' ?_ _))) (hb_w3.mono (by first | omega | (simp <;> omega))); obtain ⟨hc_w3, hf_w3⟩ := bcell hb_w3; have hz_w3 := hb_w3.size; (try simp only [size_drew', size_drewN', World.size_alloc, World.size_setCell] at hz_w3); have hl0_w3 : w.heap.size < w3.heap.size := (by omega); have hm0_w3 : w.heap.size ≤ w3.heap.size := (by omega); have hn0_w3 : ¬ w.heap.size = w3.heap.size := (by omega); have hq0_w3 : ¬ w3.heap.size = w.heap.size := (by omega); have hr0_w3 := fun o => hc_w3 (w.heap.size) o (by (try simp only [size_drew', size_drewN', World.size_alloc, World.size_setCell]); omega); have hg0_w3 := fun o => hf_w3 (w.heap.size) o (by (try simp only [size_drew', size_drewN', World.size_alloc, World.size_setCell]); omega); have hl1_w3 : w.heap.size + 1 < w3.heap.size := (by omega); have hm1_w3 : w.heap.size + 1 ≤ w3.heap.size := (by omega); have hn1_w3 : ¬ w.heap.size + 1 = w3.heap.size := (by omega); have hq1_w3 : ¬ w3.heap.size = w.heap.size + 1 := (by omega); have hr1_w3 := fun o => hc_w3 (w.heap.size + 1) o (by (try simp only [size_drew', size_drewN', World.size_alloc, World.size_setCell]); omega); have hg1_w3 := fun o => hf_w3 (w.heap.size + 1) o (by (try simp only [size_drew', size_drewN', World.size_alloc, World.size_setCell]); omega)) | (go_at_call 91; (with_reducible refine (R2.out _).mono ?_); rintro e w4 ⟨rfl, hb_w4⟩; have hB_w4 : Below (w).heap.size (w) w4 := Below.trans (by (repeat (first | exact Below.refl _ _ | assumption | refine Below.setCell ?_ (by first | omega | (simp <;> omega)) _ | refine Below.alloc ?_ (by first | omega | (simp <;> omega)) _ | refine Below.drew ?_ | refine below_drewN' ?_ _))) (hb_w4.mono (by first | omega | (simp <;> omega))); obtain ⟨hc_w4, hf_w4⟩ := bcell hb_w4; have hz_w4 := hb_w4.size; (try simp only [size_drew', size_drewN', World.size_alloc, World.size_setCell] at hz_w4); have hl0_w4 : w.heap.size < w4.heap.size := (by omega); have hm0_w4 : w.heap.size ≤ w4.heap.size := (by omega); have hn0_w4 : ¬ w.heap.size = w4.heap.size := (by omega); have hq0_w4 : ¬ w4.heap.size = w.heap.size := (by omega); have hr0_w4 := fun o => hc_w4 (w.heap.size) o (by (try simp only [size_drew', size_drewN', World.size_alloc, World.size_setCell]); omega); have hg0_w4 := fun o => hf_w4 (w.heap.size) o (by (try simp only [size_drew', size_drewN', World.size_alloc, World.size_setCell]); omega); have hl1_w4 : w.heap.size + 1 < w4.heap.size := (by omega); have hm1_w4 : w.heap.size + 1 ≤ w4.heap.size := (by omega); have hn1_w4 : ¬ w.heap.size + 1 = w4.heap.size := (by omega); have hq1_w4 : ¬ w4.heap.size = w.heap.size + 1 := (by omega); have hr1_w4 := fun o => hc_w4 (w.heap.size + 1) o (by (try simp only [size_drew', size_drewN', World.size_alloc, World.size_setCell]); omega); have hg1_w4 := fun o => hf_w4 (w.heap.size + 1) o (by (try simp only [size_drew', size_drewN', World.size_alloc, World.size_setCell]); omega)))
      go_ret
      exact RetB.of (congrArg (Value.int .i64) HV.out.symm) (by (repeat (first | exact Below.refl _ _ | assumption | refine Below.setCell ?_ (by first | omega | (simp <;> omega)) _ | refine Below.alloc ?_ (by first | omega | (simp <;> omega)) _ | refine Below.drew ?_ | refine below_drewN' ?_ _)))
    · cases bb
      · clear hboth
        go_enter Tryz.func41, Tryz.ntmps41
        go_wp2_with (first | (go_at_call 91; (with_reducible refine (R1.out _).mono ?_); rintro e w3 ⟨rfl, hb_w3⟩; have hB_w3 : Below (w).heap.size (w) w3 := Below.trans (by (repeat (first | exact Below.refl _ _ | assumption | refine Below.setCell ?_ (by first | omega | (simp <;> omega)) _ | refine Below.alloc ?_ (by first | omega | (simp <;> omega)) _ | refine Below.drew ?_ | refine below_drewN' ?_ _))) (hb_w3.mono (by first | omega | (simp <;> omega))); obtain ⟨hc_w3, hf_w3⟩ := bcell hb_w3; have hz_w3 := hb_w3.size; (try simp only [size_drew', size_drewN', World.size_alloc, World.size_setCell] at hz_w3); have hl0_w3 : w.heap.size < w3.heap.size := (by omega); have hm0_w3 : w.heap.size ≤ w3.heap.size := (by omega); have hn0_w3 : ¬ w.heap.size = w3.heap.size := (by omega); have hq0_w3 : ¬ w3.heap.size = w.heap.size := (by omega); have hr0_w3 := fun o => hc_w3 (w.heap.size) o (by (try simp only [size_drew', size_drewN', World.size_alloc, World.size_setCell]); omega); have hg0_w3 := fun o => hf_w3 (w.heap.size) o (by (try simp only [size_drew', size_drewN', World.size_alloc, World.size_setCell]); omega); have hl1_w3 : w.heap.size + 1 < w3.heap.size := (by omega); have hm1_w3 : w.heap.size + 1 ≤ w3.heap.size := (by omega); have hn1_w3 : ¬ w.heap.size + 1 = w3.heap.size := (by omega); have hq1_w3 : ¬ w3.heap.size = w.heap.size + 1 := (by omega); have hr1_w3 := fun o => hc_w3 (w.heap.size + 1) o (by (try simp only [size_drew', size_drewN', World.size_alloc, World.size_setCell]); omega); have hg1_w3 := fun o => hf_w3 (w.heap.size + 1) o (by (try simp only [size_drew', size_drewN', World.size_alloc, World.size_setCell]); omega)) | (go_at_call 91; (with_reducible refine (R2.out _).mono ?_); rintro e w4 ⟨rfl, hb_w4⟩; have hB_w4 : Below (w).heap.size (w) w4 := Below.trans (by (repeat (first | exact Below.refl _ _ | assumption | refine Below.setCell ?_ (by first | omega | (simp <;> omega)) _ | refine Below.alloc ?_ (by first | omega | (simp <;> omega)) _ | refine Below.drew ?_ | refine below_drewN' ?_ _))) (hb_w4.mono (by first | omega | (simp <;> omega))); obtain ⟨hc_w4, hf_w4⟩ := bcell hb_w4; have hz_w4 := hb_w4.size; (try simp only [size_drew', size_drewN', World.size_alloc, World.size_setCell] at hz_w4); have hl0_w4 : w.heap.size < w4.heap.size := (by omega); have hm0_w4 : w.heap.size ≤ w4.heap.size := (by omega); have hn0_w4 : ¬ w.heap.size = w4.heap.size := (by omega); have hq0_w4 : ¬ w4.heap.size = w.heap.size := (by omega); have hr0_w4 := fun o => hc_w4 (w.heap.size) o (by (try simp only [size_drew', size_drewN', World.size_alloc, World.size_setCell]); omega); have hg0_w4 := fun o => hf_w4 (w.heap.size) o (by (try simp only [size_drew', size_drewN', World.size_alloc, World.size_setCell]); omega); have hl1_w4 : w.heap.size + 1 < w4.heap.size := (by omega); have hm1_w4 : w.heap.size + 1 ≤ w4.heap.size := (by omega); have hn1_w4 : ¬ w.heap.size + 1 = w4.heap.size := (by omega); have hq1_w4 : ¬ w4.heap.size = w.heap.size + 1 := (by omega); have hr1_w4 := fun o => hc_w4 (w.heap.size + 1) o (by (try simp only [size_drew', size_drewN', World.size_alloc, World.size_setCell]); omega); have hg1_w4 := fun o => hf_w4 (w.heap.size + 1) o (by (try simp only [size_drew', size_drewN', World.size_alloc, World.size_setCell]); omega)))
        go_ret
        exact RetB.of (congrArg (Value.int .i64) HV.out.symm) (by (repeat (first | exact Below.refl _ _ | assumption | refine Below.setCell ?_ (by first | omega | (simp <;> omega)) _ | refine Below.alloc ?_ (by first | omega | (simp <;> omega)) _ | refine Below.drew ?_ | refine below_drewN' ?_ _)))
      · exact absurd ⟨rfl, rfl⟩ hboth
end Go.Proofs.YtjnkbifafbjckaaGreatDoor
