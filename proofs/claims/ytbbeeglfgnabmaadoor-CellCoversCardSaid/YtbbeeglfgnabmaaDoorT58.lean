/- A text that is a reference's form is read by the program. -/
import Derived.Test.YtbbeeglfgnabmaaDoorT57
import Derived.Test.YtbbeeglfgnabmaaDoorCells
import Derived.RegionTactic
import Derived.BigRegion
import Derived.ChangeAlike
import Derived.Laws.BitsAllLaws
namespace Go.Proofs.YtbbeeglfgnabmaaDoor
set_option linter.all false
open Go.RowKit

/-- A block of four cells that may be written. -/
def Bx (w : World) (b : Nat) (vs : List Value) : Prop := Cs w b vs ∧ ∀ k, k < 4 → w.frozen? ⟨b, k, none⟩ = false

set_option maxRecDepth 100000 in
theorem bits_all : ∀ c : Fin 256, Ce.isLet (UInt8.ofNat c.1) = true → (((c.1 &&& 223 : Nat) : Int) - 65) % 256 + 1 = Ce.letV (UInt8.ofNat c.1) := by decide
theorem letv_bits (c : UInt8) (h : Ce.isLet c = true) : (bits .andNot .u8 (c.toNat : Int) 32 - 65) % 256 + 1 = Ce.letV c := by
  have hc : c.toNat < 256 := c.toNat_lt
  rw [u8_andNot _ _ (by omega) (by omega) (by omega) (by omega)]
  have := bits_all ⟨c.toNat, hc⟩
  simp only [UInt8.ofNat_toNat] at this
  have h2 := this h
  rw [Int.toNat_natCast]
  exact h2

theorem col_snoc (l : List UInt8) (c : UInt8) : Ce.colOf (l ++ [c]) = 26 * Ce.colOf l + Ce.letV c := by simp [Ce.colOf]
theorem col_bd (l : List UInt8) (h : l.all Ce.isLet = true) (hl : l.length ≤ 3) : 0 ≤ Ce.colOf l ∧ Ce.colOf l ≤ 18278 ∧ (l.length ≤ 2 → Ce.colOf l ≤ 702) := by
  match l, h, hl with
  | [], _, _ => exact ⟨by decide, by decide, fun _ => by decide⟩
  | [a], h, _ =>
    have b1 := Ce.letV_bd (c := a) (by simpa using h)
    simp only [Ce.colOf, List.foldl]; omega
  | [a, b], h, _ =>
    have b1 := Ce.letV_bd (c := a) (by simp at h; exact h.1)
    have b2 := Ce.letV_bd (c := b) (by simp at h; exact h.2)
    simp only [Ce.colOf, List.foldl]; omega
  | [a, b, c], h, _ =>
    have b1 := Ce.letV_bd (c := a) (by simp at h; exact h.1)
    have b2 := Ce.letV_bd (c := b) (by simp at h; exact h.2.1)
    have b3 := Ce.letV_bd (c := c) (by simp at h; exact h.2.2)
    simp only [Ce.colOf, List.foldl, List.length_cons, List.length_nil]; omega
  | a :: b :: c :: d :: t, _, hl => simp at hl
theorem take_all {l : List UInt8} (h : l.all Ce.isLet = true) (k : Nat) : (l.take k).all Ce.isLet = true := by
  rw [List.all_eq_true] at h ⊢
  exact fun c hc => h c (List.mem_of_mem_take hc)
theorem col_step (N : ByteArray) (h : N.data.toList.all Ce.isLet = true) (k : Nat) (hk : k < N.size) : Ce.colOf (N.data.toList.take (k + 1)) = 26 * Ce.colOf (N.data.toList.take k) + (bits .andNot .u8 (N[k].toNat : Int) 32 - 65) % 256 + 1 := by
  have h1 : k < N.data.toList.length := by rw [bs_length]; exact hk
  have h2 := bs_getElem? N k hk
  rw [List.getElem?_eq_getElem h1] at h2
  rw [List.take_succ_eq_append_getElem h1, Option.some.inj h2, col_snoc, Int.add_assoc, letv_bits]
  rw [List.all_eq_true] at h
  exact h _ (List.mem_of_getElem? (bs_getElem? N k hk))
theorem Bx.col {w : World} {b : Nat} {x y z : Value} {v : Value} {u : Value} (h : Bx w b [v, x, y, z]) : Bx ((w.setCell ⟨b, 0, none⟩ u).drew) b [u, x, y, z] := by
  obtain ⟨h1, h2⟩ := h
  refine ⟨⟨?_, fun k hk => ?_⟩, fun k hk => (World.frozen?_setCell _ _ _ _).trans (h2 k hk)⟩
  · have := World.size_setCell w ⟨b, 0, none⟩ u; show b < (w.setCell _ u).heap.size; rw [this]; exact h1.1
  · rw [cell_drew1]
    match k, hk with
    | 0, _ => exact World.cell?_setCell_same _ _ _ (h1.get 0 rfl)
    | 1, _ => rw [World.cell?_setCell_other _ _ _ _ (by simp)]; exact h1.get 1 rfl
    | 2, _ => rw [World.cell?_setCell_other _ _ _ _ (by simp)]; exact h1.get 2 rfl
    | 3, _ => rw [World.cell?_setCell_other _ _ _ _ (by simp)]; exact h1.get 3 rfl
    | n + 4, hk => exact absurd hk (by simp)
theorem Bx.far {w : World} {b b' : Nat} {vs : List Value} {u : Value} (h : Bx w b vs) (hne : b ≠ b') : Bx ((w.setCell ⟨b', 0, none⟩ u).drew) b vs := by
  obtain ⟨h1, h2⟩ := h
  refine ⟨⟨?_, fun k hk => ?_⟩, fun k hk => (World.frozen?_setCell _ _ _ _).trans (h2 k hk)⟩
  · have := World.size_setCell w ⟨b', 0, none⟩ u; show b < (w.setCell _ u).heap.size; rw [this]; exact h1.1
  · rw [cell_drew1, World.cell?_setCell_other _ _ _ _ (by intro e; injection e with e1; exact hne e1.symm)]; exact h1.2 k hk

theorem atoi9 (s : ByteArray) (w : World) (hd : Dc.allDig s.data.toList = true) (h : 0 < s.size ∧ s.size ≤ 9) : Calls Tryd.prog 35 #[.string s] w (RetB (.tuple #[.int .i64 (Dc.numOf s.data.toList), .nilIface]) w) :=
  (Tryd.strconv_Atoi_ok s (by omega) _ (Dc.atoi_digs s.data.toList hd (Dc.ne_nil_of_bytes s h.1) (by simpa using h.2)).1 w).mono fun e w' he => ⟨he.1, by
    rcases he.2 with e | ⟨t, e⟩
    · rw [e]; exact Below.refl _ _
    · rw [e]; exact Lib.bytesWorld_below _ _ _⟩

set_option maxHeartbeats 2000000 in
theorem ce_parse_good (s A N B C R D : ByteArray) (ac ar : Bool) (w : World) (hc : Cuts s A N B C R D ac ar) (hD : D.size = 0) (hN : 0 < N.size) (hN3 : N.size ≤ 3) (hR : 0 < R.size) (hR7 : R.size ≤ 7) (hR0 : ¬ (R[0].toNat : Int) = 48) (hNl : N.data.toList.all Ce.isLet = true) (hRd : Dc.allDig R.data.toList = true)
    (x y : Int) (hxx : x = Ce.colOf N.data.toList) (hyy : y = Dc.numOf R.data.toList) (v : Bool) (hv : v = Ce.right ⟨x - 1, y - 1, ac, ar⟩) (V : Value) (hVt : v = true → V = .tuple #[.agg #[.int .i64 (x - 1), .int .i64 (y - 1), .bool ac, .bool ar], .int .i64 0]) (hVf : v = false → V = .tuple #[.agg #[.int .i64 0, .int .i64 0, .bool false, .bool false], .int .i64 14]) :
    Calls Tryd.prog 10 #[.string s] w (RetB V w) := by
  have hat := fun W => atoi9 R W hRd ⟨hR, by omega⟩
  have hyb := (Dc.atoi_digs R.data.toList hRd (Dc.ne_nil_of_bytes R hR) (by rw [bs_length]; omega)).2
  rw [← hyy] at hat hyb
  have hrt := fun W => ce_right_any (x - 1) (y - 1) ac ar W
  rw [← hv] at hrt
  have HAT := Lib.hid hat; have HRT := Lib.hid hrt; have HXX := Lib.hid hxx; have HVT := Lib.hid hVt; have HVF := Lib.hid hVf
  obtain ⟨hy0, hy1⟩ := hyb
  clear hat hrt hxx hyy hv hVt hVf
  obtain ⟨h1, h2, h3, h4⟩ := hc
  have H1 := Lib.hid h1; have H2 := Lib.hid h2; have H3 := Lib.hid h3; have H4 := Lib.hid h4
  have e0 := isEmpty_of_zero hD
  have e1 := isEmpty_of_pos hN
  have e2 := isEmpty_of_pos hR
  have e3 : ((R[0].toNat : Int) == 48) = false := by simpa using hR0
  clear h1 h2 h3 h4 hD
  go_enter Tryd.func10, Tryd.ntmps10
  go_wp2_with (first
    | (go_at_call 31; (with_reducible refine (H1.out _).mono ?_); rintro e w' ⟨rfl, rfl⟩)
    | (go_at_call 31; (with_reducible refine (H3.out _).mono ?_); rintro e w' ⟨rfl, rfl⟩)
    | (go_at_call 32; (with_reducible refine (H2.out _).mono ?_); rintro e w1 ⟨rfl, hb_w1⟩; have hB_w1 : Below (w).heap.size (w) w1 := Below.trans (by (repeat (first | exact Below.refl _ _ | assumption | refine Below.setCell ?_ (by first | omega | (simp <;> omega)) _ | refine Below.alloc ?_ (by first | omega | (simp <;> omega)) _ | refine Below.drew ?_ | refine below_drewN' ?_ _))) (hb_w1.mono (by first | omega | (simp <;> omega))); obtain ⟨hc_w1, hf_w1⟩ := bcell hb_w1; have hz_w1 := hb_w1.size; (try simp only [size_drew', size_drewN', World.size_alloc, World.size_setCell] at hz_w1); have hl0_w1 : w.heap.size < w1.heap.size := (by omega); have hm0_w1 : w.heap.size ≤ w1.heap.size := (by omega); have hn0_w1 : ¬ w.heap.size = w1.heap.size := (by omega); have hq0_w1 : ¬ w1.heap.size = w.heap.size := (by omega); have hr0_w1 := fun o => hc_w1 (w.heap.size) o (by (try simp only [size_drew', size_drewN', World.size_alloc, World.size_setCell]); omega); have hg0_w1 := fun o => hf_w1 (w.heap.size) o (by (try simp only [size_drew', size_drewN', World.size_alloc, World.size_setCell]); omega); have hl1_w1 : w.heap.size + 1 < w1.heap.size := (by omega); have hm1_w1 : w.heap.size + 1 ≤ w1.heap.size := (by omega); have hn1_w1 : ¬ w.heap.size + 1 = w1.heap.size := (by omega); have hq1_w1 : ¬ w1.heap.size = w.heap.size + 1 := (by omega); have hr1_w1 := fun o => hc_w1 (w.heap.size + 1) o (by (try simp only [size_drew', size_drewN', World.size_alloc, World.size_setCell]); omega); have hg1_w1 := fun o => hf_w1 (w.heap.size + 1) o (by (try simp only [size_drew', size_drewN', World.size_alloc, World.size_setCell]); omega))
    | (go_at_call 32; (with_reducible refine (H4.out _).mono ?_); rintro e w2 ⟨rfl, hb_w2⟩; have hB_w2 : Below (w).heap.size (w) w2 := Below.trans (by (repeat (first | exact Below.refl _ _ | assumption | refine Below.setCell ?_ (by first | omega | (simp <;> omega)) _ | refine Below.alloc ?_ (by first | omega | (simp <;> omega)) _ | refine Below.drew ?_ | refine below_drewN' ?_ _))) (hb_w2.mono (by first | omega | (simp <;> omega))); obtain ⟨hc_w2, hf_w2⟩ := bcell hb_w2; have hz_w2 := hb_w2.size; (try simp only [size_drew', size_drewN', World.size_alloc, World.size_setCell] at hz_w2); have hl0_w2 : w.heap.size < w2.heap.size := (by omega); have hm0_w2 : w.heap.size ≤ w2.heap.size := (by omega); have hn0_w2 : ¬ w.heap.size = w2.heap.size := (by omega); have hq0_w2 : ¬ w2.heap.size = w.heap.size := (by omega); have hr0_w2 := fun o => hc_w2 (w.heap.size) o (by (try simp only [size_drew', size_drewN', World.size_alloc, World.size_setCell]); omega); have hg0_w2 := fun o => hf_w2 (w.heap.size) o (by (try simp only [size_drew', size_drewN', World.size_alloc, World.size_setCell]); omega); have hl1_w2 : w.heap.size + 1 < w2.heap.size := (by omega); have hm1_w2 : w.heap.size + 1 ≤ w2.heap.size := (by omega); have hn1_w2 : ¬ w.heap.size + 1 = w2.heap.size := (by omega); have hq1_w2 : ¬ w2.heap.size = w.heap.size + 1 := (by omega); have hr1_w2 := fun o => hc_w2 (w.heap.size + 1) o (by (try simp only [size_drew', size_drewN', World.size_alloc, World.size_setCell]); omega); have hg1_w2 := fun o => hf_w2 (w.heap.size + 1) o (by (try simp only [size_drew', size_drewN', World.size_alloc, World.size_setCell]); omega)))
  have q0 : w2.cell? ⟨w.heap.size + 1, 0, none⟩ = some (.int .i64 0) := (hr1_w2 0).trans (by simp [go_sem, hr1_w1])
  have q1 : w2.cell? ⟨w.heap.size + 1, 1, none⟩ = some (.int .i64 0) := (hr1_w2 1).trans (by simp [go_sem, hr1_w1])
  have q2 : w2.cell? ⟨w.heap.size + 1, 2, none⟩ = some (.bool ac) := (hr1_w2 2).trans (by simp [go_sem, hr1_w1])
  have q3 : w2.cell? ⟨w.heap.size + 1, 3, none⟩ = some (.bool ar) := (hr1_w2 3).trans (by simp [go_sem, hr1_w1])
  have p0 : w2.cell? ⟨w.heap.size, 0, none⟩ = some (.int .i64 0) := (hr0_w2 0).trans (by simp [go_sem, hr0_w1])
  have p1 : w2.cell? ⟨w.heap.size, 1, none⟩ = some (.int .i64 0) := (hr0_w2 1).trans (by simp [go_sem, hr0_w1])
  have p2 : w2.cell? ⟨w.heap.size, 2, none⟩ = some (.bool false) := (hr0_w2 2).trans (by simp [go_sem, hr0_w1])
  have p3 : w2.cell? ⟨w.heap.size, 3, none⟩ = some (.bool false) := (hr0_w2 3).trans (by simp [go_sem, hr0_w1])
  have f0 : ∀ k, w2.frozen? ⟨w.heap.size, k, none⟩ = false := fun k => (hg0_w2 k).trans (by simp [go_sem, hg0_w1])
  have f1 : ∀ k, w2.frozen? ⟨w.heap.size + 1, k, none⟩ = false := fun k => (hg1_w2 k).trans (by simp [go_sem, hg1_w1])
  go_loopw [58] (fun i wr => ∃ (k : Nat) (z : Int), k ≤ N.size ∧ z = Ce.colOf (N.data.toList.take k) ∧ i = .int .i64 k ∧ Below w.heap.size w wr ∧ Bx wr w.heap.size [.int .i64 0, .int .i64 0, .bool false, .bool false] ∧ Bx wr (w.heap.size + 1) [.int .i64 z, .int .i64 0, .bool ac, .bool ar]) (fun i _ => N.size - (intOf i).toNat)
  case atStart =>
    have z1 : w.heap.size < w2.heap.size := by omega
    have z2 : w.heap.size + 1 < w2.heap.size := by omega
    exact ⟨0, 0, by omega, rfl, rfl, hB_w2, ⟨⟨z1, fun k hk => by match k, hk with | 0, _ => exact p0 | 1, _ => exact p1 | 2, _ => exact p2 | 3, _ => exact p3 | n + 4, h => exact absurd h (by simp)⟩, fun k _ => f0 k⟩,
      ⟨⟨z2, fun k hk => by match k, hk with | 0, _ => exact q0 | 1, _ => exact q1 | 2, _ => exact q2 | 3, _ => exact q3 | n + 4, h => exact absurd h (by simp)⟩, fun k _ => f1 k⟩⟩
  case round =>
    obtain ⟨k, z, hk, hx, rfl, hbr, hq0, hq1⟩ := hrel
    have hxb := col_bd _ (take_all hNl k) (by rw [List.length_take, bs_length]; omega)
    rw [← hx] at hxb
    obtain ⟨hx0, hx1, hx2⟩ := hxb
    rw [List.length_take, bs_length, Nat.min_eq_left hk] at hx2
    have HX := Lib.hid hx; have HX2 := Lib.hid hx2; have HQ0 := Lib.hid hq0; have HQ1 := Lib.hid hq1
    obtain ⟨hb0, hf0⟩ := hq0
    obtain ⟨hb1, hf1⟩ := hq1
    clear hx hx2
    have HBR := Lib.hid hbr
    have c0 := hb1.get 0 rfl
    have c1 := hb1.get 1 rfl
    have c2 := hb1.get 2 rfl
    have c3 := hb1.get 3 rfl
    have g0 := hf1 0 (by omega)
    have HB0 := Lib.hid hb0; have HF0 := Lib.hid hf0; have HB1 := Lib.hid hb1; have HF1 := Lib.hid hf1
    clear hb0 hf0 hb1 hf1 hbr q0 q1 q2 q3 p0 p1 p2 p3 f0 f1 hr0_w1 hr1_w1 hr0_w2 hr1_w2 hg0_w1 hg1_w1 hg0_w2 hg1_w2 hc_w1 hf_w1 hc_w2 hf_w2 hb_w1 hb_w2
    by_cases hlt : k < N.size
    · have hst := col_step N hNl k hlt
      rw [← HX.out] at hst
      have HST := Lib.hid hst; clear hst
      go_wp2
      go_region
      go_wp2
      go_roundw
      case rel => exact ⟨k + 1, _, by omega, HST.out.symm, by go_num, (HBR.out.setCell (by simp) _).drew, HQ0.out.far (by omega), HQ1.out.col⟩
      case measure => simp [intOf]; omega
    · obtain rfl : k = N.size := by omega
      have hzx : z = x := by rw [HX.out, HXX.out, List.take_of_length_le (by rw [bs_length]; omega)]
      subst hzx
      have d0 := HB0.out.get 0 rfl
      have d1 := HB0.out.get 1 rfl
      have d2 := HB0.out.get 2 rfl
      have d3 := HB0.out.get 3 rfl
      have m0 := HF0.out 0 (by omega)
      have m1 := HF0.out 1 (by omega)
      have m2 := HF0.out 2 (by omega)
      have m3 := HF0.out 3 (by omega)
      have g1 := HF1.out 1 (by omega)
      have z1 := HB0.out.1
      have z2 := HB1.out.1
      have hbr := HBR.out
      have hbs := hbr.size
      cases v with
      | true =>
        have hV := HVT.out rfl
        have HV := Lib.hid hV; clear hV
        go_wp2_with (first
          | (go_at_call 35; (with_reducible refine (HAT.out _).mono ?_); rintro e w5 ⟨rfl, hb_w5⟩; have hB_w5 : Below (w).heap.size (w) w5 := Below.trans (by (repeat (first | exact Below.refl _ _ | assumption | refine Below.setCell ?_ (by first | omega | (simp <;> omega)) _ | refine Below.alloc ?_ (by first | omega | (simp <;> omega)) _ | refine Below.drew ?_ | refine below_drewN' ?_ _))) (hb_w5.mono (by first | omega | (simp <;> omega))); obtain ⟨hc_w5, hf_w5⟩ := bcell hb_w5; have hz_w5 := hb_w5.size; (try simp only [size_drew', size_drewN', World.size_alloc, World.size_setCell] at hz_w5); have hl0_w5 : w.heap.size < w5.heap.size := (by omega); have hm0_w5 : w.heap.size ≤ w5.heap.size := (by omega); have hn0_w5 : ¬ w.heap.size = w5.heap.size := (by omega); have hq0_w5 : ¬ w5.heap.size = w.heap.size := (by omega); have hr0_w5 := fun o => hc_w5 (w.heap.size) o (by (try simp only [size_drew', size_drewN', World.size_alloc, World.size_setCell]); omega); have hg0_w5 := fun o => hf_w5 (w.heap.size) o (by (try simp only [size_drew', size_drewN', World.size_alloc, World.size_setCell]); omega); have hl1_w5 : w.heap.size + 1 < w5.heap.size := (by omega); have hm1_w5 : w.heap.size + 1 ≤ w5.heap.size := (by omega); have hn1_w5 : ¬ w.heap.size + 1 = w5.heap.size := (by omega); have hq1_w5 : ¬ w5.heap.size = w.heap.size + 1 := (by omega); have hr1_w5 := fun o => hc_w5 (w.heap.size + 1) o (by (try simp only [size_drew', size_drewN', World.size_alloc, World.size_setCell]); omega); have hg1_w5 := fun o => hf_w5 (w.heap.size + 1) o (by (try simp only [size_drew', size_drewN', World.size_alloc, World.size_setCell]); omega))
          | (go_at_call 12; (with_reducible refine (HRT.out _).mono ?_); rintro e w6 ⟨rfl, hb_w6⟩; have hB_w6 : Below (w).heap.size (w) w6 := Below.trans (by (repeat (first | exact Below.refl _ _ | assumption | refine Below.setCell ?_ (by first | omega | (simp <;> omega)) _ | refine Below.alloc ?_ (by first | omega | (simp <;> omega)) _ | refine Below.drew ?_ | refine below_drewN' ?_ _))) (hb_w6.mono (by first | omega | (simp <;> omega))); obtain ⟨hc_w6, hf_w6⟩ := bcell hb_w6; have hz_w6 := hb_w6.size; (try simp only [size_drew', size_drewN', World.size_alloc, World.size_setCell] at hz_w6); have hl0_w6 : w.heap.size < w6.heap.size := (by omega); have hm0_w6 : w.heap.size ≤ w6.heap.size := (by omega); have hn0_w6 : ¬ w.heap.size = w6.heap.size := (by omega); have hq0_w6 : ¬ w6.heap.size = w.heap.size := (by omega); have hr0_w6 := fun o => hc_w6 (w.heap.size) o (by (try simp only [size_drew', size_drewN', World.size_alloc, World.size_setCell]); omega); have hg0_w6 := fun o => hf_w6 (w.heap.size) o (by (try simp only [size_drew', size_drewN', World.size_alloc, World.size_setCell]); omega); have hl1_w6 : w.heap.size + 1 < w6.heap.size := (by omega); have hm1_w6 : w.heap.size + 1 ≤ w6.heap.size := (by omega); have hn1_w6 : ¬ w.heap.size + 1 = w6.heap.size := (by omega); have hq1_w6 : ¬ w6.heap.size = w.heap.size + 1 := (by omega); have hr1_w6 := fun o => hc_w6 (w.heap.size + 1) o (by (try simp only [size_drew', size_drewN', World.size_alloc, World.size_setCell]); omega); have hg1_w6 := fun o => hf_w6 (w.heap.size + 1) o (by (try simp only [size_drew', size_drewN', World.size_alloc, World.size_setCell]); omega)))
        (refine bodyPost_ret (v := .tuple #[.agg #[.int .i64 (z - 1), .int .i64 (y - 1), .bool ac, .bool ar], .int .i64 0]) (by (simp [results, Tryd.results10, go_sem, hr0_w5, hl0_w5, hm0_w5, hn0_w5, hq0_w5, hr1_w5, hl1_w5, hm1_w5, hn1_w5, hq1_w5, hr0_w6, hl0_w6, hm0_w6, hn0_w6, hq0_w6, hr1_w6, hl1_w6, hm1_w6, hn1_w6, hq1_w6, d0, d1, d2, d3, c0, c1, c2, c3]; done)) rfl (RetB.of HV.out.symm (by (repeat (first | exact Below.refl _ _ | assumption | refine Below.setCell ?_ (by first | omega | (simp <;> omega)) _ | refine Below.alloc ?_ (by first | omega | (simp <;> omega)) _ | refine Below.drew ?_ | refine below_drewN' ?_ _)))))
      | false =>
        have hV := HVF.out rfl
        have HV := Lib.hid hV; clear hV
        go_wp2_with (first
          | (go_at_call 35; (with_reducible refine (HAT.out _).mono ?_); rintro e w7 ⟨rfl, hb_w7⟩; have hB_w7 : Below (w).heap.size (w) w7 := Below.trans (by (repeat (first | exact Below.refl _ _ | assumption | refine Below.setCell ?_ (by first | omega | (simp <;> omega)) _ | refine Below.alloc ?_ (by first | omega | (simp <;> omega)) _ | refine Below.drew ?_ | refine below_drewN' ?_ _))) (hb_w7.mono (by first | omega | (simp <;> omega))); obtain ⟨hc_w7, hf_w7⟩ := bcell hb_w7; have hz_w7 := hb_w7.size; (try simp only [size_drew', size_drewN', World.size_alloc, World.size_setCell] at hz_w7); have hl0_w7 : w.heap.size < w7.heap.size := (by omega); have hm0_w7 : w.heap.size ≤ w7.heap.size := (by omega); have hn0_w7 : ¬ w.heap.size = w7.heap.size := (by omega); have hq0_w7 : ¬ w7.heap.size = w.heap.size := (by omega); have hr0_w7 := fun o => hc_w7 (w.heap.size) o (by (try simp only [size_drew', size_drewN', World.size_alloc, World.size_setCell]); omega); have hg0_w7 := fun o => hf_w7 (w.heap.size) o (by (try simp only [size_drew', size_drewN', World.size_alloc, World.size_setCell]); omega); have hl1_w7 : w.heap.size + 1 < w7.heap.size := (by omega); have hm1_w7 : w.heap.size + 1 ≤ w7.heap.size := (by omega); have hn1_w7 : ¬ w.heap.size + 1 = w7.heap.size := (by omega); have hq1_w7 : ¬ w7.heap.size = w.heap.size + 1 := (by omega); have hr1_w7 := fun o => hc_w7 (w.heap.size + 1) o (by (try simp only [size_drew', size_drewN', World.size_alloc, World.size_setCell]); omega); have hg1_w7 := fun o => hf_w7 (w.heap.size + 1) o (by (try simp only [size_drew', size_drewN', World.size_alloc, World.size_setCell]); omega))
          | (go_at_call 12; (with_reducible refine (HRT.out _).mono ?_); rintro e w8 ⟨rfl, hb_w8⟩; have hB_w8 : Below (w).heap.size (w) w8 := Below.trans (by (repeat (first | exact Below.refl _ _ | assumption | refine Below.setCell ?_ (by first | omega | (simp <;> omega)) _ | refine Below.alloc ?_ (by first | omega | (simp <;> omega)) _ | refine Below.drew ?_ | refine below_drewN' ?_ _))) (hb_w8.mono (by first | omega | (simp <;> omega))); obtain ⟨hc_w8, hf_w8⟩ := bcell hb_w8; have hz_w8 := hb_w8.size; (try simp only [size_drew', size_drewN', World.size_alloc, World.size_setCell] at hz_w8); have hl0_w8 : w.heap.size < w8.heap.size := (by omega); have hm0_w8 : w.heap.size ≤ w8.heap.size := (by omega); have hn0_w8 : ¬ w.heap.size = w8.heap.size := (by omega); have hq0_w8 : ¬ w8.heap.size = w.heap.size := (by omega); have hr0_w8 := fun o => hc_w8 (w.heap.size) o (by (try simp only [size_drew', size_drewN', World.size_alloc, World.size_setCell]); omega); have hg0_w8 := fun o => hf_w8 (w.heap.size) o (by (try simp only [size_drew', size_drewN', World.size_alloc, World.size_setCell]); omega); have hl1_w8 : w.heap.size + 1 < w8.heap.size := (by omega); have hm1_w8 : w.heap.size + 1 ≤ w8.heap.size := (by omega); have hn1_w8 : ¬ w.heap.size + 1 = w8.heap.size := (by omega); have hq1_w8 : ¬ w8.heap.size = w.heap.size + 1 := (by omega); have hr1_w8 := fun o => hc_w8 (w.heap.size + 1) o (by (try simp only [size_drew', size_drewN', World.size_alloc, World.size_setCell]); omega); have hg1_w8 := fun o => hf_w8 (w.heap.size + 1) o (by (try simp only [size_drew', size_drewN', World.size_alloc, World.size_setCell]); omega)))
        (refine bodyPost_ret (v := .tuple #[.agg #[.int .i64 0, .int .i64 0, .bool false, .bool false], .int .i64 14]) (by (simp [results, Tryd.results10, go_sem, hr0_w7, hl0_w7, hm0_w7, hn0_w7, hq0_w7, hr1_w7, hl1_w7, hm1_w7, hn1_w7, hq1_w7, hr0_w8, hl0_w8, hm0_w8, hn0_w8, hq0_w8, hr1_w8, hl1_w8, hm1_w8, hn1_w8, hq1_w8, d0, d1, d2, d3, c0, c1, c2, c3]; done)) rfl (RetB.of HV.out.symm (by (repeat (first | exact Below.refl _ _ | assumption | refine Below.setCell ?_ (by first | omega | (simp <;> omega)) _ | refine Below.alloc ?_ (by first | omega | (simp <;> omega)) _ | refine Below.drew ?_ | refine below_drewN' ?_ _)))))
end Go.Proofs.YtbbeeglfgnabmaaDoor
