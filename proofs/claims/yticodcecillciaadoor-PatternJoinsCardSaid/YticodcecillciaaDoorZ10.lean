/- Patterns in the program: the reader reads a comma. (Printed by gen/mkp19.py.) -/
import Derived.Test.YticodcecillciaaDoorZ9
import Derived.StillTailTactics
import Derived.Test.YticodcecillciaaDoorZ8
import Derived.Lib.DecodeN
namespace Go.Proofs.YticodcecillciaaDoor
set_option linter.all false
open Go.RowKit

theorem quiet0p {f : FuncId} {args : Array Value} {w : World} {n : Nat} {v : Value} (h : Calls Tryd.prog f args (w.drewN n) (Ret0 v (w.drewN n))) : Calls Tryd.prog f args (w.drewN n) fun e w'' => e = .returned v ∧ ∃ m, w'' = w.drewN m :=
  h.mono fun _ _ ⟨he, hm⟩ => ⟨he, n, hm.symm⟩
theorem indexByte_call (l : List UInt8) (c : Int) (w : World) : Calls Tryd.prog 52 #[.string ⟨l.toArray⟩, .int .u8 c] w (Ret0 (.int .i64 (Lib.indexByte l c.toNat.toUInt8)) w) :=
  (Tryd.strings_IndexByte ⟨l.toArray⟩ c w).mono fun e w' ⟨he, hw⟩ => ⟨by rw [he], hw.symm⟩
set_option maxRecDepth 100000 in
theorem digits_at (c : UInt8) : decide (0 ≤ Lib.indexByte [48, 35, 63] c) = Pa.isDigit c.toNat := by
  have key : ∀ n : Fin 256, decide (0 ≤ Lib.indexByte [48, 35, 63] (UInt8.ofNat n.val)) = Pa.isDigit n.val := by decide
  have := key ⟨c.toNat, c.toNat_lt⟩
  simpa using this
theorem index_run (s : ByteArray) (k : Nat) (h : k < s.size) (W : World) : (Instr.index 9 (.string s) (.int .i64 (k : Int))).run Tryd.prog W = .ok (.int .u8 ((s[k].toNat : Nat) : Int)) W := by
  simp [go_sem, h, Tryd.underlying9]

/-- What stands next, as the walk wants it: is it a digit's sign? -/
theorem next_at (s : ByteArray) (k : Nat) (h : k < s.size) : ∃ C I : Int, (∀ W : World, (Instr.index 9 (.string s) (.int .i64 (k : Int))).run Tryd.prog W = .ok (.int .u8 C) W) ∧
    (∀ W : World, Calls Tryd.prog 52 #[.string ⟨#[48, 35, 63]⟩, .int .u8 C] W (Ret0 (.int .i64 I) W)) ∧ decide (0 ≤ I) = Pa.isDigit (Pa.ch s k) := by
  refine ⟨((s[k].toNat : Nat) : Int), _, index_run s k h, fun W => indexByte_call [48, 35, 63] _ W, ?_⟩
  rw [Int.toNat_natCast]
  have e : (s[k].toNat).toUInt8 = s[k] := by simp
  rw [e, digits_at]
  unfold Pa.ch
  rw [dif_pos h]

set_option maxRecDepth 100000 in
set_option maxHeartbeats 4000000 in
theorem rd_comma_shut (y : Lay) (s : ByteArray) (st : Pa.St) (base : Nat) (p : Int) (w : World) (h : RdAt w base y s st) (hp : st.pos ≤ s.size) (hs : s.size ≤ 1000000) (ho : st.opn = false) (hb : base ≤ w.heap.size) :
    Calls Tryd.prog 56 #[.pointer (some ⟨y.R, 0, none⟩), .int .i64 p] w (RdErr w base 12 p) := by
  obtain ⟨R, vS, vF, vis⟩ := y
  have r0 := h.rd.get 0 rfl
  have r1 := h.rd.get 1 rfl
  have r5 := h.rd.get 5 rfl
  simp only [] at r0 r1 r5 ⊢
  obtain ⟨k, hk⟩ : ∃ k, k = st.pos := ⟨_, rfl⟩
  obtain ⟨n, hn⟩ : ∃ n, n = s.size := ⟨_, rfl⟩
  rw [← hk] at r1
  rw [ho] at r5
  clear h
  by_cases hlt : k < n
  · obtain ⟨C, I, h1, h2, h3⟩ := next_at s k (by omega)
    obtain ⟨b, hb3⟩ : ∃ b, decide (0 ≤ I) = b := ⟨_, rfl⟩
    have HC := Lib.hid h2
    have hlt' : ((k : Int) < (s.size : Int)) := by omega
    have hlt2 : k < s.size := by omega
    clear h2 h3 hk hn hp hs ho
    cases b
    all_goals
      go_enter Tryd.func56, Tryd.ntmps56
      go_wp2_with fail
      go_quiet (first | (go_at_call 52; with_reducible exact quiet0p (HC.out _)))
      go_wp2
      exact ⟨rfl, rfl, below_drewN' (Below.refl _ _) _⟩
  · have hlt2 : ¬ k < s.size := by omega
    clear hk hn hp hs ho hlt
    go_enter Tryd.func56, Tryd.ntmps56
    go_wp2_with fail
    go_quiet (fail)
    go_wp2
    exact ⟨rfl, rfl, below_drewN' (Below.refl _ _) _⟩

set_option maxRecDepth 100000 in
set_option maxHeartbeats 4000000 in
theorem rd_comma_twice (y : Lay) (s : ByteArray) (st : Pa.St) (base q : Nat) (w : World) (h : RdAt w base y s st) (hs : s.size ≤ 1000000) (ho : st.opn = true) (hb : base ≤ w.heap.size)
    (hlt0 : st.pos < s.size) (hd : Pa.isDigit (Pa.ch s st.pos) = true) (hq : q < s.size) (h44 : Pa.ch s q = 44) :
    Calls Tryd.prog 56 #[.pointer (some ⟨y.R, 0, none⟩), .int .i64 ((q : Int) + 1)] w (RdErr w base 12 ((q : Int) + 1)) := by
  obtain ⟨R, vS, vF, vis⟩ := y
  have r0 := h.rd.get 0 rfl
  have r1 := h.rd.get 1 rfl
  have r5 := h.rd.get 5 rfl
  simp only [] at r0 r1 r5 ⊢
  obtain ⟨k, hk⟩ : ∃ k, k = st.pos := ⟨_, rfl⟩
  obtain ⟨n, hn⟩ : ∃ n, n = s.size := ⟨_, rfl⟩
  rw [← hk] at r1
  rw [ho] at r5
  clear h
  have hlt2 : k < s.size := by omega
  obtain ⟨C, I, h1, h2, h3⟩ := next_at s k hlt2
  rw [hk, hd] at h3
  have HC := Lib.hid h2
  have hlt' : ((k : Int) < (s.size : Int)) := by omega
  have g1 := index_run s q hq
  have e44 : ((s[q].toNat : Nat) : Int) = 44 := by
    have := h44; unfold Pa.ch at this; rw [dif_pos hq] at this; rw [this]; rfl
  rw [e44] at g1
  have q1 : (0 : Int) ≤ (q : Int) := by omega
  have q2 : (q : Int) ≤ 1000000 := by omega
  obtain ⟨P, hP⟩ : ∃ P : Int, (q : Int) + 1 = P := ⟨_, rfl⟩
  have hP2 : P - 1 = (q : Int) := by omega
  have hP3 : 1 ≤ P ∧ P ≤ 1000001 := by omega
  obtain ⟨hP3, hP4⟩ := hP3
  rw [hP]
  clear h2 hk hn hs ho hd h44 e44 hP hlt0
  go_enter Tryd.func56, Tryd.ntmps56
  go_wp2_with fail
  go_quiet (first | (go_at_call 52; with_reducible exact quiet0p (HC.out _)))
  go_wp2
  exact ⟨rfl, rfl, below_drewN' (Below.refl _ _) _⟩

set_option maxRecDepth 100000 in
set_option maxHeartbeats 4000000 in
theorem rd_comma_group (y : Lay) (s : ByteArray) (st : Pa.St) (base q : Nat) (w : World) (h : RdAt w base y s st) (hs : s.size ≤ 1000000) (ho : st.opn = true) (hb : base ≤ w.heap.size) (h0 : 0 < st.secs.length) (h4 : st.secs.length ≤ 4)
    (hlt0 : st.pos < s.size) (hd : Pa.isDigit (Pa.ch s st.pos) = true) (hq : q < s.size) (h44 : Pa.ch s q ≠ 44) :
    Calls Tryd.prog 56 #[.pointer (some ⟨y.R, 0, none⟩), .int .i64 ((q : Int) + 1)] w (RdOk w base y.R s { st with secs := Pa.onLast st.secs fun x => { x with grouped := true } }) := by
  have hgo := h.secs.get h0
  obtain ⟨R, vS, vF, vis⟩ := y
  obtain ⟨G, cS, e, _, hGl, _, _, hGf⟩ := hgo
  simp only [] at e hGl hGf
  subst e
  have hvl : vis.length = st.secs.length := h.len
  obtain ⟨m, hm⟩ : ∃ m, st.secs.length = m + 1 := ⟨st.secs.length - 1, by omega⟩
  have hm1 : st.secs.length - 1 = m := by omega
  obtain ⟨y0, y1, y2⟩ := secCells_get (l := st.secs) hvl m (by omega)
  clear y0
  have c1 := (h.secs.at' h0).1 _ _ y1
  have c2 := (h.secs.at' h0).1 _ _ y2
  generalize (st.secs[m]'(by omega)).grouped = gg at c1
  obtain ⟨sc, hsc⟩ : ∃ sc, sc = (st.secs[m]'(by omega)).scale := ⟨_, rfl⟩
  rw [← hsc] at c2
  have r0 := h.rd.get 0 rfl
  have r1 := h.rd.get 1 rfl
  have r2 := h.rd.get 2 rfl
  have r5 := h.rd.get 5 rfl
  have hRl := h.rd.lt
  have lowG : base ≤ G := (h.secs.lt (show (Value.slice (some ⟨G, 0, none⟩) st.secs.length cS).ownBlock = some G from rfl)).1
  simp only [] at r0 r1 r2 r5 hRl ⊢
  rw [hm] at r2
  obtain ⟨k, hk⟩ : ∃ k, k = st.pos := ⟨_, rfl⟩
  obtain ⟨n, hn⟩ : ∃ n, n = s.size := ⟨_, rfl⟩
  rw [← hk] at r1
  rw [ho] at r5
  have hsec := fun (W : World) (hW : W.cell? ⟨R, 2, none⟩ = some (.slice (some ⟨G, 0, none⟩) (m + 1) cS)) => rd_section_any R G m cS W hW (by omega)
  have HS := Lib.hid hsec
  have hmk := fun (W : World) (hW : Below w.heap.size w W) => (h.on hW).mark (show (Value.slice (some ⟨G, 0, none⟩) st.secs.length cS).ownBlock = some G from rfl) h0 1 (.bool true) (fun x => { x with grouped := true }) (fun _ => rfl) (.inl ⟨rfl, fun _ _ _ => ⟨rfl, rfl⟩⟩)
  rw [hm1] at hmk
  have HMK := Lib.hid hmk
  have hlt2 : k < s.size := by omega
  obtain ⟨C, I, h1, h2, h3⟩ := next_at s k hlt2
  rw [hk, hd] at h3
  have HC := Lib.hid h2
  have hlt' : ((k : Int) < (s.size : Int)) := by omega
  have g1 := index_run s q hq
  obtain ⟨D, hD⟩ : ∃ D : Int, D = ((s[q].toNat : Nat) : Int) := ⟨_, rfl⟩
  have e44 : (D == 44) = false := beq_eq_false_iff_ne.2 (fun e => h44 (by unfold Pa.ch; rw [dif_pos hq]; omega))
  rw [← hD] at g1
  have q1 : (0 : Int) ≤ (q : Int) := by omega
  have q2 : (q : Int) ≤ 1000000 := by omega
  obtain ⟨P, hP⟩ : ∃ P : Int, (q : Int) + 1 = P := ⟨_, rfl⟩
  have hP2 : P - 1 = (q : Int) := by omega
  have hP3 : 1 ≤ P ∧ P ≤ 1000001 := by omega
  obtain ⟨hP3, hP4⟩ := hP3
  rw [hP]
  have HH0 := Lib.hid h0; have HLG := Lib.hid lowG
  clear hsc y1 y2
  clear h2 hk hn hs ho hd h44 hD hP hlt0 hmk hsec h lowG
  go_enter Tryd.func56, Tryd.ntmps56
  go_wp2_with fail
  go_quiet (first | (go_at_call 52; with_reducible exact quiet0p (HC.out _)))
  go_wp2_with (go_at_call 72; (with_reducible refine (HS.out _ (by simpa using r2)).mono ?_); rintro e w1 ⟨rfl, hb_w1⟩; have hcR := (bcell hb_w1).1 G (m * 3 + 1) hGl; have hfR := (bcell hb_w1).2 G (m * 3 + 1) hGl; have q5 : w1.cell? ⟨G, m * 3 + 1, none⟩ = some (.bool gg) := hcR.trans c1; have q6 : w1.frozen? ⟨G, m * 3 + 1, none⟩ = false := hfR.trans (hGf _); clear hcR hfR; have hB1 : Below w.heap.size w w1 := Below.trans (by (repeat (first | exact Below.refl _ _ | assumption | refine Below.setCell ?_ (by first | omega | (simp <;> omega)) _ | refine Below.alloc ?_ (by first | omega | (simp <;> omega)) _ | refine Below.drew ?_ | refine below_drewN' ?_ _))) (hb_w1.mono (by simp)))
  refine bodyPost_end (results_none rfl _ _ _) rfl ?_
  exact ⟨_, rfl, rfl, HMK.out _ hB1, (hB1.mono hb).setCell (p := ⟨G, m * 3 + 1, none⟩) HLG.out _⟩

set_option maxRecDepth 100000 in
set_option maxHeartbeats 4000000 in
theorem rd_comma_scale (y : Lay) (s : ByteArray) (st : Pa.St) (base : Nat) (p : Int) (w : World) (h : RdAt w base y s st) (hp : st.pos ≤ s.size) (hs : s.size ≤ 1000000) (ho : st.opn = true) (hb : base ≤ w.heap.size) (h0 : 0 < st.secs.length) (h4 : st.secs.length ≤ 4)
    (hd : ¬ (st.pos < s.size ∧ Pa.isDigit (Pa.ch s st.pos) = true)) (hsc0 : ∀ k (hk : k < st.secs.length), 0 ≤ st.secs[k].scale ∧ st.secs[k].scale ≤ 1000000) :
    Calls Tryd.prog 56 #[.pointer (some ⟨y.R, 0, none⟩), .int .i64 p] w (RdOk w base y.R s { st with secs := Pa.onLast st.secs fun x => { x with scale := x.scale + 1 } }) := by
  have hgo := h.secs.get h0
  obtain ⟨R, vS, vF, vis⟩ := y
  obtain ⟨G, cS, e, _, hGl, _, _, hGf⟩ := hgo
  simp only [] at e hGl hGf
  subst e
  have hvl : vis.length = st.secs.length := h.len
  obtain ⟨m, hm⟩ : ∃ m, st.secs.length = m + 1 := ⟨st.secs.length - 1, by omega⟩
  have hm1 : st.secs.length - 1 = m := by omega
  obtain ⟨y0, y1, y2⟩ := secCells_get (l := st.secs) hvl m (by omega)
  clear y0
  have c1 := (h.secs.at' h0).1 _ _ y1
  have c2 := (h.secs.at' h0).1 _ _ y2
  generalize (st.secs[m]'(by omega)).grouped = gg at c1
  obtain ⟨sc, hsc⟩ : ∃ sc, sc = (st.secs[m]'(by omega)).scale := ⟨_, rfl⟩
  rw [← hsc] at c2
  have r0 := h.rd.get 0 rfl
  have r1 := h.rd.get 1 rfl
  have r2 := h.rd.get 2 rfl
  have r5 := h.rd.get 5 rfl
  have hRl := h.rd.lt
  have lowG : base ≤ G := (h.secs.lt (show (Value.slice (some ⟨G, 0, none⟩) st.secs.length cS).ownBlock = some G from rfl)).1
  simp only [] at r0 r1 r2 r5 hRl ⊢
  rw [hm] at r2
  obtain ⟨k, hk⟩ : ∃ k, k = st.pos := ⟨_, rfl⟩
  obtain ⟨n, hn⟩ : ∃ n, n = s.size := ⟨_, rfl⟩
  rw [← hk] at r1
  rw [ho] at r5
  have hsec := fun (W : World) (hW : W.cell? ⟨R, 2, none⟩ = some (.slice (some ⟨G, 0, none⟩) (m + 1) cS)) => rd_section_any R G m cS W hW (by omega)
  have HS := Lib.hid hsec
  have hbd := hsc0 m (by omega)
  rw [← hsc] at hbd
  obtain ⟨z1, z2⟩ := hbd
  have hmk := fun (W : World) (hW : Below w.heap.size w W) => (h.on hW).mark (show (Value.slice (some ⟨G, 0, none⟩) st.secs.length cS).ownBlock = some G from rfl) h0 2 (.int .i64 (sc + 1)) (fun x => { x with scale := x.scale + 1 }) (fun _ => rfl) (.inr ⟨rfl, fun j hj e => ⟨by rw [hsc]; simp only [e, hm1], rfl⟩⟩)
  rw [hm1] at hmk
  have HMK := Lib.hid hmk
  have HLG := Lib.hid lowG
  by_cases hlt : k < n
  · have hlt2 : k < s.size := by omega
    obtain ⟨C, I, h1, h2, h3⟩ := next_at s k hlt2
    have hdf : Pa.isDigit (Pa.ch s k) = false := by
      cases e : Pa.isDigit (Pa.ch s k) with
      | false => rfl
      | true => exact absurd ⟨by omega, by rw [← hk]; exact e⟩ hd
    rw [hdf] at h3
    have HC := Lib.hid h2
    have hlt' : ((k : Int) < (s.size : Int)) := by omega
    clear hsc y1 y2 c1 hsc0 hdf
    clear h2 hk hn hs ho hd hmk hsec h lowG hp hlt
    go_enter Tryd.func56, Tryd.ntmps56
    go_wp2_with fail
    go_quiet (first | (go_at_call 52; with_reducible exact quiet0p (HC.out _)))
    go_wp2_with (go_at_call 72; (with_reducible refine (HS.out _ (by simpa using r2)).mono ?_); rintro e w1 ⟨rfl, hb_w1⟩; have hcR := (bcell hb_w1).1 G (m * 3 + 2) hGl; have hfR := (bcell hb_w1).2 G (m * 3 + 2) hGl; have q5 : w1.cell? ⟨G, m * 3 + 2, none⟩ = some (.int .i64 sc) := hcR.trans c2; have q6 : w1.frozen? ⟨G, m * 3 + 2, none⟩ = false := hfR.trans (hGf _); clear hcR hfR; have hB1 : Below w.heap.size w w1 := Below.trans (by (repeat (first | exact Below.refl _ _ | assumption | refine Below.setCell ?_ (by first | omega | (simp <;> omega)) _ | refine Below.alloc ?_ (by first | omega | (simp <;> omega)) _ | refine Below.drew ?_ | refine below_drewN' ?_ _))) (hb_w1.mono (by simp)))
    refine bodyPost_end (results_none rfl _ _ _) rfl ?_
    exact ⟨_, rfl, rfl, HMK.out _ hB1, (hB1.mono hb).setCell (p := ⟨G, m * 3 + 2, none⟩) HLG.out _⟩
  · have hlt2 : ¬ k < s.size := by omega
    clear hsc y1 y2 c1 hsc0
    clear hk hn hs ho hd hmk hsec h lowG hp hlt
    go_enter Tryd.func56, Tryd.ntmps56
    go_wp2_with fail
    go_quiet (fail)
    go_wp2_with (go_at_call 72; (with_reducible refine (HS.out _ (by simpa using r2)).mono ?_); rintro e w1 ⟨rfl, hb_w1⟩; have hcR := (bcell hb_w1).1 G (m * 3 + 2) hGl; have hfR := (bcell hb_w1).2 G (m * 3 + 2) hGl; have q5 : w1.cell? ⟨G, m * 3 + 2, none⟩ = some (.int .i64 sc) := hcR.trans c2; have q6 : w1.frozen? ⟨G, m * 3 + 2, none⟩ = false := hfR.trans (hGf _); clear hcR hfR; have hB1 : Below w.heap.size w w1 := Below.trans (by (repeat (first | exact Below.refl _ _ | assumption | refine Below.setCell ?_ (by first | omega | (simp <;> omega)) _ | refine Below.alloc ?_ (by first | omega | (simp <;> omega)) _ | refine Below.drew ?_ | refine below_drewN' ?_ _))) (hb_w1.mono (by simp)))
    refine bodyPost_end (results_none rfl _ _ _) rfl ?_
    exact ⟨_, rfl, rfl, HMK.out _ hB1, (hB1.mono hb).setCell (p := ⟨G, m * 3 + 2, none⟩) HLG.out _⟩

end Go.Proofs.YticodcecillciaaDoor

/- Patterns in the program: signs of one byte; what stands for itself. -/
namespace Go.Proofs.YticodcecillciaaDoor
set_option linter.all false
open Go.RowKit

theorem single_any (c : UInt8) (w : World) : Calls Tryd.prog 73 #[.int .u8 ((c.toNat : Nat) : Int)] w (Ret0 (.int .i64 (Pa.single c.toNat)) w) := by
  obtain ⟨k, hk⟩ : ∃ k : Nat, k = c.toNat := ⟨_, rfl⟩
  rw [← hk]
  have h : Pa.single k = if k = 46 then 3 else if k = 37 then 4 else if k = 47 then 6 else if k = 64 then 8 else if k = 36 then 9 else 0 := rfl
  rw [h]
  clear h hk
  by_cases h1 : k = 46
  · subst h1; go_enter Tryd.func73, Tryd.ntmps73; go_wp2; go_ret; exact ⟨rfl, rfl⟩
  by_cases h2 : k = 37
  · subst h2; go_enter Tryd.func73, Tryd.ntmps73; go_wp2; go_ret; exact ⟨rfl, rfl⟩
  by_cases h3 : k = 47
  · subst h3; go_enter Tryd.func73, Tryd.ntmps73; go_wp2; go_ret; exact ⟨rfl, rfl⟩
  by_cases h4 : k = 64
  · subst h4; go_enter Tryd.func73, Tryd.ntmps73; go_wp2; go_ret; exact ⟨rfl, rfl⟩
  by_cases h5 : k = 36
  · subst h5; go_enter Tryd.func73, Tryd.ntmps73; go_wp2; go_ret; exact ⟨rfl, rfl⟩
  rw [if_neg h1, if_neg h2, if_neg h3, if_neg h4, if_neg h5]
  obtain ⟨C, hC⟩ : ∃ C : Int, C = (k : Int) := ⟨_, rfl⟩
  rw [← hC]
  have g1 : (C == 46) = false := beq_eq_false_iff_ne.2 (by omega)
  have g2 : (C == 37) = false := beq_eq_false_iff_ne.2 (by omega)
  have g3 : (C == 47) = false := beq_eq_false_iff_ne.2 (by omega)
  have g4 : (C == 64) = false := beq_eq_false_iff_ne.2 (by omega)
  have g5 : (C == 36) = false := beq_eq_false_iff_ne.2 (by omega)
  clear h1 h2 h3 h4 h5 hC
  go_enter Tryd.func73, Tryd.ntmps73
  go_wp2
  go_ret
  exact ⟨rfl, rfl⟩

set_option maxRecDepth 100000 in
theorem bare_at (c : UInt8) : decide (0 ≤ Lib.indexByte [32, 45, 43, 40, 41, 58] c) = Pa.isBare c.toNat := by
  have key : ∀ n : Fin 256, decide (0 ≤ Lib.indexByte [32, 45, 43, 40, 41, 58] (UInt8.ofNat n.val)) = Pa.isBare n.val := by decide
  have := key ⟨c.toNat, c.toNat_lt⟩
  simpa using this
set_option maxRecDepth 100000 in
theorem signs_at (c : UInt8) : decide (0 ≤ Lib.indexByte [43, 45] c) = (c.toNat == 43 || c.toNat == 45) := by
  have key : ∀ n : Fin 256, decide (0 ≤ Lib.indexByte [43, 45] (UInt8.ofNat n.val)) = (n.val == 43 || n.val == 45) := by decide
  have := key ⟨c.toNat, c.toNat_lt⟩
  simpa using this

/-- What a call of put gives, as the walks want it: both ways of it. -/
def PutR (w : World) (base R : Nat) (s : ByteArray) (r : Pa.M Pa.St) (e : Ending) (w' : World) : Prop := match r with
  | .ok st => RdOk w base R s st e w'
  | .error (c, p) => RdErr w base c p e w'
/-- What holds of a state between two steps. -/
structure Fit (s : ByteArray) (st : Pa.St) : Prop where
  some : 0 < st.secs.length
  four : st.secs.length ≤ 4
  hundred : st.items ≤ 100
  last : ∀ k (h : k < st.secs.length), st.secs[k].items.length ≤ st.items
  pos : st.pos ≤ s.size
  scale : ∀ k (h : k < st.secs.length), 0 ≤ st.secs[k].scale ∧ st.secs[k].scale ≤ 1000000
  begins : st.begins.length ≤ 4
  size : s.size ≤ 1000000
theorem rd_put_any (y : Lay) (s : ByteArray) (st : Pa.St) (base : Nat) (k p : Int) (t : ByteArray) (w : World) (h : RdAt w base y s st) (hb : base ≤ w.heap.size) (hf : Fit s st) :
    Calls Tryd.prog 54 #[.pointer (some ⟨y.R, 0, none⟩), .int .i64 k, .string t, .int .i64 p] w (PutR w base y.R s (Pa.put k t p st)) := by
  by_cases h1 : st.items = 100
  · have e : Pa.put k t p st = .error (5, p) := by unfold Pa.put; rw [if_pos h1]
    rw [e]; exact rd_put_err y s st base k p t w h h1
  · cases e : Pa.put k t p st with
    | error x => exfalso; unfold Pa.put at e; rw [if_neg h1] at e; cases e
    | ok st' => exact rd_put_ok y s st st' base k p t w h hb hf.some hf.four hf.hundred (hf.last _ _) e
end Go.Proofs.YticodcecillciaaDoor

/- Patterns in the program: what stands for itself: signs without a stroke. -/
namespace Go.Proofs.YticodcecillciaaDoor
set_option linter.all false
open Go.RowKit

set_option maxRecDepth 100000 in
set_option maxHeartbeats 4000000 in
theorem rd_other_bare (y : Lay) (s : ByteArray) (st : Pa.St) (base p : Nat) (c : UInt8) (w : World) (h : RdAt w base y s st) (hb : base ≤ w.heap.size) (hf : Fit s st) (hp : st.pos = p + 1) (hc : Pa.isBare c.toNat = true) :
    Calls Tryd.prog 57 #[.pointer (some ⟨y.R, 0, none⟩), .int .u8 ((c.toNat : Nat) : Int), .int .i64 (p : Int)] w (PutR w base y.R s (Pa.put 1 (s.extract p (p + 1)) p st)) := by
  have hps := hf.pos
  have hss := hf.size
  have hput := fun (W : World) (hW : Below w.heap.size w W) => rd_put_any y s st base 1 p (s.extract p (p + 1)) W (h.on hW) (Nat.le_trans hb hW.size) hf
  have hix := fun W => indexByte_call [32, 45, 43, 40, 41, 58] ((c.toNat : Nat) : Int) W
  rw [Int.toNat_natCast, show (c.toNat).toUInt8 = c by simp] at hix
  have hI := bare_at c
  rw [hc] at hI
  generalize Lib.indexByte [32, 45, 43, 40, 41, 58] c = I at hix hI
  generalize ((c.toNat : Nat) : Int) = C at *
  have hsl : ∀ W : World, (Instr.slice 9 (.string s) (some (.int .i64 (p : Int))) (some (.int .i64 ((p : Int) + 1))) none).run Tryd.prog W = .ok (.string (s.extract p (p + 1))) W := fun W => by
    rw [run_slice_string_if W _ s .i64 .i64 _ _ Tryd.underlying9, if_pos (by omega), if_pos (by omega), Int.toNat_natCast, show ((p : Int) + 1).toNat = p + 1 by omega]
  generalize s.extract p (p + 1) = T at hput hsl ⊢
  obtain ⟨R, vS, vF, vis⟩ := y
  have r0 := h.rd.get 0 rfl
  have r1 := h.rd.get 1 rfl
  have hRl := h.rd.lt
  simp only [] at r0 r1 hRl hput ⊢
  rw [hp] at r1
  obtain ⟨P, hP⟩ : ∃ P : Int, P = (p : Int) := ⟨_, rfl⟩
  obtain ⟨Q, hQ⟩ : ∃ P : Int, P = (p : Int) + 1 := ⟨_, rfl⟩
  rw [show ((p + 1 : Nat) : Int) = Q by rw [hQ]; rfl] at r1
  rw [← hQ, ← hP] at hsl
  rw [← hP] at hput ⊢
  have HIX := Lib.hid hix
  cases e : Pa.put 1 T P st with
  | ok st' =>
    rw [e] at hput
    have hpos : st'.pos = p + 1 := by
      unfold Pa.put at e; split at e
      · cases e
      · injection e with e; rw [← e]; exact hp
    have HPUT := Lib.hid hput; have HPOS := Lib.hid hpos; have HQ := Lib.hid hQ
    clear hix hput hpos hP hQ hc hf hp e hps hss h
    show Calls _ _ _ _ (RdOk w base R s st')
    go_enter Tryd.func57, Tryd.ntmps57
    go_wp2_with (go_at_call 52; (with_reducible refine (HIX.out _).mono ?_); rintro e w' ⟨rfl, rfl⟩)
    go_region_held3 (fun w' => w'.cell? ⟨R, 0, none⟩ = some (.string s) ∧ w'.cell? ⟨R, 1, none⟩ = some (.int .i64 Q)) (first | go_keep | (exact ⟨q0, q1⟩) | (refine ⟨?_, ?_⟩ <;> (first | (go_simp; done) | (simp [go_sem, *]; done))))
      (first | (go_at_call 54; (with_reducible refine (HPUT.out _ (by (repeat (first | exact Below.refl _ _ | assumption | refine Below.setCell ?_ (by first | omega | (simp <;> omega)) _ | refine Below.alloc ?_ (by first | omega | (simp <;> omega)) _ | refine Below.drew ?_ | refine below_drewN' ?_ _)))).mono ?_); rintro e w5 ⟨y', rfl, hy, hR', hB'⟩; have q0 : w5.cell? ⟨R, 0, none⟩ = some (.string s) := (by have := hR'.rd.get 0 rfl; rw [hy] at this; exact this); have q1 : w5.cell? ⟨R, 1, none⟩ = some (.int .i64 Q) := (by have := hR'.rd.get 1 rfl; rw [hy, HPOS.out] at this; rw [HQ.out]; exact this); have HR' := Lib.hid hR'; clear hR'))
    all_goals
      (try go_wp2)
      (first | go_end0 | refine bodyPost_ret (results_none rfl _ _ _) rfl ?_)
      exact ⟨y', rfl, hy, HR'.out, Below.trans (by (repeat (first | exact Below.refl _ _ | assumption | refine Below.setCell ?_ (by first | omega | (simp <;> omega)) _ | refine Below.alloc ?_ (by first | omega | (simp <;> omega)) _ | refine Below.drew ?_ | refine below_drewN' ?_ _))) hB'⟩
  | error x =>
    obtain ⟨xc, xp⟩ := x
    rw [e] at hput
    have HPUT := Lib.hid hput; have HQ := Lib.hid hQ
    clear hix hput hP hQ hc hf hp e hps hss h
    show Calls _ _ _ _ (RdErr w base xc xp)
    go_enter Tryd.func57, Tryd.ntmps57
    go_wp2_with (go_at_call 52; (with_reducible refine (HIX.out _).mono ?_); rintro e w' ⟨rfl, rfl⟩)
    go_still_tail 12, (by kernel_rfl)
    change wpList _ _ _ _ _ w.drew
    go_wp2_with (go_at_call 54; (with_reducible refine (HPUT.out _ (by (repeat (first | exact Below.refl _ _ | assumption | refine Below.setCell ?_ (by first | omega | (simp <;> omega)) _ | refine Below.alloc ?_ (by first | omega | (simp <;> omega)) _ | refine Below.drew ?_ | refine below_drewN' ?_ _)))).mono ?_); rintro e w5 ⟨rfl, hB'⟩)
    exact ⟨rfl, rfl, Below.trans (by (repeat (first | exact Below.refl _ _ | assumption | refine Below.setCell ?_ (by first | omega | (simp <;> omega)) _ | refine Below.alloc ?_ (by first | omega | (simp <;> omega)) _ | refine Below.drew ?_ | refine below_drewN' ?_ _))) hB'⟩
end Go.Proofs.YticodcecillciaaDoor

/- Patterns in the program: what stands for itself: signs of one byte. -/
namespace Go.Proofs.YticodcecillciaaDoor
set_option linter.all false
open Go.RowKit

set_option maxRecDepth 100000 in
set_option maxHeartbeats 4000000 in
theorem rd_other_single (y : Lay) (s : ByteArray) (st : Pa.St) (base p : Nat) (c : UInt8) (w : World) (h : RdAt w base y s st) (hb : base ≤ w.heap.size) (hf : Fit s st) (hc : Pa.isBare c.toNat = false) (hk : 0 < Pa.single c.toNat) :
    Calls Tryd.prog 57 #[.pointer (some ⟨y.R, 0, none⟩), .int .u8 ((c.toNat : Nat) : Int), .int .i64 (p : Int)] w (PutR w base y.R s (Pa.put (Pa.single c.toNat) (Pa.ba []) p st)) := by
  have hput := fun (W : World) (hW : Below w.heap.size w W) => rd_put_any y s st base (Pa.single c.toNat) p (Pa.ba []) W (h.on hW) (Nat.le_trans hb hW.size) hf
  have hix := fun W => indexByte_call [32, 45, 43, 40, 41, 58] ((c.toNat : Nat) : Int) W
  rw [Int.toNat_natCast, show (c.toNat).toUInt8 = c by simp] at hix
  have hsg := fun W => single_any c W
  have hI := bare_at c
  rw [hc] at hI
  generalize Lib.indexByte [32, 45, 43, 40, 41, 58] c = I at hix hI
  generalize Pa.single c.toNat = K at *
  generalize ((c.toNat : Nat) : Int) = C at *
  unfold Pa.ba at hput ⊢
  have HIX := Lib.hid hix; have HSG := Lib.hid hsg
  have hK : decide (0 < K) = true := decide_eq_true hk
  cases e : Pa.put K ⟨[].toArray⟩ p st with
  | ok st' =>
    rw [e] at hput
    have HPUT := Lib.hid hput
    clear hix hput hsg hc hf e h hk
    show Calls _ _ _ _ (RdOk w base y.R s st')
    go_enter Tryd.func57, Tryd.ntmps57
    go_wp2_with (first
      | (go_at_call 52; (with_reducible refine (HIX.out _).mono ?_); rintro e w' ⟨rfl, rfl⟩)
      | (go_at_call 73; (with_reducible refine (HSG.out _).mono ?_); rintro e w' ⟨rfl, rfl⟩)
      | (go_at_call 54; (with_reducible refine (HPUT.out _ (by (repeat (first | exact Below.refl _ _ | assumption | refine Below.setCell ?_ (by first | omega | (simp <;> omega)) _ | refine Below.alloc ?_ (by first | omega | (simp <;> omega)) _ | refine Below.drew ?_ | refine below_drewN' ?_ _)))).mono ?_); rintro e w5 ⟨y', rfl, hy, hR', hB'⟩; have HR' := Lib.hid hR'; clear hR'))
    (first | go_end0 | refine bodyPost_ret (results_none rfl _ _ _) rfl ?_)
    exact ⟨y', rfl, hy, HR'.out, Below.trans (by (repeat (first | exact Below.refl _ _ | assumption | refine Below.setCell ?_ (by first | omega | (simp <;> omega)) _ | refine Below.alloc ?_ (by first | omega | (simp <;> omega)) _ | refine Below.drew ?_ | refine below_drewN' ?_ _))) hB'⟩
  | error x =>
    obtain ⟨xc, xp⟩ := x
    rw [e] at hput
    have HPUT := Lib.hid hput
    clear hix hput hsg hc hf e h hk
    show Calls _ _ _ _ (RdErr w base xc xp)
    go_enter Tryd.func57, Tryd.ntmps57
    go_wp2_with (first
      | (go_at_call 52; (with_reducible refine (HIX.out _).mono ?_); rintro e w' ⟨rfl, rfl⟩)
      | (go_at_call 73; (with_reducible refine (HSG.out _).mono ?_); rintro e w' ⟨rfl, rfl⟩)
      | (go_at_call 54; (with_reducible refine (HPUT.out _ (by (repeat (first | exact Below.refl _ _ | assumption | refine Below.setCell ?_ (by first | omega | (simp <;> omega)) _ | refine Below.alloc ?_ (by first | omega | (simp <;> omega)) _ | refine Below.drew ?_ | refine below_drewN' ?_ _)))).mono ?_); rintro e w5 ⟨rfl, hB'⟩))
    exact ⟨rfl, rfl, Below.trans (by (repeat (first | exact Below.refl _ _ | assumption | refine Below.setCell ?_ (by first | omega | (simp <;> omega)) _ | refine Below.alloc ?_ (by first | omega | (simp <;> omega)) _ | refine Below.drew ?_ | refine below_drewN' ?_ _))) hB'⟩
end Go.Proofs.YticodcecillciaaDoor

/- Patterns in the program: what stands for itself: the word General. -/
namespace Go.Proofs.YticodcecillciaaDoor
set_option linter.all false
open Go.RowKit

theorem hasPrefix_call (a b : ByteArray) (w : World) : Calls Tryd.prog 66 #[.string a, .string b] w (Ret0 (.bool (Lib.hasPrefix a.data.toList b.data.toList)) w) :=
  (Tryd.strings_HasPrefix a b w).mono fun e w' ⟨he, hw⟩ => ⟨by rw [he], hw.symm⟩

set_option maxRecDepth 100000 in
set_option maxHeartbeats 4000000 in
theorem rd_other_general (y : Lay) (s : ByteArray) (st : Pa.St) (base p : Nat) (c : UInt8) (w : World) (h : RdAt w base y s st) (hb : base ≤ w.heap.size) (hf : Fit s { st with pos := p + 7 }) (hc : Pa.isBare c.toNat = false) (hk : Pa.single c.toNat = 0)
    (hg : Lib.hasPrefix (s.extract p s.size).data.toList Pa.general.data.toList = true) :
    Calls Tryd.prog 57 #[.pointer (some ⟨y.R, 0, none⟩), .int .u8 ((c.toNat : Nat) : Int), .int .i64 (p : Int)] w (PutR w base y.R s (Pa.put 7 (Pa.ba []) p { st with pos := p + 7 })) := by
  have hps := hf.pos
  have hss := hf.size
  have hps : p + 7 ≤ s.size := hps
  have hput := rd_put_any y s { st with pos := p + 7 } base 7 p (Pa.ba []) (w.setCell ⟨y.R, 1, none⟩ (.int .i64 ((p + 7 : Nat) : Int))) (h.pos (p + 7)) (by rw [World.size_setCell]; exact hb) hf
  have hix := fun W => indexByte_call [32, 45, 43, 40, 41, 58] ((c.toNat : Nat) : Int) W
  rw [Int.toNat_natCast, show (c.toNat).toUInt8 = c by simp] at hix
  have hsg := fun W => single_any c W
  rw [hk] at hsg
  have hI := bare_at c
  rw [hc] at hI
  have hsl : ∀ W : World, (Instr.slice 9 (.string s) (some (.int .i64 (p : Int))) none none).run Tryd.prog W = .ok (.string (s.extract p s.size)) W := fun W => by
    rw [run_slice_string_from_if W _ s .i64 _ Tryd.underlying9, if_pos (by omega), Int.toNat_natCast]
  have hhp := fun W => hasPrefix_call (s.extract p s.size) Pa.general W
  rw [hg] at hhp
  unfold Pa.general at hhp
  generalize s.extract p s.size = T at hsl hhp
  generalize Lib.indexByte [32, 45, 43, 40, 41, 58] c = I at hix hI
  generalize ((c.toNat : Nat) : Int) = C at *
  unfold Pa.ba at hput hhp ⊢
  have lowR := h.low
  have r0 := h.rd.get 0 rfl
  have r1 := h.rd.get 1 rfl
  have fr := h.rd.frozen 1
  obtain ⟨R, vS, vF, vis⟩ := y
  simp only [] at r0 r1 fr lowR hput ⊢
  obtain ⟨P, hP⟩ : ∃ P : Int, P = (p : Int) := ⟨_, rfl⟩
  obtain ⟨Q, hQ⟩ : ∃ P : Int, P = ((p + 7 : Nat) : Int) := ⟨_, rfl⟩
  rw [← hQ, ← hP] at hput
  rw [← hP] at hsl ⊢
  have e1 : P + 7 = Q := by omega
  have b1 : 0 ≤ P ∧ P ≤ 1000000 := by omega
  obtain ⟨b1, b1'⟩ := b1
  have HIX := Lib.hid hix; have HSG := Lib.hid hsg; have HHP := Lib.hid hhp; have HLR := Lib.hid lowR; have HPUT := Lib.hid hput
  clear hix hput hsg hc hf h hk hg hhp hps hss hP hQ lowR
  cases e : Pa.put 7 ⟨[].toArray⟩ P { st with pos := p + 7 } with
  | ok st' =>
    rw [e] at HPUT
    clear e
    show Calls _ _ _ _ (RdOk w base R s st')
    go_enter Tryd.func57, Tryd.ntmps57
    go_wp2_with (first
      | (go_at_call 52; (with_reducible refine (HIX.out _).mono ?_); rintro e w' ⟨rfl, rfl⟩)
      | (go_at_call 73; (with_reducible refine (HSG.out _).mono ?_); rintro e w' ⟨rfl, rfl⟩)
      | (go_at_call 66; (with_reducible refine (HHP.out _).mono ?_); rintro e w' ⟨rfl, rfl⟩)
      | (go_at_call 54; (with_reducible refine (HPUT.out).mono ?_); rintro e w5 ⟨y', rfl, hy, hR', hB'⟩; have HR' := Lib.hid hR'; clear hR'))
    (first | go_end0 | refine bodyPost_ret (results_none rfl _ _ _) rfl ?_)
    exact ⟨y', rfl, hy, HR'.out, Below.trans ((Below.refl _ _).setCell (p := ⟨R, 1, none⟩) HLR.out _) hB'⟩
  | error x =>
    obtain ⟨xc, xp⟩ := x
    rw [e] at HPUT
    clear e
    show Calls _ _ _ _ (RdErr w base xc xp)
    go_enter Tryd.func57, Tryd.ntmps57
    go_wp2_with (first
      | (go_at_call 52; (with_reducible refine (HIX.out _).mono ?_); rintro e w' ⟨rfl, rfl⟩)
      | (go_at_call 73; (with_reducible refine (HSG.out _).mono ?_); rintro e w' ⟨rfl, rfl⟩)
      | (go_at_call 66; (with_reducible refine (HHP.out _).mono ?_); rintro e w' ⟨rfl, rfl⟩)
      | (go_at_call 54; (with_reducible refine (HPUT.out).mono ?_); rintro e w5 ⟨rfl, hB'⟩))
    exact ⟨rfl, rfl, Below.trans ((Below.refl _ _).setCell (p := ⟨R, 1, none⟩) HLR.out _) hB'⟩
end Go.Proofs.YticodcecillciaaDoor

/- Patterns in the program: what stands for itself: the exponent; what is none of all these. -/
namespace Go.Proofs.YticodcecillciaaDoor
set_option linter.all false
open Go.RowKit

theorem sign_next (s : ByteArray) (k : Nat) (h : k < s.size) : ∃ C I : Int, (∀ W : World, (Instr.index 9 (.string s) (.int .i64 (k : Int))).run Tryd.prog W = .ok (.int .u8 C) W) ∧
    (∀ W : World, Calls Tryd.prog 52 #[.string ⟨#[43, 45]⟩, .int .u8 C] W (Ret0 (.int .i64 I) W)) ∧ decide (0 ≤ I) = (Pa.ch s k == 43 || Pa.ch s k == 45) := by
  refine ⟨((s[k].toNat : Nat) : Int), _, index_run s k h, fun W => indexByte_call [43, 45] _ W, ?_⟩
  rw [Int.toNat_natCast]
  have e : (s[k].toNat).toUInt8 = s[k] := by simp
  rw [e, signs_at]
  unfold Pa.ch
  rw [dif_pos h]

set_option maxRecDepth 100000 in
set_option maxHeartbeats 4000000 in
theorem rd_other_exp (y : Lay) (s : ByteArray) (st : Pa.St) (base p : Nat) (c : UInt8) (w : World) (h : RdAt w base y s st) (hb : base ≤ w.heap.size) (hp : st.pos = p + 1) (hf : Fit s { st with pos := p + 2 }) (hc : c.toNat = 69 ∨ c.toNat = 101)
    (hg : Lib.hasPrefix (s.extract p s.size).data.toList Pa.general.data.toList = false) (hn : Pa.ch s (p + 1) = 43 ∨ Pa.ch s (p + 1) = 45) :
    Calls Tryd.prog 57 #[.pointer (some ⟨y.R, 0, none⟩), .int .u8 ((c.toNat : Nat) : Int), .int .i64 (p : Int)] w (PutR w base y.R s (Pa.put 5 (s.extract (p + 1) (p + 2)) p { st with pos := p + 2 })) := by
  have hss := hf.size
  have hps : p + 2 ≤ s.size := hf.pos
  have hput := fun (nq : Nat) => rd_put_any y s { st with pos := p + 2 } base 5 p (s.extract (p + 1) (p + 2)) (((w.drewN nq).setCell ⟨y.R, 1, none⟩ (.int .i64 ((p + 2 : Nat) : Int))).drew) (((h.on (below_drewN' (Below.refl _ _) nq)).pos (p + 2)).on ((Below.refl _ _).drew)) (by simpa using hb) hf
  have hix := fun W => indexByte_call [32, 45, 43, 40, 41, 58] ((c.toNat : Nat) : Int) W
  rw [Int.toNat_natCast, show (c.toNat).toUInt8 = c by simp] at hix
  have hsg := fun W => single_any c W
  have hI := bare_at c
  rw [show Pa.isBare c.toNat = false by rcases hc with e | e <;> (rw [e]; rfl)] at hI
  rw [show Pa.single c.toNat = 0 by rcases hc with e | e <;> (rw [e]; rfl)] at hsg
  have hsl : ∀ W : World, (Instr.slice 9 (.string s) (some (.int .i64 (p : Int))) none none).run Tryd.prog W = .ok (.string (s.extract p s.size)) W := fun W => by
    rw [run_slice_string_from_if W _ s .i64 _ Tryd.underlying9, if_pos (by omega), Int.toNat_natCast]
  have hsl2 : ∀ W : World, (Instr.slice 9 (.string s) (some (.int .i64 ((p + 1 : Nat) : Int))) (some (.int .i64 ((p + 2 : Nat) : Int))) none).run Tryd.prog W = .ok (.string (s.extract (p + 1) (p + 2))) W := fun W => by
    rw [run_slice_string_if W _ s .i64 .i64 _ _ Tryd.underlying9, if_pos (by omega), if_pos (by omega), Int.toNat_natCast, Int.toNat_natCast]
  have hhp := fun W => hasPrefix_call (s.extract p s.size) Pa.general W
  rw [hg] at hhp
  unfold Pa.general at hhp
  obtain ⟨C2, I2, x1, x2, x3⟩ := sign_next s (p + 1) (by omega)
  rw [show (Pa.ch s (p + 1) == 43 || Pa.ch s (p + 1) == 45) = true by rcases hn with e | e <;> (rw [e]; rfl)] at x3
  have hT2 : s.extract (((p + 1 : Nat) : Int)).toNat (((p + 2 : Nat) : Int)).toNat = s.extract (p + 1) (p + 2) := by rw [Int.toNat_natCast, Int.toNat_natCast]
  generalize s.extract p s.size = T at hsl hhp
  generalize s.extract (p + 1) (p + 2) = T2 at hsl2 hput hT2 ⊢
  generalize Lib.indexByte [32, 45, 43, 40, 41, 58] c = I at hix hI
  have hC : ((c.toNat : Nat) : Int) = 69 ∨ ((c.toNat : Nat) : Int) = 101 := by omega
  generalize ((c.toNat : Nat) : Int) = C at *
  unfold Pa.ba at hhp
  have lowR := h.low
  have r0 := h.rd.get 0 rfl
  have r1 := h.rd.get 1 rfl
  have fr := h.rd.frozen 1
  have hRl := h.rd.lt
  obtain ⟨R, vS, vF, vis⟩ := y
  simp only [] at r0 r1 fr lowR hRl hput ⊢
  rw [hp] at r1
  have e9 : ((p + 1 : Nat) : Int) < (s.size : Int) := by omega
  obtain ⟨P, hP⟩ : ∃ P : Int, P = (p : Int) := ⟨_, rfl⟩
  obtain ⟨Q, hQ⟩ : ∃ P : Int, P = ((p + 1 : Nat) : Int) := ⟨_, rfl⟩
  obtain ⟨Z, hZ⟩ : ∃ P : Int, P = ((p + 2 : Nat) : Int) := ⟨_, rfl⟩
  rw [← hZ, ← hP] at hput
  rw [← hP] at hsl ⊢
  rw [← hQ] at r1 x1 e9
  rw [← hQ, ← hZ] at hsl2 hT2
  have e1 : P + 1 = Q := by omega
  have e2 : Q + 1 = Z := by omega
  have b1 : 0 ≤ P ∧ P ≤ 1000000 := by omega
  have b2 : 0 ≤ Q ∧ Q ≤ 1000000 := by omega
  obtain ⟨b1, b1'⟩ := b1
  obtain ⟨b2, b2'⟩ := b2
  have z0 : 0 ≤ Z := by omega
  have z1 : Z ≤ (s.size : Int) := by omega
  have z2 : Q ≤ Z := by omega
  have z3 : IntKind.i64.wrap Q = Q := IntWalk.i64_in _ (by omega)
  have HIX := Lib.hid hix; have HSG := Lib.hid hsg; have HHP := Lib.hid hhp; have HLR := Lib.hid lowR; have HPUT := Lib.hid hput; have HX2 := Lib.hid x2
  clear hix hput hsg hc hf h hg hhp hps hss hP hQ hZ lowR hn hp x2
  cases e : Pa.put 5 T2 P { st with pos := p + 2 } with
  | ok st' =>
    rw [e] at HPUT
    clear e
    show Calls _ _ _ _ (RdOk w base R s st')
    rcases hC with rfl | rfl
    all_goals
      go_enter Tryd.func57, Tryd.ntmps57
      go_wp2_with (first
        | (go_at_call 52; (with_reducible refine (HIX.out _).mono ?_); rintro e w' ⟨rfl, rfl⟩)
        | (go_at_call 73; (with_reducible refine (HSG.out _).mono ?_); rintro e w' ⟨rfl, rfl⟩)
        | (go_at_call 66; (with_reducible refine (HHP.out _).mono ?_); rintro e w' ⟨rfl, rfl⟩))
      go_quiet (first | (go_at_call 52; with_reducible exact quiet0p (HX2.out _)))
      go_wp2_with fail
      refine wp_region_still_tail 13 (by kernel_rfl) (by kernel_rfl) ?_
      simp only [List.take_succ_cons, List.take_zero, List.drop_succ_cons, List.drop_zero]
      change wpStill _ _ (World.drew _) _ _ _
      repeat still_step
      try refine wpStill_nil ?_
      change wpList _ _ _ _ _ (World.drew _)
      go_wp2_with (go_at_call 54; (with_reducible refine (HPUT.out _).mono ?_); rintro e w5 ⟨y', rfl, hy, hR', hB'⟩; have HR' := Lib.hid hR'; clear hR')
      (first | go_end0 | refine bodyPost_ret (results_none rfl _ _ _) rfl ?_)
      exact ⟨y', rfl, hy, HR'.out, Below.trans ((below_drewN' (Below.refl _ _) _).setCell (p := ⟨R, 1, none⟩) HLR.out _).drew hB'⟩
  | error x =>
    obtain ⟨xc, xp⟩ := x
    rw [e] at HPUT
    clear e
    show Calls _ _ _ _ (RdErr w base xc xp)
    rcases hC with rfl | rfl
    all_goals
      go_enter Tryd.func57, Tryd.ntmps57
      go_wp2_with (first
        | (go_at_call 52; (with_reducible refine (HIX.out _).mono ?_); rintro e w' ⟨rfl, rfl⟩)
        | (go_at_call 73; (with_reducible refine (HSG.out _).mono ?_); rintro e w' ⟨rfl, rfl⟩)
        | (go_at_call 66; (with_reducible refine (HHP.out _).mono ?_); rintro e w' ⟨rfl, rfl⟩))
      go_quiet (first | (go_at_call 52; with_reducible exact quiet0p (HX2.out _)))
      go_wp2_with fail
      refine wp_region_still_tail 13 (by kernel_rfl) (by kernel_rfl) ?_
      simp only [List.take_succ_cons, List.take_zero, List.drop_succ_cons, List.drop_zero]
      change wpStill _ _ (World.drew _) _ _ _
      repeat still_step
      try refine wpStill_nil ?_
      change wpList _ _ _ _ _ (World.drew _)
      go_wp2_with (go_at_call 54; (with_reducible refine (HPUT.out _).mono ?_); rintro e w5 ⟨rfl, hB'⟩)
      exact ⟨rfl, rfl, Below.trans ((below_drewN' (Below.refl _ _) _).setCell (p := ⟨R, 1, none⟩) HLR.out _).drew hB'⟩
end Go.Proofs.YticodcecillciaaDoor

/- Patterns in the program: what stands for itself: what is none of all these. -/
namespace Go.Proofs.YticodcecillciaaDoor
set_option linter.all false
open Go.RowKit

set_option maxRecDepth 100000 in
set_option maxHeartbeats 4000000 in
theorem rd_other_none (y : Lay) (s : ByteArray) (st : Pa.St) (base p : Nat) (c : UInt8) (w : World) (h : RdAt w base y s st) (hb : base ≤ w.heap.size) (hp : st.pos = p + 1) (hps : p + 1 ≤ s.size) (hss : s.size ≤ 1000000) (hb0 : Pa.isBare c.toNat = false) (hk : Pa.single c.toNat = 0)
    (hg : Lib.hasPrefix (s.extract p s.size).data.toList Pa.general.data.toList = false) (hc : c.toNat ≠ 69 ∧ c.toNat ≠ 101) :
    Calls Tryd.prog 57 #[.pointer (some ⟨y.R, 0, none⟩), .int .u8 ((c.toNat : Nat) : Int), .int .i64 (p : Int)] w (RdErr w base 12 (p : Int)) := by
  have hix := fun W => indexByte_call [32, 45, 43, 40, 41, 58] ((c.toNat : Nat) : Int) W
  rw [Int.toNat_natCast, show (c.toNat).toUInt8 = c by simp] at hix
  have hsg := fun W => single_any c W
  have hI := bare_at c
  rw [hb0] at hI
  rw [hk] at hsg
  have hsl : ∀ W : World, (Instr.slice 9 (.string s) (some (.int .i64 (p : Int))) none none).run Tryd.prog W = .ok (.string (s.extract p s.size)) W := fun W => by
    rw [run_slice_string_from_if W _ s .i64 _ Tryd.underlying9, if_pos (by omega), Int.toNat_natCast]
  have hhp := fun W => hasPrefix_call (s.extract p s.size) Pa.general W
  rw [hg] at hhp
  unfold Pa.general at hhp
  generalize s.extract p s.size = T at hsl hhp
  generalize Lib.indexByte [32, 45, 43, 40, 41, 58] c = I at hix hI
  have hC : (((c.toNat : Nat) : Int) == 69) = false ∧ (((c.toNat : Nat) : Int) == 101) = false := by constructor <;> (rw [beq_eq_false_iff_ne]; omega)
  generalize ((c.toNat : Nat) : Int) = C at *
  unfold Pa.ba at hhp
  have r0 := h.rd.get 0 rfl
  have r1 := h.rd.get 1 rfl
  obtain ⟨R, vS, vF, vis⟩ := y
  simp only [] at r0 r1 ⊢
  obtain ⟨hC1, hC2⟩ := hC
  obtain ⟨P, hP⟩ : ∃ P : Int, P = (p : Int) := ⟨_, rfl⟩
  rw [← hP] at hsl ⊢
  have b1 : 0 ≤ P ∧ P ≤ 1000000 := by omega
  obtain ⟨b1, b1'⟩ := b1
  have HIX := Lib.hid hix; have HSG := Lib.hid hsg; have HHP := Lib.hid hhp; have HB := Lib.hid hb
  clear hix hsg hc h hg hhp hps hss hP hp hb0 hk hb
  go_enter Tryd.func57, Tryd.ntmps57
  go_wp2_with (first
    | (go_at_call 52; (with_reducible refine (HIX.out _).mono ?_); rintro e w' ⟨rfl, rfl⟩)
    | (go_at_call 73; (with_reducible refine (HSG.out _).mono ?_); rintro e w' ⟨rfl, rfl⟩)
    | (go_at_call 66; (with_reducible refine (HHP.out _).mono ?_); rintro e w' ⟨rfl, rfl⟩))
  go_quiet (fail)
  go_wp2_with (fail)
  exact ⟨rfl, rfl, below_drewN' (Below.refl _ _) _⟩
end Go.Proofs.YticodcecillciaaDoor

/- Patterns in the program: what stands for itself: E and e without a sign. -/
namespace Go.Proofs.YticodcecillciaaDoor
set_option linter.all false
open Go.RowKit

set_option maxRecDepth 100000 in
set_option maxHeartbeats 4000000 in
theorem rd_other_end (y : Lay) (s : ByteArray) (st : Pa.St) (base p : Nat) (c : UInt8) (w : World) (h : RdAt w base y s st) (hb : base ≤ w.heap.size) (hp : st.pos = p + 1) (hps : p + 1 = s.size) (hss : s.size ≤ 1000000) (hb0 : Pa.isBare c.toNat = false) (hk : Pa.single c.toNat = 0)
    (hg : Lib.hasPrefix (s.extract p s.size).data.toList Pa.general.data.toList = false) (hc : c.toNat = 69 ∨ c.toNat = 101) :
    Calls Tryd.prog 57 #[.pointer (some ⟨y.R, 0, none⟩), .int .u8 ((c.toNat : Nat) : Int), .int .i64 (p : Int)] w (RdErr w base 12 (p : Int)) := by
  have hix := fun W => indexByte_call [32, 45, 43, 40, 41, 58] ((c.toNat : Nat) : Int) W
  rw [Int.toNat_natCast, show (c.toNat).toUInt8 = c by simp] at hix
  have hsg := fun W => single_any c W
  have hI := bare_at c
  rw [hb0] at hI
  rw [hk] at hsg
  have hsl : ∀ W : World, (Instr.slice 9 (.string s) (some (.int .i64 (p : Int))) none none).run Tryd.prog W = .ok (.string (s.extract p s.size)) W := fun W => by
    rw [run_slice_string_from_if W _ s .i64 _ Tryd.underlying9, if_pos (by omega), Int.toNat_natCast]
  have hhp := fun W => hasPrefix_call (s.extract p s.size) Pa.general W
  rw [hg] at hhp
  unfold Pa.general at hhp
  generalize s.extract p s.size = T at hsl hhp
  generalize Lib.indexByte [32, 45, 43, 40, 41, 58] c = I at hix hI
  have hC : ((c.toNat : Nat) : Int) = 69 ∨ ((c.toNat : Nat) : Int) = 101 := by omega
  generalize ((c.toNat : Nat) : Int) = C at *
  unfold Pa.ba at hhp
  have r0 := h.rd.get 0 rfl
  have r1 := h.rd.get 1 rfl
  obtain ⟨R, vS, vF, vis⟩ := y
  simp only [] at r0 r1 ⊢
  rw [hp] at r1
  have e9 : decide (((p + 1 : Nat) : Int) < (s.size : Int)) = false := by rw [decide_eq_false_iff_not]; omega
  obtain ⟨Q, hQ⟩ : ∃ P : Int, P = ((p + 1 : Nat) : Int) := ⟨_, rfl⟩
  rw [← hQ] at r1 e9
  have b2 : 0 ≤ Q ∧ Q ≤ 1000000 := by omega
  obtain ⟨b2, b2'⟩ := b2
  obtain ⟨P, hP⟩ : ∃ P : Int, P = (p : Int) := ⟨_, rfl⟩
  rw [← hP] at hsl ⊢
  have b1 : 0 ≤ P ∧ P ≤ 1000000 := by omega
  obtain ⟨b1, b1'⟩ := b1
  have HIX := Lib.hid hix; have HSG := Lib.hid hsg; have HHP := Lib.hid hhp; have HB := Lib.hid hb
  clear hix hsg hc h hg hhp hps hss hP hQ hp hb0 hk hb
  rcases hC with rfl | rfl
  all_goals
    go_enter Tryd.func57, Tryd.ntmps57
    go_wp2_with (first
      | (go_at_call 52; (with_reducible refine (HIX.out _).mono ?_); rintro e w' ⟨rfl, rfl⟩)
      | (go_at_call 73; (with_reducible refine (HSG.out _).mono ?_); rintro e w' ⟨rfl, rfl⟩)
      | (go_at_call 66; (with_reducible refine (HHP.out _).mono ?_); rintro e w' ⟨rfl, rfl⟩))
    go_quiet (fail)
    go_wp2_with (fail)
    exact ⟨rfl, rfl, below_drewN' (Below.refl _ _) _⟩


set_option maxRecDepth 100000 in
set_option maxHeartbeats 4000000 in
theorem rd_other_nosign (y : Lay) (s : ByteArray) (st : Pa.St) (base p : Nat) (c : UInt8) (w : World) (h : RdAt w base y s st) (hb : base ≤ w.heap.size) (hp : st.pos = p + 1) (hps : p + 1 < s.size) (hss : s.size ≤ 1000000) (hb0 : Pa.isBare c.toNat = false) (hk : Pa.single c.toNat = 0)
    (hg : Lib.hasPrefix (s.extract p s.size).data.toList Pa.general.data.toList = false) (hc : c.toNat = 69 ∨ c.toNat = 101) (hn : ¬ (Pa.ch s (p + 1) = 43 ∨ Pa.ch s (p + 1) = 45)) :
    Calls Tryd.prog 57 #[.pointer (some ⟨y.R, 0, none⟩), .int .u8 ((c.toNat : Nat) : Int), .int .i64 (p : Int)] w (RdErr w base 12 (p : Int)) := by
  have hix := fun W => indexByte_call [32, 45, 43, 40, 41, 58] ((c.toNat : Nat) : Int) W
  rw [Int.toNat_natCast, show (c.toNat).toUInt8 = c by simp] at hix
  have hsg := fun W => single_any c W
  have hI := bare_at c
  rw [hb0] at hI
  rw [hk] at hsg
  have hsl : ∀ W : World, (Instr.slice 9 (.string s) (some (.int .i64 (p : Int))) none none).run Tryd.prog W = .ok (.string (s.extract p s.size)) W := fun W => by
    rw [run_slice_string_from_if W _ s .i64 _ Tryd.underlying9, if_pos (by omega), Int.toNat_natCast]
  have hhp := fun W => hasPrefix_call (s.extract p s.size) Pa.general W
  rw [hg] at hhp
  unfold Pa.general at hhp
  obtain ⟨C2, I2, x1, x2, x3⟩ := sign_next s (p + 1) (by omega)
  rw [show (Pa.ch s (p + 1) == 43 || Pa.ch s (p + 1) == 45) = false by rw [Bool.or_eq_false_iff, beq_eq_false_iff_ne, beq_eq_false_iff_ne]; exact not_or.mp hn] at x3
  generalize s.extract p s.size = T at hsl hhp
  generalize Lib.indexByte [32, 45, 43, 40, 41, 58] c = I at hix hI
  have hC : ((c.toNat : Nat) : Int) = 69 ∨ ((c.toNat : Nat) : Int) = 101 := by omega
  generalize ((c.toNat : Nat) : Int) = C at *
  unfold Pa.ba at hhp
  have r0 := h.rd.get 0 rfl
  have r1 := h.rd.get 1 rfl
  obtain ⟨R, vS, vF, vis⟩ := y
  simp only [] at r0 r1 ⊢
  rw [hp] at r1
  have e9 : ((p + 1 : Nat) : Int) < (s.size : Int) := by omega
  obtain ⟨Q, hQ⟩ : ∃ P : Int, P = ((p + 1 : Nat) : Int) := ⟨_, rfl⟩
  rw [← hQ] at r1 x1 e9
  have b2 : 0 ≤ Q ∧ Q ≤ 1000000 := by omega
  obtain ⟨b2, b2'⟩ := b2
  obtain ⟨P, hP⟩ : ∃ P : Int, P = (p : Int) := ⟨_, rfl⟩
  rw [← hP] at hsl ⊢
  have b1 : 0 ≤ P ∧ P ≤ 1000000 := by omega
  obtain ⟨b1, b1'⟩ := b1
  have HIX := Lib.hid hix; have HSG := Lib.hid hsg; have HHP := Lib.hid hhp; have HB := Lib.hid hb; have HX2 := Lib.hid x2
  clear x2 hn hix hsg hc h hg hhp hps hss hP hQ hp hb0 hk hb
  rcases hC with rfl | rfl
  all_goals
    go_enter Tryd.func57, Tryd.ntmps57
    go_wp2_with (first
      | (go_at_call 52; (with_reducible refine (HIX.out _).mono ?_); rintro e w' ⟨rfl, rfl⟩)
      | (go_at_call 73; (with_reducible refine (HSG.out _).mono ?_); rintro e w' ⟨rfl, rfl⟩)
      | (go_at_call 66; (with_reducible refine (HHP.out _).mono ?_); rintro e w' ⟨rfl, rfl⟩))
    go_quiet (first | (go_at_call 52; with_reducible exact quiet0p (HX2.out _)))
    go_wp2_with (fail)
    exact ⟨rfl, rfl, below_drewN' (Below.refl _ _) _⟩

end Go.Proofs.YticodcecillciaaDoor

/- Patterns in the program: what stands for itself, whole. -/
namespace Go.Proofs.YticodcecillciaaDoor
set_option linter.all false
open Go.RowKit

theorem Fit.at (s : ByteArray) (st : Pa.St) (h : Fit s st) (n : Nat) (hn : n ≤ s.size) : Fit s { st with pos := n } :=
  ⟨h.some, h.four, h.hundred, h.last, hn, h.scale, h.begins, h.size⟩

theorem general_fits (s : ByteArray) (p : Nat) (hp : p ≤ s.size) (h : Lib.hasPrefix (s.extract p s.size).data.toList Pa.general.data.toList = true) : p + 7 ≤ s.size := by
  have e := hp
  unfold Lib.hasPrefix at h
  have := (List.isPrefixOf_iff_prefix.mp h).length_le
  simp only [Array.length_toList, ByteArray.size_data, ByteArray.size_extract] at this
  have g : Pa.general.size = 7 := rfl
  omega

theorem single_range (c : Nat) : Pa.single c = 0 ∨ 0 < Pa.single c := by
  unfold Pa.single
  repeat' split
  all_goals omega

theorem rd_other_any (y : Lay) (s : ByteArray) (st : Pa.St) (base p : Nat) (c : UInt8) (w : World) (h : RdAt w base y s st) (hb : base ≤ w.heap.size) (hf : Fit s st) (hp : st.pos = p + 1) :
    Calls Tryd.prog 57 #[.pointer (some ⟨y.R, 0, none⟩), .int .u8 ((c.toNat : Nat) : Int), .int .i64 (p : Int)] w (PutR w base y.R s (Pa.other s c.toNat p st)) := by
  have hps : p + 1 ≤ s.size := hp ▸ hf.pos
  unfold Pa.other
  cases hbr : Pa.isBare c.toNat with
  | true => rw [if_pos rfl]; exact rd_other_bare y s st base p c w h hb hf hp hbr
  | false =>
    rw [if_neg (by simp)]
    rcases single_range c.toNat with hk | hk
    · rw [if_neg (by omega)]
      cases hg : Lib.hasPrefix (s.extract p s.size).data.toList Pa.general.data.toList with
      | true =>
        rw [if_pos rfl]
        exact rd_other_general y s st base p c w h hb (hf.at _ _ _ (general_fits s p (by omega) hg)) hbr hk hg
      | false =>
        rw [if_neg (by simp)]
        by_cases hc : c.toNat = 69 ∨ c.toNat = 101
        · by_cases he : p + 1 < s.size
          · by_cases hn : Pa.ch s (p + 1) = 43 ∨ Pa.ch s (p + 1) = 45
            · rw [if_pos ⟨hc, he, hn⟩]
              exact rd_other_exp y s st base p c w h hb hp (hf.at _ _ _ he) hc hg hn
            · rw [if_neg fun x => hn x.2.2]
              exact rd_other_nosign y s st base p c w h hb hp he hf.size hbr hk hg hc hn
          · rw [if_neg fun x => he x.2.1]
            exact rd_other_end y s st base p c w h hb hp (by omega) hf.size hbr hk hg hc
        · rw [if_neg fun x => hc x.1]
          exact rd_other_none y s st base p c w h hb hp hps hf.size hbr hk hg (not_or.mp hc)
    · rw [if_pos hk]; exact rd_other_single y s st base p c w h hb hf hbr hk
end Go.Proofs.YticodcecillciaaDoor

/- Plain Lean: what holds of the reader's state between two steps; a rune's length and bytes, place for place. -/
namespace Go.Proofs.YticodcecillciaaDoor
set_option linter.all false
open Go.RowKit

namespace Pa
/-- A rune at a place: by the four bytes that stand there. -/
def dec (s : ByteArray) (p : Nat) : Nat × Nat := Lib.decodeN (s.size - p) (ch s p) (ch s (p + 1)) (ch s (p + 2)) (ch s (p + 3))
theorem get_ch (s : ByteArray) (i : Nat) : (s.get! i).toNat = ch s i := by
  unfold ch
  by_cases h : i < s.size
  · rw [dif_pos h]
    cases s with
    | mk d => exact congrArg UInt8.toNat (getElem!_pos d i h)
  · rw [dif_neg h]
    cases s with
    | mk d => exact congrArg UInt8.toNat (getElem!_neg d i h)
theorem ch_ext (s : ByteArray) (p i : Nat) : ch (s.extract p s.size) i = ch s (p + i) := by
  unfold ch
  by_cases h : p + i < s.size
  · rw [dif_pos h, dif_pos (by rw [ByteArray.size_extract]; omega)]
    congr 1
    exact ByteArray.getElem_extract _
  · rw [dif_neg h, dif_neg (by rw [ByteArray.size_extract]; omega)]
theorem dec_eq (s : ByteArray) (p : Nat) (h : p < s.size) : Lib.decodeGo (s.extract p s.size) = dec s p := by
  unfold Lib.decodeGo dec
  rw [if_neg (by rw [ByteArray.size_extract]; omega), Lib.decode_at]
  simp only [get_ch, ch_ext, ByteArray.size_extract, Nat.add_zero, Nat.zero_add, Nat.sub_zero, Nat.min_self]
theorem dec_none (s : ByteArray) (p : Nat) (h : ¬ p < s.size) : Lib.decodeGo (s.extract p s.size) = (65533, 0) := by
  unfold Lib.decodeGo
  rw [if_pos (by rw [ByteArray.size_extract]; omega)]
theorem decN_pos (n a b c d : Nat) : 1 ≤ (Lib.decodeN n a b c d).2 := Lib.decodeN_ge1 n a b c d
theorem decN_cont (n a b c d : Nat) : (1 < (Lib.decodeN n a b c d).2 → 1 < n ∧ b / 64 = 2) ∧ (2 < (Lib.decodeN n a b c d).2 → 2 < n ∧ c / 64 = 2) ∧ (3 < (Lib.decodeN n a b c d).2 → 3 < n ∧ d / 64 = 2) ∧ (Lib.decodeN n a b c d).2 ≤ 4 := by
  unfold Lib.decodeN
  repeat' split
  all_goals simp_all
theorem dec_le (s : ByteArray) (p : Nat) (h : p < s.size) : p + (dec s p).2 ≤ s.size := by
  obtain ⟨h1, h2, h3, h4⟩ := decN_cont (s.size - p) (ch s p) (ch s (p + 1)) (ch s (p + 2)) (ch s (p + 3))
  unfold dec
  generalize (Lib.decodeN (s.size - p) (ch s p) (ch s (p + 1)) (ch s (p + 2)) (ch s (p + 3))).2 = k at *
  by_cases e3 : 3 < k
  · have := h3 e3; omega
  by_cases e2 : 2 < k
  · have := h2 e2; omega
  by_cases e1 : 1 < k
  · have := h1 e1; omega
  omega
theorem dec_cont (s : ByteArray) (p i : Nat) (h0 : 0 < i) (h : i < (dec s p).2) : ch s (p + i) / 64 = 2 := by
  obtain ⟨h1, h2, h3, h4⟩ := decN_cont (s.size - p) (ch s p) (ch s (p + 1)) (ch s (p + 2)) (ch s (p + 3))
  unfold dec at h
  have : i = 1 ∨ i = 2 ∨ i = 3 := by omega
  rcases this with rfl | rfl | rfl
  · exact (h1 h).2
  · exact (h2 h).2
  · exact (h3 h).2
/-- No byte below 128 stands within a rune. -/
theorem dec_stop (s : ByteArray) (p q : Nat) (h : p < q) (hq : ch s q < 128) : p + (dec s p).2 ≤ q := by
  by_cases e : q - p < (dec s p).2
  · have := dec_cont s p (q - p) (by omega) e
    rw [show p + (q - p) = q by omega] at this
    omega
  · omega
end Pa

theorem index_ch (s : ByteArray) (k : Nat) (h : k < s.size) (W : World) : (Instr.index 9 (.string s) (.int .i64 (k : Int))).run Tryd.prog W = .ok (.int .u8 ((Pa.ch s k : Nat) : Int)) W := by
  rw [index_run s k h W]
  unfold Pa.ch
  rw [dif_pos h]

/-- What holds of a state between two steps, whole. -/
structure Ok (s : ByteArray) (st : Pa.St) : Prop where
  fit : Fit s st
  eq : st.begins.length = st.secs.length
  sc : ∀ k (h : k < st.secs.length), st.secs[k].scale ≤ st.pos
  op : st.opn = true → 0 < st.pos

theorem Ok.mk' {s : ByteArray} {st : Pa.St} (h0 : 0 < st.secs.length) (h4 : st.secs.length ≤ 4) (hi : st.items ≤ 100) (hl : ∀ k (h : k < st.secs.length), st.secs[k].items.length ≤ st.items)
    (hp : st.pos ≤ s.size) (hs : s.size ≤ 1000000) (he : st.begins.length = st.secs.length) (hc : ∀ k (h : k < st.secs.length), 0 ≤ st.secs[k].scale ∧ st.secs[k].scale ≤ st.pos) (ho : st.opn = true → 0 < st.pos) : Ok s st :=
  ⟨⟨h0, h4, hi, hl, hp, fun k h => ⟨(hc k h).1, by have := (hc k h).2; omega⟩, by omega, hs⟩, he, fun k h => (hc k h).2, ho⟩
theorem Ok.at {s : ByteArray} {st : Pa.St} (h : Ok s st) (n : Nat) (h1 : st.pos ≤ n) (h2 : n ≤ s.size) : Ok s { st with pos := n } :=
  Ok.mk' h.fit.some h.fit.four h.fit.hundred h.fit.last h2 h.fit.size h.eq (fun k hk => ⟨(h.fit.scale k hk).1, by have := h.sc k hk; simp only; omega⟩) (fun ho => by have := h.op ho; simp only; omega)
theorem Ok.opn {s : ByteArray} {st : Pa.St} (h : Ok s st) (b : Bool) (hp : 0 < st.pos) : Ok s { st with opn := b } :=
  Ok.mk' h.fit.some h.fit.four h.fit.hundred h.fit.last h.fit.pos h.fit.size h.eq (fun k hk => ⟨(h.fit.scale k hk).1, h.sc k hk⟩) (fun _ => hp)
theorem Ok.put {s : ByteArray} {st st' : Pa.St} (h : Ok s st) (hp : 0 < st.pos) {k p : Int} {t : ByteArray} (e : Pa.put k t p st = .ok st') : Ok s st' ∧ st'.pos = st.pos := by
  unfold Pa.put at e
  split at e
  · cases e
  rename_i hne
  injection e with e
  subst e
  refine ⟨Ok.mk' (by rw [onLast_len]; exact h.fit.some) (by rw [onLast_len]; exact h.fit.four) (by have := h.fit.hundred; simp only; omega) (fun j hj => ?_) h.fit.pos h.fit.size (by rw [onLast_len]; exact h.eq) (fun j hj => ?_) (fun _ => hp), rfl⟩
  · rw [onLast_len] at hj
    rw [onLast_get st.secs _ j hj]
    have := h.fit.last j hj
    split
    · simp only [List.length_append, List.length_cons, List.length_nil]; omega
    · simp only; omega
  · rw [onLast_len] at hj
    rw [onLast_get st.secs _ j hj]
    have h1 := h.fit.scale j hj
    have h2 := h.sc j hj
    split
    · exact ⟨h1.1, h2⟩
    · exact ⟨h1.1, h2⟩
theorem Ok.beg {s : ByteArray} {st st' : Pa.St} (h : Ok s st) (e : Pa.beg st = .ok st') : Ok s st' ∧ st'.pos = st.pos := by
  unfold Pa.beg at e
  split at e
  · cases e
  rename_i hne
  injection e with e
  subst e
  have h4 := h.fit.four
  refine ⟨Ok.mk' (by simp) (by simp; omega) h.fit.hundred (fun j hj => ?_) h.fit.pos h.fit.size (by simp [h.eq]) (fun j hj => ?_) (fun ho => by cases ho), rfl⟩
  · simp only [List.length_append, List.length_cons, List.length_nil] at hj
    by_cases e : j < st.secs.length
    · simp only [List.getElem_append_left e]; exact h.fit.last j e
    · obtain rfl : j = st.secs.length := by omega
      simp
  · simp only [List.length_append, List.length_cons, List.length_nil] at hj
    by_cases e : j < st.secs.length
    · simp only [List.getElem_append_left e]; exact ⟨(h.fit.scale j e).1, h.sc j e⟩
    · obtain rfl : j = st.secs.length := by omega
      simp
theorem rune_inv {s : ByteArray} {st : Pa.St} {p : Int} {x : ByteArray × Pa.St} (e : Pa.rune s p st = .ok x) : st.pos < s.size ∧ x = (s.extract st.pos (st.pos + (Pa.dec s st.pos).2), { st with pos := st.pos + (Pa.dec s st.pos).2 }) ∧ st.pos + (Pa.dec s st.pos).2 ≤ s.size ∧ ¬ ((Pa.dec s st.pos).1 = 65533 ∧ (Pa.dec s st.pos).2 = 1) := by
  unfold Pa.rune at e
  by_cases h : st.pos < s.size
  · rw [Pa.dec_eq s _ h] at e
    simp only at e
    split at e
    · cases e
    rename_i hne
    injection e with e
    exact ⟨h, e.symm, Pa.dec_le s _ h, fun hh => hne (.inr hh)⟩
  · rw [Pa.dec_none s _ h] at e
    simp at e
theorem Ok.rune {s : ByteArray} {st : Pa.St} (h : Ok s st) {p : Int} {x : ByteArray × Pa.St} (e : Pa.rune s p st = .ok x) : Ok s x.2 ∧ st.pos < x.2.pos := by
  obtain ⟨h1, rfl, h2, _⟩ := rune_inv e
  have := Pa.decN_pos (s.size - st.pos) (Pa.ch s st.pos) (Pa.ch s (st.pos + 1)) (Pa.ch s (st.pos + 2)) (Pa.ch s (st.pos + 3))
  exact ⟨h.at _ (by omega) h2, by unfold Pa.dec; simp only; omega⟩
theorem Ok.comma {s : ByteArray} {st st' : Pa.St} {p : Nat} (h : Ok s { st with pos := p }) (hp : st.pos = p + 1) (hs : p + 1 ≤ s.size) (e : Pa.comma s p st = .ok st') : Ok s st' ∧ st'.pos = st.pos := by
  unfold Pa.comma at e
  simp only at e
  split at e
  · cases e
  split at e
  all_goals
    injection e with e
    subst e
    refine ⟨Ok.mk' (by rw [onLast_len]; exact h.fit.some) (by rw [onLast_len]; exact h.fit.four) h.fit.hundred (fun j hj => ?_) (by simp only; omega) h.fit.size (by rw [onLast_len]; exact h.eq) (fun j hj => ?_) (fun _ => by simp only; omega), rfl⟩
    · rw [onLast_len] at hj
      rw [onLast_get st.secs _ j hj]
      have := h.fit.last j hj
      split <;> exact this
    · rw [onLast_len] at hj
      rw [onLast_get st.secs _ j hj]
      have h1 := (h.fit.scale j hj).1
      have h2 := h.sc j hj
      simp only at h1 h2
      split <;> (simp only; omega)
theorem bind_inv {α β : Type} {x : Pa.M α} {f : α → Pa.M β} {b : β} (h : x.bind f = .ok b) : ∃ a, x = .ok a ∧ f a = .ok b := Pa.M.bind_ok h
theorem Ok.quoted {s : ByteArray} {p : Nat} {stop : Nat} (hq : Pa.ch s stop < 128) : ∀ (f : Nat) {st st' : Pa.St}, Ok s st → 0 < st.pos → st.pos ≤ stop → stop < st.pos + f → Pa.quoted s p stop f st = .ok st' → Ok s st' ∧ st'.pos = stop
  | 0, st, st', h, h0, h1, h2, e => by omega
  | f + 1, st, st', h, h0, h1, h2, e => by
    unfold Pa.quoted at e
    split at e
    · rename_i hlt
      obtain ⟨x, e1, e⟩ := bind_inv e
      obtain ⟨a, e2, e3⟩ := bind_inv e
      obtain ⟨k1, k2⟩ := h.rune e1
      obtain ⟨k3, k4⟩ := k1.put (by omega) e2
      obtain ⟨_, rfl, _, _⟩ := rune_inv e1
      have k5 := Pa.dec_stop s st.pos stop hlt hq
      simp only at k2 k4
      exact Ok.quoted hq f k3 (by omega) (by omega) (by omega) e3
    · injection e with e
      subst e
      exact ⟨h, by omega⟩
theorem Ok.other {s : ByteArray} {c p : Nat} {st st' : Pa.St} (h : Ok s st) (hp : st.pos = p + 1) (e : Pa.other s c p st = .ok st') : Ok s st' ∧ st.pos ≤ st'.pos := by
  have hps := h.fit.pos
  unfold Pa.other at e
  split at e
  · obtain ⟨a, b⟩ := h.put (by omega) e; exact ⟨a, by omega⟩
  split at e
  · obtain ⟨a, b⟩ := h.put (by omega) e; exact ⟨a, by omega⟩
  split at e
  · rename_i hg
    have := general_fits s p (by omega) hg
    obtain ⟨a, b⟩ := (h.at (p + 7) (by omega) this).put (by simp only; omega) e
    exact ⟨a, by simp only at b; omega⟩
  split at e
  · rename_i hg
    obtain ⟨a, b⟩ := (h.at (p + 2) (by omega) (by omega)).put (by simp only; omega) e
    exact ⟨a, by simp only at b; omega⟩
  · cases e
theorem ch_list (s : ByteArray) (p k : Nat) (c : UInt8) (h : (s.extract p s.size).data.toList[k]? = some c) : p + k < s.size ∧ Pa.ch s (p + k) = c.toNat := by
  obtain ⟨h1, h2⟩ := List.getElem?_eq_some_iff.1 h
  have h3 : p + k < s.size := by
    simp only [Array.length_toList, ByteArray.size_data, ByteArray.size_extract] at h1
    omega
  refine ⟨h3, ?_⟩
  have h4 : k < (s.extract p s.size).size := by rw [ByteArray.size_extract]; omega
  have := Pa.ch_ext s p k
  rw [← this]
  unfold Pa.ch
  rw [dif_pos h4]
  congr 1
/-- Where a quoted text ends. -/
theorem quote_stop {s : ByteArray} {p : Nat} {c : UInt8} (h : ¬ Lib.indexByte (s.extract p s.size).data.toList c < 0) :
    p + (Lib.indexByte (s.extract p s.size).data.toList c).toNat < s.size ∧ Pa.ch s (p + (Lib.indexByte (s.extract p s.size).data.toList c).toNat) = c.toNat := by
  obtain ⟨k, hk⟩ : ∃ k : Nat, Lib.indexByte (s.extract p s.size).data.toList c = k := ⟨_, (Int.toNat_of_nonneg (by omega)).symm⟩
  have := (Lib.indexByte_some hk).1
  rw [hk, Int.toNat_natCast]
  exact ch_list s p k c this
theorem Ok.one {s : ByteArray} {st st' : Pa.St} (h : Ok s st) (hp : st.pos < s.size) (e : Pa.one s st = .ok st') : Ok s st' ∧ st.pos < st'.pos := by
  have h1 := h.at (st.pos + 1) (by omega) (by omega)
  unfold Pa.one at e
  simp only at e
  split at e
  · obtain ⟨a, b⟩ := h1.beg e; exact ⟨a, by simp only at b; omega⟩
  split at e
  · split at e
    · cases e
    rename_i hn
    rw [not_or] at hn
    obtain ⟨q1, q2⟩ := quote_stop hn.1
    obtain ⟨x, e1, e2⟩ := bind_inv e
    obtain ⟨a, b⟩ := Ok.quoted (by rw [q2]; decide) _ (h1.opn false (by simp only; omega)) (by simp only; omega) (by simp only; omega) (by simp only; omega) e1
    injection e2 with e2
    subst e2
    exact ⟨a.at _ (by omega) (by omega), by simp only; omega⟩
  split at e
  · obtain ⟨x, e1, e2⟩ := bind_inv e
    obtain ⟨a, b⟩ := h1.rune e1
    obtain ⟨a2, b2⟩ := a.put (by omega) e2
    exact ⟨a2, by simp only at b; omega⟩
  split at e
  · obtain ⟨x, e1, e2⟩ := bind_inv e
    obtain ⟨a, b⟩ := h1.rune e1
    obtain ⟨a2, b2⟩ := a.put (by omega) e2
    exact ⟨a2, by simp only at b; omega⟩
  split at e
  · obtain ⟨a, b⟩ := Ok.comma (st := { st with pos := st.pos + 1 }) (p := st.pos) h rfl (by omega) e
    exact ⟨a, by simp only at b; omega⟩
  split at e
  · obtain ⟨a, b⟩ := h1.put (by simp only; omega) e
    exact ⟨a, by simp only at b; omega⟩
  · obtain ⟨a, b⟩ := h1.other rfl e
    exact ⟨a, by simp only at b; omega⟩
end Go.Proofs.YticodcecillciaaDoor
