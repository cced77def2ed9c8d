/- Patterns in the document: a number's shape. (Printed by gen/mkd6.py.) -/
import Derived.Test.YticodcecillciaaDoorZ12
import Derived.Test.YticodcecillciaaDoorZ11
namespace Go.Proofs.YticodcecillciaaDoor
set_option linter.all false
open Go.RowKit

theorem r_mid {w : World} {B n c k j : Nat} {a : Option Addr} {l : List Pa.It} (h : ItsAt w B (.slice a n c) l) (hj : j ≤ k) (hk : k ≤ l.length) (J K : Int) (hJ : J = j) (hK : K = k) :
    ∃ v1, (∀ W : World, (Instr.slice 34 (.slice a n c) (some (.int .i64 J)) (some (.int .i64 K)) none).run Tryd.prog W = .ok v1 W) ∧ ItsAt w B v1 ((l.take k).drop j) := by
  subst hJ hK
  obtain ⟨a', c', e, hc⟩ := h.form
  cases e
  refine ⟨sliced a j k c 2, fun W => ?_, (h.take hk).drop (k := j) (by rw [List.length_take]; omega)⟩
  rw [run_slice_lh _ _ _ _ _ ritemsU _ _ _ _ (by omega) (by omega) (by omega), ritemsZ]; rfl

/-- A struct handed in lies in a block of its own; calls leave it. -/
def Bx (w W : World) (g : Bool) (sc : Int) : Prop := w.heap.size < W.heap.size ∧ W.cell? ⟨w.heap.size, 1, none⟩ = some (.bool g) ∧ W.cell? ⟨w.heap.size, 2, none⟩ = some (.int .i64 sc)
theorem box_call {f : FuncId} {args : Array Value} {w W : World} {v : Value} {g : Bool} {sc : Int} (h : Calls Tryd.prog f args W (RetB v W)) (hx : Bx w W g sc) : Calls Tryd.prog f args W (fun e W' => RetB v W e W' ∧ Bx w W' g sc) :=
  h.mono fun e W' hh => ⟨hh, Nat.lt_of_lt_of_le hx.1 hh.2.size, (hh.2.cell (p := ⟨w.heap.size, 1, none⟩) hx.1).trans hx.2.1, (hh.2.cell (p := ⟨w.heap.size, 2, none⟩) hx.1).trans hx.2.2⟩

set_option maxRecDepth 100000 in
set_option maxHeartbeats 8000000 in
theorem r_number_any (vi : Value) (s : Pa.Sec) (B : Nat) (w : World) (h : ItsAt w B vi s.items) (hB : B ≤ w.heap.size) (hl : s.items.length ≤ 1000000) :
    Calls Tryd.prog 28 #[secV vi s] w (RetB (.int .i64 (Pa.dNumber s)) w) := by
  obtain ⟨r, hr⟩ : ∃ r, r = Pa.dNumber s := ⟨_, rfl⟩
  rw [← hr]
  obtain ⟨l, g, sc⟩ := s
  unfold secV
  simp only [] at h hl ⊢
  obtain ⟨a, c, rfl, hc⟩ := h.form
  have hE0 := cutAt_le [3, 5, 6] l
  have hX0 := cutAt_le [5] l
  have hEX : Pa.headN l ≤ Pa.cutAt [5] l := by rw [Pa.headN_min]; omega
  change Pa.headN l ≤ l.length at hE0
  have hend := fun (W : World) (hW : Below w.heap.size w W) => r_end_any _ l B W (h.below hW hB) (Nat.le_trans hB hW.size) hl
  have hat := fun (W : World) (hW : Below w.heap.size w W) => r_at_any _ l 5 B W (h.below hW hB) (Nat.le_trans hB hW.size) hl
  have hbe := fun (W : World) (hW : Below w.heap.size w W) => r_beside_any _ l B W (h.below hW hB) (Nat.le_trans hB hW.size) hl
  obtain ⟨E, hE⟩ : ∃ E : Int, E = ((Pa.headN l : Nat) : Int) := ⟨_, rfl⟩
  obtain ⟨X, hX⟩ : ∃ E : Int, E = ((Pa.cutAt [5] l : Nat) : Int) := ⟨_, rfl⟩
  obtain ⟨⟨v1, s1, t1⟩, _⟩ := r_cut h hE0 E hE
  obtain ⟨v2, s2, t2⟩ := r_mid h hEX hX0 E X hE hX
  obtain ⟨⟨v4, s4, t4⟩, ⟨v3, s3, t3⟩⟩ := r_cut h hX0 X hX
  have hC2 := fun (W : World) (hW : Below w.heap.size w W) => r_count_any _ l 2 B W (h.below hW hB) (Nat.le_trans hB hW.size) hl
  have hC3 := fun (W : World) (hW : Below w.heap.size w W) => r_count_any _ l 3 B W (h.below hW hB) (Nat.le_trans hB hW.size) hl
  have hC4 := fun (W : World) (hW : Below w.heap.size w W) => r_count_any _ l 4 B W (h.below hW hB) (Nat.le_trans hB hW.size) hl
  have hC5 := fun (W : World) (hW : Below w.heap.size w W) => r_count_any _ l 5 B W (h.below hW hB) (Nat.le_trans hB hW.size) hl
  have hA := fun (W : World) (hW : Below w.heap.size w W) => r_count_any v1 _ 2 B W (t1.below hW hB) (Nat.le_trans hB hW.size) (by simp only [List.length_take, List.length_drop]; omega)
  have hPl := fun (W : World) (hW : Below w.heap.size w W) => r_count_any v2 _ 2 B W (t2.below hW hB) (Nat.le_trans hB hW.size) (by simp only [List.length_take, List.length_drop]; omega)
  have hZ := fun (W : World) (hW : Below w.heap.size w W) => r_count_any v3 _ 2 B W (t3.below hW hB) (Nat.le_trans hB hW.size) (by simp only [List.length_take, List.length_drop]; omega)
  have hZ3 := fun (W : World) (hW : Below w.heap.size w W) => r_count_any v3 _ 3 B W (t3.below hW hB) (Nat.le_trans hB hW.size) (by simp only [List.length_take, List.length_drop]; omega)
  have hT := fun (W : World) (hW : Below w.heap.size w W) => r_count_any v4 _ 2 B W (t4.below hW hB) (Nat.le_trans hB hW.size) (by simp only [List.length_take, List.length_drop]; omega)
  have hr2 : r = if ((Pa.cnt 2 l : Nat) : Int) = 0 ∨ (1 : Int) < (Pa.cnt 3 l : Nat) ∨ (1 : Int) < (Pa.cnt 4 l : Nat) ∨ (1 : Int) < (Pa.cnt 5 l : Nat) ∨ (30 : Int) < (Pa.cnt 2 (l.take (Pa.headN l)) : Nat) ∨ (30 : Int) < (Pa.cnt 2 ((l.take (Pa.cutAt [5] l)).drop (Pa.headN l)) : Nat) then 0
      else if X < (l.length : Int) then
        if ((Pa.cnt 2 (l.take (Pa.cutAt [5] l)) : Nat) : Int) = 0 ∨ ((Pa.cnt 2 (l.drop (Pa.cutAt [5] l)) : Nat) : Int) < 1 ∨ (4 : Int) < (Pa.cnt 2 (l.drop (Pa.cutAt [5] l)) : Nat) ∨ (0 : Int) < (Pa.cnt 3 (l.drop (Pa.cutAt [5] l)) : Nat) ∨ g = true ∨ sc ≠ 0 then 0 else 3
      else if (g = true ∧ decide (0 ≤ Pa.pair l) = false) ∨ sc < 0 ∨ 9 < sc ∨ (0 < sc ∧ ((Pa.cnt 2 (l.take (Pa.headN l)) : Nat) : Int) = 0) then 0 else 2 := by
    rw [hr, hX]
    unfold Pa.dNumber
    simp only
    refine if_cond ?_ rfl (if_cond ?_ (if_cond ?_ rfl rfl) (if_cond ?_ rfl rfl))
    · omega
    · omega
    · constructor
      · rintro (h | h | h | h | h | h) <;> first | (exact .inr (.inr (.inr (.inr (.inr h))))) | (exact .inr (.inr (.inr (.inr (.inl h))))) | omega
      · rintro (h | h | h | h | h | h) <;> first | (exact .inr (.inr (.inr (.inr (.inr h))))) | (exact .inr (.inr (.inr (.inr (.inl h))))) | omega
    · rw [decide_eq_false_iff_not]
      constructor
      · rintro (h | h | h | h) <;> first | (exact .inl h) | omega
      · rintro (h | h | h | h) <;> first | (exact .inl h) | omega
  rw [← hE] at hend
  rw [← hX] at hat
  clear hr t1 t2 t3 t4 h
  generalize decide (0 ≤ Pa.pair l) = B2 at hbe hr2
  generalize ((Pa.cnt 2 l : Nat) : Int) = C2 at *
  generalize ((Pa.cnt 3 l : Nat) : Int) = C3 at *
  generalize ((Pa.cnt 4 l : Nat) : Int) = C4 at *
  generalize ((Pa.cnt 5 l : Nat) : Int) = C5 at *
  generalize ((Pa.cnt 2 (l.take (Pa.headN l)) : Nat) : Int) = A at *
  generalize ((Pa.cnt 2 ((l.take (Pa.cutAt [5] l)).drop (Pa.headN l)) : Nat) : Int) = Pl at *
  generalize ((Pa.cnt 2 (l.drop (Pa.cutAt [5] l)) : Nat) : Int) = Z at *
  generalize ((Pa.cnt 3 (l.drop (Pa.cutAt [5] l)) : Nat) : Int) = Z3 at *
  generalize ((Pa.cnt 2 (l.take (Pa.cutAt [5] l)) : Nat) : Int) = T at *
  generalize l.length = n at *
  have HEND := Lib.hid hend; have HAT := Lib.hid hat; have HBE := Lib.hid hbe; have HR := Lib.hid hr2
  have HC2 := Lib.hid hC2
  have HC3 := Lib.hid hC3
  have HC4 := Lib.hid hC4
  have HC5 := Lib.hid hC5
  have HA := Lib.hid hA
  have HPl := Lib.hid hPl
  have HZ := Lib.hid hZ
  have HZ3 := Lib.hid hZ3
  have HT := Lib.hid hT
  clear hend hat hbe hr2 hE hX hE0 hX0 hEX hc hC2 hC3 hC4 hC5 hA hPl hZ hZ3 hT
  cases g with
  | false =>
    cases B2 <;>
      (go_enter Tryd.func28, Tryd.ntmps28
       go_wp2_with (first
         | (go_at_call 33; (with_reducible refine (box_call (w := w) (g := false) (sc := sc) (HEND.out _ (by (repeat (first | exact Below.refl _ _ | assumption | refine Below.setCell ?_ (by first | omega | (simp <;> omega)) _ | refine Below.alloc ?_ (by first | omega | (simp <;> omega)) _ | refine Below.drew ?_ | refine below_drewN' ?_ _)))) (by first | assumption | (unfold Bx; refine ⟨?_, ?_, ?_⟩ <;> (first | (simp; done) | (simp [go_sem]; done))))).mono ?_); rintro e w1 ⟨⟨rfl, hb_w1⟩, hx_w1⟩; have hB_w1 : Below w.heap.size w w1 := Below.next (by (repeat (first | exact Below.refl _ _ | assumption | refine Below.setCell ?_ (by first | omega | (simp <;> omega)) _ | refine Below.alloc ?_ (by first | omega | (simp <;> omega)) _ | refine Below.drew ?_ | refine below_drewN' ?_ _))) hb_w1; have cg := hx_w1.2.1; have cs := hx_w1.2.2)
         | (go_at_call 41; (with_reducible refine (box_call (w := w) (g := false) (sc := sc) (HAT.out _ (by (repeat (first | exact Below.refl _ _ | assumption | refine Below.setCell ?_ (by first | omega | (simp <;> omega)) _ | refine Below.alloc ?_ (by first | omega | (simp <;> omega)) _ | refine Below.drew ?_ | refine below_drewN' ?_ _)))) (by first | assumption | (unfold Bx; refine ⟨?_, ?_, ?_⟩ <;> (first | (simp; done) | (simp [go_sem]; done))))).mono ?_); rintro e w1 ⟨⟨rfl, hb_w1⟩, hx_w1⟩; have hB_w1 : Below w.heap.size w w1 := Below.next (by (repeat (first | exact Below.refl _ _ | assumption | refine Below.setCell ?_ (by first | omega | (simp <;> omega)) _ | refine Below.alloc ?_ (by first | omega | (simp <;> omega)) _ | refine Below.drew ?_ | refine below_drewN' ?_ _))) hb_w1; have cg := hx_w1.2.1; have cs := hx_w1.2.2)
         | (go_at_call 42; (with_reducible refine (box_call (w := w) (g := false) (sc := sc) (HBE.out _ (by (repeat (first | exact Below.refl _ _ | assumption | refine Below.setCell ?_ (by first | omega | (simp <;> omega)) _ | refine Below.alloc ?_ (by first | omega | (simp <;> omega)) _ | refine Below.drew ?_ | refine below_drewN' ?_ _)))) (by first | assumption | (unfold Bx; refine ⟨?_, ?_, ?_⟩ <;> (first | (simp; done) | (simp [go_sem]; done))))).mono ?_); rintro e w1 ⟨⟨rfl, hb_w1⟩, hx_w1⟩; have hB_w1 : Below w.heap.size w w1 := Below.next (by (repeat (first | exact Below.refl _ _ | assumption | refine Below.setCell ?_ (by first | omega | (simp <;> omega)) _ | refine Below.alloc ?_ (by first | omega | (simp <;> omega)) _ | refine Below.drew ?_ | refine below_drewN' ?_ _))) hb_w1; have cg := hx_w1.2.1; have cs := hx_w1.2.2)
         | (go_at_call 26; (with_reducible refine (box_call (w := w) (g := false) (sc := sc) (HC2.out _ (by (repeat (first | exact Below.refl _ _ | assumption | refine Below.setCell ?_ (by first | omega | (simp <;> omega)) _ | refine Below.alloc ?_ (by first | omega | (simp <;> omega)) _ | refine Below.drew ?_ | refine below_drewN' ?_ _)))) (by first | assumption | (unfold Bx; refine ⟨?_, ?_, ?_⟩ <;> (first | (simp; done) | (simp [go_sem]; done))))).mono ?_); rintro e w1 ⟨⟨rfl, hb_w1⟩, hx_w1⟩; have hB_w1 : Below w.heap.size w w1 := Below.next (by (repeat (first | exact Below.refl _ _ | assumption | refine Below.setCell ?_ (by first | omega | (simp <;> omega)) _ | refine Below.alloc ?_ (by first | omega | (simp <;> omega)) _ | refine Below.drew ?_ | refine below_drewN' ?_ _))) hb_w1; have cg := hx_w1.2.1; have cs := hx_w1.2.2)
         | (go_at_call 26; (with_reducible refine (box_call (w := w) (g := false) (sc := sc) (HC3.out _ (by (repeat (first | exact Below.refl _ _ | assumption | refine Below.setCell ?_ (by first | omega | (simp <;> omega)) _ | refine Below.alloc ?_ (by first | omega | (simp <;> omega)) _ | refine Below.drew ?_ | refine below_drewN' ?_ _)))) (by first | assumption | (unfold Bx; refine ⟨?_, ?_, ?_⟩ <;> (first | (simp; done) | (simp [go_sem]; done))))).mono ?_); rintro e w1 ⟨⟨rfl, hb_w1⟩, hx_w1⟩; have hB_w1 : Below w.heap.size w w1 := Below.next (by (repeat (first | exact Below.refl _ _ | assumption | refine Below.setCell ?_ (by first | omega | (simp <;> omega)) _ | refine Below.alloc ?_ (by first | omega | (simp <;> omega)) _ | refine Below.drew ?_ | refine below_drewN' ?_ _))) hb_w1; have cg := hx_w1.2.1; have cs := hx_w1.2.2)
         | (go_at_call 26; (with_reducible refine (box_call (w := w) (g := false) (sc := sc) (HC4.out _ (by (repeat (first | exact Below.refl _ _ | assumption | refine Below.setCell ?_ (by first | omega | (simp <;> omega)) _ | refine Below.alloc ?_ (by first | omega | (simp <;> omega)) _ | refine Below.drew ?_ | refine below_drewN' ?_ _)))) (by first | assumption | (unfold Bx; refine ⟨?_, ?_, ?_⟩ <;> (first | (simp; done) | (simp [go_sem]; done))))).mono ?_); rintro e w1 ⟨⟨rfl, hb_w1⟩, hx_w1⟩; have hB_w1 : Below w.heap.size w w1 := Below.next (by (repeat (first | exact Below.refl _ _ | assumption | refine Below.setCell ?_ (by first | omega | (simp <;> omega)) _ | refine Below.alloc ?_ (by first | omega | (simp <;> omega)) _ | refine Below.drew ?_ | refine below_drewN' ?_ _))) hb_w1; have cg := hx_w1.2.1; have cs := hx_w1.2.2)
         | (go_at_call 26; (with_reducible refine (box_call (w := w) (g := false) (sc := sc) (HC5.out _ (by (repeat (first | exact Below.refl _ _ | assumption | refine Below.setCell ?_ (by first | omega | (simp <;> omega)) _ | refine Below.alloc ?_ (by first | omega | (simp <;> omega)) _ | refine Below.drew ?_ | refine below_drewN' ?_ _)))) (by first | assumption | (unfold Bx; refine ⟨?_, ?_, ?_⟩ <;> (first | (simp; done) | (simp [go_sem]; done))))).mono ?_); rintro e w1 ⟨⟨rfl, hb_w1⟩, hx_w1⟩; have hB_w1 : Below w.heap.size w w1 := Below.next (by (repeat (first | exact Below.refl _ _ | assumption | refine Below.setCell ?_ (by first | omega | (simp <;> omega)) _ | refine Below.alloc ?_ (by first | omega | (simp <;> omega)) _ | refine Below.drew ?_ | refine below_drewN' ?_ _))) hb_w1; have cg := hx_w1.2.1; have cs := hx_w1.2.2)
         | (go_at_call 26; (with_reducible refine (box_call (w := w) (g := false) (sc := sc) (HA.out _ (by (repeat (first | exact Below.refl _ _ | assumption | refine Below.setCell ?_ (by first | omega | (simp <;> omega)) _ | refine Below.alloc ?_ (by first | omega | (simp <;> omega)) _ | refine Below.drew ?_ | refine below_drewN' ?_ _)))) (by first | assumption | (unfold Bx; refine ⟨?_, ?_, ?_⟩ <;> (first | (simp; done) | (simp [go_sem]; done))))).mono ?_); rintro e w1 ⟨⟨rfl, hb_w1⟩, hx_w1⟩; have hB_w1 : Below w.heap.size w w1 := Below.next (by (repeat (first | exact Below.refl _ _ | assumption | refine Below.setCell ?_ (by first | omega | (simp <;> omega)) _ | refine Below.alloc ?_ (by first | omega | (simp <;> omega)) _ | refine Below.drew ?_ | refine below_drewN' ?_ _))) hb_w1; have cg := hx_w1.2.1; have cs := hx_w1.2.2)
         | (go_at_call 26; (with_reducible refine (box_call (w := w) (g := false) (sc := sc) (HPl.out _ (by (repeat (first | exact Below.refl _ _ | assumption | refine Below.setCell ?_ (by first | omega | (simp <;> omega)) _ | refine Below.alloc ?_ (by first | omega | (simp <;> omega)) _ | refine Below.drew ?_ | refine below_drewN' ?_ _)))) (by first | assumption | (unfold Bx; refine ⟨?_, ?_, ?_⟩ <;> (first | (simp; done) | (simp [go_sem]; done))))).mono ?_); rintro e w1 ⟨⟨rfl, hb_w1⟩, hx_w1⟩; have hB_w1 : Below w.heap.size w w1 := Below.next (by (repeat (first | exact Below.refl _ _ | assumption | refine Below.setCell ?_ (by first | omega | (simp <;> omega)) _ | refine Below.alloc ?_ (by first | omega | (simp <;> omega)) _ | refine Below.drew ?_ | refine below_drewN' ?_ _))) hb_w1; have cg := hx_w1.2.1; have cs := hx_w1.2.2)
         | (go_at_call 26; (with_reducible refine (box_call (w := w) (g := false) (sc := sc) (HZ.out _ (by (repeat (first | exact Below.refl _ _ | assumption | refine Below.setCell ?_ (by first | omega | (simp <;> omega)) _ | refine Below.alloc ?_ (by first | omega | (simp <;> omega)) _ | refine Below.drew ?_ | refine below_drewN' ?_ _)))) (by first | assumption | (unfold Bx; refine ⟨?_, ?_, ?_⟩ <;> (first | (simp; done) | (simp [go_sem]; done))))).mono ?_); rintro e w1 ⟨⟨rfl, hb_w1⟩, hx_w1⟩; have hB_w1 : Below w.heap.size w w1 := Below.next (by (repeat (first | exact Below.refl _ _ | assumption | refine Below.setCell ?_ (by first | omega | (simp <;> omega)) _ | refine Below.alloc ?_ (by first | omega | (simp <;> omega)) _ | refine Below.drew ?_ | refine below_drewN' ?_ _))) hb_w1; have cg := hx_w1.2.1; have cs := hx_w1.2.2)
         | (go_at_call 26; (with_reducible refine (box_call (w := w) (g := false) (sc := sc) (HZ3.out _ (by (repeat (first | exact Below.refl _ _ | assumption | refine Below.setCell ?_ (by first | omega | (simp <;> omega)) _ | refine Below.alloc ?_ (by first | omega | (simp <;> omega)) _ | refine Below.drew ?_ | refine below_drewN' ?_ _)))) (by first | assumption | (unfold Bx; refine ⟨?_, ?_, ?_⟩ <;> (first | (simp; done) | (simp [go_sem]; done))))).mono ?_); rintro e w1 ⟨⟨rfl, hb_w1⟩, hx_w1⟩; have hB_w1 : Below w.heap.size w w1 := Below.next (by (repeat (first | exact Below.refl _ _ | assumption | refine Below.setCell ?_ (by first | omega | (simp <;> omega)) _ | refine Below.alloc ?_ (by first | omega | (simp <;> omega)) _ | refine Below.drew ?_ | refine below_drewN' ?_ _))) hb_w1; have cg := hx_w1.2.1; have cs := hx_w1.2.2)
         | (go_at_call 26; (with_reducible refine (box_call (w := w) (g := false) (sc := sc) (HT.out _ (by (repeat (first | exact Below.refl _ _ | assumption | refine Below.setCell ?_ (by first | omega | (simp <;> omega)) _ | refine Below.alloc ?_ (by first | omega | (simp <;> omega)) _ | refine Below.drew ?_ | refine below_drewN' ?_ _)))) (by first | assumption | (unfold Bx; refine ⟨?_, ?_, ?_⟩ <;> (first | (simp; done) | (simp [go_sem]; done))))).mono ?_); rintro e w1 ⟨⟨rfl, hb_w1⟩, hx_w1⟩; have hB_w1 : Below w.heap.size w w1 := Below.next (by (repeat (first | exact Below.refl _ _ | assumption | refine Below.setCell ?_ (by first | omega | (simp <;> omega)) _ | refine Below.alloc ?_ (by first | omega | (simp <;> omega)) _ | refine Below.drew ?_ | refine below_drewN' ?_ _))) hb_w1; have cg := hx_w1.2.1; have cs := hx_w1.2.2))
       all_goals
         go_ret
         refine RetB.of (congrArg (Value.int .i64) ?_) (by (repeat (first | exact Below.refl _ _ | assumption | refine Below.setCell ?_ (by first | omega | (simp <;> omega)) _ | refine Below.alloc ?_ (by first | omega | (simp <;> omega)) _ | refine Below.drew ?_ | refine below_drewN' ?_ _)))
         rw [HR.out]
         clear HR
         repeat' split
         all_goals first | rfl | (exfalso; omega) | (exfalso; simp_all; done) | (exfalso; simp_all; omega))
  | true =>
    cases B2 <;>
      (go_enter Tryd.func28, Tryd.ntmps28
       go_wp2_with (first
         | (go_at_call 33; (with_reducible refine (box_call (w := w) (g := true) (sc := sc) (HEND.out _ (by (repeat (first | exact Below.refl _ _ | assumption | refine Below.setCell ?_ (by first | omega | (simp <;> omega)) _ | refine Below.alloc ?_ (by first | omega | (simp <;> omega)) _ | refine Below.drew ?_ | refine below_drewN' ?_ _)))) (by first | assumption | (unfold Bx; refine ⟨?_, ?_, ?_⟩ <;> (first | (simp; done) | (simp [go_sem]; done))))).mono ?_); rintro e w1 ⟨⟨rfl, hb_w1⟩, hx_w1⟩; have hB_w1 : Below w.heap.size w w1 := Below.next (by (repeat (first | exact Below.refl _ _ | assumption | refine Below.setCell ?_ (by first | omega | (simp <;> omega)) _ | refine Below.alloc ?_ (by first | omega | (simp <;> omega)) _ | refine Below.drew ?_ | refine below_drewN' ?_ _))) hb_w1; have cg := hx_w1.2.1; have cs := hx_w1.2.2)
         | (go_at_call 41; (with_reducible refine (box_call (w := w) (g := true) (sc := sc) (HAT.out _ (by (repeat (first | exact Below.refl _ _ | assumption | refine Below.setCell ?_ (by first | omega | (simp <;> omega)) _ | refine Below.alloc ?_ (by first | omega | (simp <;> omega)) _ | refine Below.drew ?_ | refine below_drewN' ?_ _)))) (by first | assumption | (unfold Bx; refine ⟨?_, ?_, ?_⟩ <;> (first | (simp; done) | (simp [go_sem]; done))))).mono ?_); rintro e w1 ⟨⟨rfl, hb_w1⟩, hx_w1⟩; have hB_w1 : Below w.heap.size w w1 := Below.next (by (repeat (first | exact Below.refl _ _ | assumption | refine Below.setCell ?_ (by first | omega | (simp <;> omega)) _ | refine Below.alloc ?_ (by first | omega | (simp <;> omega)) _ | refine Below.drew ?_ | refine below_drewN' ?_ _))) hb_w1; have cg := hx_w1.2.1; have cs := hx_w1.2.2)
         | (go_at_call 42; (with_reducible refine (box_call (w := w) (g := true) (sc := sc) (HBE.out _ (by (repeat (first | exact Below.refl _ _ | assumption | refine Below.setCell ?_ (by first | omega | (simp <;> omega)) _ | refine Below.alloc ?_ (by first | omega | (simp <;> omega)) _ | refine Below.drew ?_ | refine below_drewN' ?_ _)))) (by first | assumption | (unfold Bx; refine ⟨?_, ?_, ?_⟩ <;> (first | (simp; done) | (simp [go_sem]; done))))).mono ?_); rintro e w1 ⟨⟨rfl, hb_w1⟩, hx_w1⟩; have hB_w1 : Below w.heap.size w w1 := Below.next (by (repeat (first | exact Below.refl _ _ | assumption | refine Below.setCell ?_ (by first | omega | (simp <;> omega)) _ | refine Below.alloc ?_ (by first | omega | (simp <;> omega)) _ | refine Below.drew ?_ | refine below_drewN' ?_ _))) hb_w1; have cg := hx_w1.2.1; have cs := hx_w1.2.2)
         | (go_at_call 26; (with_reducible refine (box_call (w := w) (g := true) (sc := sc) (HC2.out _ (by (repeat (first | exact Below.refl _ _ | assumption | refine Below.setCell ?_ (by first | omega | (simp <;> omega)) _ | refine Below.alloc ?_ (by first | omega | (simp <;> omega)) _ | refine Below.drew ?_ | refine below_drewN' ?_ _)))) (by first | assumption | (unfold Bx; refine ⟨?_, ?_, ?_⟩ <;> (first | (simp; done) | (simp [go_sem]; done))))).mono ?_); rintro e w1 ⟨⟨rfl, hb_w1⟩, hx_w1⟩; have hB_w1 : Below w.heap.size w w1 := Below.next (by (repeat (first | exact Below.refl _ _ | assumption | refine Below.setCell ?_ (by first | omega | (simp <;> omega)) _ | refine Below.alloc ?_ (by first | omega | (simp <;> omega)) _ | refine Below.drew ?_ | refine below_drewN' ?_ _))) hb_w1; have cg := hx_w1.2.1; have cs := hx_w1.2.2)
         | (go_at_call 26; (with_reducible refine (box_call (w := w) (g := true) (sc := sc) (HC3.out _ (by (repeat (first | exact Below.refl _ _ | assumption | refine Below.setCell ?_ (by first | omega | (simp <;> omega)) _ | refine Below.alloc ?_ (by first | omega | (simp <;> omega)) _ | refine Below.drew ?_ | refine below_drewN' ?_ _)))) (by first | assumption | (unfold Bx; refine ⟨?_, ?_, ?_⟩ <;> (first | (simp; done) | (simp [go_sem]; done))))).mono ?_); rintro e w1 ⟨⟨rfl, hb_w1⟩, hx_w1⟩; have hB_w1 : Below w.heap.size w w1 := Below.next (by (repeat (first | exact Below.refl _ _ | assumption | refine Below.setCell ?_ (by first | omega | (simp <;> omega)) _ | refine Below.alloc ?_ (by first | omega | (simp <;> omega)) _ | refine Below.drew ?_ | refine below_drewN' ?_ _))) hb_w1; have cg := hx_w1.2.1; have cs := hx_w1.2.2)
         | (go_at_call 26; (with_reducible refine (box_call (w := w) (g := true) (sc := sc) (HC4.out _ (by (repeat (first | exact Below.refl _ _ | assumption | refine Below.setCell ?_ (by first | omega | (simp <;> omega)) _ | refine Below.alloc ?_ (by first | omega | (simp <;> omega)) _ | refine Below.drew ?_ | refine below_drewN' ?_ _)))) (by first | assumption | (unfold Bx; refine ⟨?_, ?_, ?_⟩ <;> (first | (simp; done) | (simp [go_sem]; done))))).mono ?_); rintro e w1 ⟨⟨rfl, hb_w1⟩, hx_w1⟩; have hB_w1 : Below w.heap.size w w1 := Below.next (by (repeat (first | exact Below.refl _ _ | assumption | refine Below.setCell ?_ (by first | omega | (simp <;> omega)) _ | refine Below.alloc ?_ (by first | omega | (simp <;> omega)) _ | refine Below.drew ?_ | refine below_drewN' ?_ _))) hb_w1; have cg := hx_w1.2.1; have cs := hx_w1.2.2)
         | (go_at_call 26; (with_reducible refine (box_call (w := w) (g := true) (sc := sc) (HC5.out _ (by (repeat (first | exact Below.refl _ _ | assumption | refine Below.setCell ?_ (by first | omega | (simp <;> omega)) _ | refine Below.alloc ?_ (by first | omega | (simp <;> omega)) _ | refine Below.drew ?_ | refine below_drewN' ?_ _)))) (by first | assumption | (unfold Bx; refine ⟨?_, ?_, ?_⟩ <;> (first | (simp; done) | (simp [go_sem]; done))))).mono ?_); rintro e w1 ⟨⟨rfl, hb_w1⟩, hx_w1⟩; have hB_w1 : Below w.heap.size w w1 := Below.next (by (repeat (first | exact Below.refl _ _ | assumption | refine Below.setCell ?_ (by first | omega | (simp <;> omega)) _ | refine Below.alloc ?_ (by first | omega | (simp <;> omega)) _ | refine Below.drew ?_ | refine below_drewN' ?_ _))) hb_w1; have cg := hx_w1.2.1; have cs := hx_w1.2.2)
         | (go_at_call 26; (with_reducible refine (box_call (w := w) (g := true) (sc := sc) (HA.out _ (by (repeat (first | exact Below.refl _ _ | assumption | refine Below.setCell ?_ (by first | omega | (simp <;> omega)) _ | refine Below.alloc ?_ (by first | omega | (simp <;> omega)) _ | refine Below.drew ?_ | refine below_drewN' ?_ _)))) (by first | assumption | (unfold Bx; refine ⟨?_, ?_, ?_⟩ <;> (first | (simp; done) | (simp [go_sem]; done))))).mono ?_); rintro e w1 ⟨⟨rfl, hb_w1⟩, hx_w1⟩; have hB_w1 : Below w.heap.size w w1 := Below.next (by (repeat (first | exact Below.refl _ _ | assumption | refine Below.setCell ?_ (by first | omega | (simp <;> omega)) _ | refine Below.alloc ?_ (by first | omega | (simp <;> omega)) _ | refine Below.drew ?_ | refine below_drewN' ?_ _))) hb_w1; have cg := hx_w1.2.1; have cs := hx_w1.2.2)
         | (go_at_call 26; (with_reducible refine (box_call (w := w) (g := true) (sc := sc) (HPl.out _ (by (repeat (first | exact Below.refl _ _ | assumption | refine Below.setCell ?_ (by first | omega | (simp <;> omega)) _ | refine Below.alloc ?_ (by first | omega | (simp <;> omega)) _ | refine Below.drew ?_ | refine below_drewN' ?_ _)))) (by first | assumption | (unfold Bx; refine ⟨?_, ?_, ?_⟩ <;> (first | (simp; done) | (simp [go_sem]; done))))).mono ?_); rintro e w1 ⟨⟨rfl, hb_w1⟩, hx_w1⟩; have hB_w1 : Below w.heap.size w w1 := Below.next (by (repeat (first | exact Below.refl _ _ | assumption | refine Below.setCell ?_ (by first | omega | (simp <;> omega)) _ | refine Below.alloc ?_ (by first | omega | (simp <;> omega)) _ | refine Below.drew ?_ | refine below_drewN' ?_ _))) hb_w1; have cg := hx_w1.2.1; have cs := hx_w1.2.2)
         | (go_at_call 26; (with_reducible refine (box_call (w := w) (g := true) (sc := sc) (HZ.out _ (by (repeat (first | exact Below.refl _ _ | assumption | refine Below.setCell ?_ (by first | omega | (simp <;> omega)) _ | refine Below.alloc ?_ (by first | omega | (simp <;> omega)) _ | refine Below.drew ?_ | refine below_drewN' ?_ _)))) (by first | assumption | (unfold Bx; refine ⟨?_, ?_, ?_⟩ <;> (first | (simp; done) | (simp [go_sem]; done))))).mono ?_); rintro e w1 ⟨⟨rfl, hb_w1⟩, hx_w1⟩; have hB_w1 : Below w.heap.size w w1 := Below.next (by (repeat (first | exact Below.refl _ _ | assumption | refine Below.setCell ?_ (by first | omega | (simp <;> omega)) _ | refine Below.alloc ?_ (by first | omega | (simp <;> omega)) _ | refine Below.drew ?_ | refine below_drewN' ?_ _))) hb_w1; have cg := hx_w1.2.1; have cs := hx_w1.2.2)
         | (go_at_call 26; (with_reducible refine (box_call (w := w) (g := true) (sc := sc) (HZ3.out _ (by (repeat (first | exact Below.refl _ _ | assumption | refine Below.setCell ?_ (by first | omega | (simp <;> omega)) _ | refine Below.alloc ?_ (by first | omega | (simp <;> omega)) _ | refine Below.drew ?_ | refine below_drewN' ?_ _)))) (by first | assumption | (unfold Bx; refine ⟨?_, ?_, ?_⟩ <;> (first | (simp; done) | (simp [go_sem]; done))))).mono ?_); rintro e w1 ⟨⟨rfl, hb_w1⟩, hx_w1⟩; have hB_w1 : Below w.heap.size w w1 := Below.next (by (repeat (first | exact Below.refl _ _ | assumption | refine Below.setCell ?_ (by first | omega | (simp <;> omega)) _ | refine Below.alloc ?_ (by first | omega | (simp <;> omega)) _ | refine Below.drew ?_ | refine below_drewN' ?_ _))) hb_w1; have cg := hx_w1.2.1; have cs := hx_w1.2.2)
         | (go_at_call 26; (with_reducible refine (box_call (w := w) (g := true) (sc := sc) (HT.out _ (by (repeat (first | exact Below.refl _ _ | assumption | refine Below.setCell ?_ (by first | omega | (simp <;> omega)) _ | refine Below.alloc ?_ (by first | omega | (simp <;> omega)) _ | refine Below.drew ?_ | refine below_drewN' ?_ _)))) (by first | assumption | (unfold Bx; refine ⟨?_, ?_, ?_⟩ <;> (first | (simp; done) | (simp [go_sem]; done))))).mono ?_); rintro e w1 ⟨⟨rfl, hb_w1⟩, hx_w1⟩; have hB_w1 : Below w.heap.size w w1 := Below.next (by (repeat (first | exact Below.refl _ _ | assumption | refine Below.setCell ?_ (by first | omega | (simp <;> omega)) _ | refine Below.alloc ?_ (by first | omega | (simp <;> omega)) _ | refine Below.drew ?_ | refine below_drewN' ?_ _))) hb_w1; have cg := hx_w1.2.1; have cs := hx_w1.2.2))
       all_goals
         go_ret
         refine RetB.of (congrArg (Value.int .i64) ?_) (by (repeat (first | exact Below.refl _ _ | assumption | refine Below.setCell ?_ (by first | omega | (simp <;> omega)) _ | refine Below.alloc ?_ (by first | omega | (simp <;> omega)) _ | refine Below.drew ?_ | refine below_drewN' ?_ _)))
         rw [HR.out]
         clear HR
         repeat' split
         all_goals first | rfl | (exfalso; omega) | (exfalso; simp_all; done) | (exfalso; simp_all; omega))
end Go.Proofs.YticodcecillciaaDoor

/- Patterns in the document: a section's shape. (Printed by gen/mkd7.py.) -/
namespace Go.Proofs.YticodcecillciaaDoor
set_option linter.all false
open Go.RowKit

def Bx3 (w W : World) (vi : Value) (g : Bool) (sc : Int) : Prop := w.heap.size < W.heap.size ∧ W.cell? ⟨w.heap.size, 0, none⟩ = some vi ∧ W.cell? ⟨w.heap.size, 1, none⟩ = some (.bool g) ∧ W.cell? ⟨w.heap.size, 2, none⟩ = some (.int .i64 sc)
theorem Bx3.on {w W W' : World} {vi : Value} {g : Bool} {sc : Int} (hx : Bx3 w W vi g sc) (hb : Below W.heap.size W W') : Bx3 w W' vi g sc :=
  ⟨Nat.lt_of_lt_of_le hx.1 hb.size, (hb.cell (p := ⟨w.heap.size, 0, none⟩) hx.1).trans hx.2.1, (hb.cell (p := ⟨w.heap.size, 1, none⟩) hx.1).trans hx.2.2.1, (hb.cell (p := ⟨w.heap.size, 2, none⟩) hx.1).trans hx.2.2.2⟩
theorem box_call3 {f : FuncId} {args : Array Value} {w W : World} {v vi : Value} {g : Bool} {sc : Int} (h : Calls Tryd.prog f args W (RetB v W)) (hx : Bx3 w W vi g sc) : Calls Tryd.prog f args W (fun e W' => RetB v W e W' ∧ Bx3 w W' vi g sc) :=
  h.mono fun e W' hh => ⟨hh, hx.on hh.2⟩
theorem all_upto {l : List Pa.It} (h : ∀ j (hj : j < l.length), Pa.rightI l[j] = true) : l.all Pa.rightI = true := by
  rw [List.all_eq_true]
  intro x hx
  obtain ⟨j, hj, rfl⟩ := List.getElem_of_mem hx
  exact h j hj
theorem all_not {l : List Pa.It} {k : Nat} (hk : k < l.length) (h : Pa.rightI l[k] = false) : l.all Pa.rightI = false := by
  rw [Bool.eq_false_iff]
  intro ha
  rw [List.all_eq_true] at ha
  rw [ha _ (List.getElem_mem hk)] at h
  cases h

set_option maxRecDepth 100000 in
set_option maxHeartbeats 16000000 in
theorem r_shape_any (vi : Value) (s : Pa.Sec) (B : Nat) (w : World) (h : ItsAt w B vi s.items) (hB : B ≤ w.heap.size) (hl : s.items.length ≤ 1000000) (ht : ∀ k (h : k < s.items.length), s.items[k].text.size ≤ 1000000000) :
    Calls Tryd.prog 10 #[secV vi s] w (RetB (.int .i64 (Pa.dShape s)) w) := by
  obtain ⟨r, hr⟩ : ∃ r, r = Pa.dShape s := ⟨_, rfl⟩
  rw [← hr]
  have hnum := fun (W : World) (hW : Below w.heap.size w W) => r_number_any vi s B W (h.below hW hB) (Nat.le_trans hB hW.size) hl
  obtain ⟨l, g, sc⟩ := s
  unfold secV at hnum ⊢
  simp only [] at h hl ht hnum ⊢
  obtain ⟨a, c, rfl, hc⟩ := h.form
  have hgt := fun h0 => h.get h0
  have hfr := fun (W : World) (hW : Below w.heap.size w W) => r_fraction_any _ l B W (h.below hW hB) (Nat.le_trans hB hW.size) hl
  have h2 := fun (W : World) (hW : Below w.heap.size w W) => r_count_any _ l 2 B W (h.below hW hB) (Nat.le_trans hB hW.size) hl
  have b2 := cnt_le 2 l
  have h3 := fun (W : World) (hW : Below w.heap.size w W) => r_count_any _ l 3 B W (h.below hW hB) (Nat.le_trans hB hW.size) hl
  have b3 := cnt_le 3 l
  have h4 := fun (W : World) (hW : Below w.heap.size w W) => r_count_any _ l 4 B W (h.below hW hB) (Nat.le_trans hB hW.size) hl
  have b4 := cnt_le 4 l
  have h5 := fun (W : World) (hW : Below w.heap.size w W) => r_count_any _ l 5 B W (h.below hW hB) (Nat.le_trans hB hW.size) hl
  have b5 := cnt_le 5 l
  have h6 := fun (W : World) (hW : Below w.heap.size w W) => r_count_any _ l 6 B W (h.below hW hB) (Nat.le_trans hB hW.size) hl
  have b6 := cnt_le 6 l
  have h7 := fun (W : World) (hW : Below w.heap.size w W) => r_count_any _ l 7 B W (h.below hW hB) (Nat.le_trans hB hW.size) hl
  have b7 := cnt_le 7 l
  have h8 := fun (W : World) (hW : Below w.heap.size w W) => r_count_any _ l 8 B W (h.below hW hB) (Nat.le_trans hB hW.size) hl
  have b8 := cnt_le 8 l
  have h9 := fun (W : World) (hW : Below w.heap.size w W) => r_count_any _ l 9 B W (h.below hW hB) (Nat.le_trans hB hW.size) hl
  have b9 := cnt_le 9 l
  have hF : l.all Pa.rightI = false → r = 0 := fun e => by rw [hr]; unfold Pa.dShape; simp only; rw [e]; rfl
  have hT : l.all Pa.rightI = true → r = if (0 : Int) < (Pa.cnt 7 l : Nat) then (if ((Pa.cnt 7 l : Nat) : Int) = 1 ∧ ((Pa.cnt 2 l : Nat) : Int) + ((Pa.cnt 3 l : Nat) + (Pa.cnt 4 l : Nat) + (Pa.cnt 5 l : Nat) + (Pa.cnt 6 l : Nat)) + (Pa.cnt 8 l : Nat) = 0 ∧ (g = false ∧ sc = 0) then 5 else 0)
      else if (0 : Int) < (Pa.cnt 8 l : Nat) then (if ((Pa.cnt 2 l : Nat) : Int) + ((Pa.cnt 3 l : Nat) + (Pa.cnt 4 l : Nat) + (Pa.cnt 5 l : Nat) + (Pa.cnt 6 l : Nat)) + (Pa.cnt 9 l : Nat) = 0 ∧ (g = false ∧ sc = 0) then 6 else 0)
      else if ((Pa.cnt 2 l : Nat) : Int) + ((Pa.cnt 3 l : Nat) + (Pa.cnt 4 l : Nat) + (Pa.cnt 5 l : Nat) + (Pa.cnt 6 l : Nat)) = 0 then (if (g = false ∧ sc = 0) then 1 else 0)
      else if (0 : Int) < (Pa.cnt 6 l : Nat) then (if (g = false ∧ sc = 0) then Pa.dFraction l else 0)
      else Pa.dNumber ⟨l, g, sc⟩ := fun e => by
    rw [hr]
    unfold Pa.dShape
    simp only
    rw [if_pos e]
    refine if_cond (by omega) (if_cond ?_ rfl rfl) (if_cond (by omega) (if_cond ?_ rfl rfl) (if_cond (by omega) rfl (if_cond (by omega) rfl rfl)))
    · constructor
      · rintro ⟨h1, h2, h3⟩; exact ⟨by omega, by omega, h3⟩
      · rintro ⟨h1, h2, h3⟩; exact ⟨by omega, by omega, h3⟩
    · constructor
      · rintro ⟨h1, h3⟩; exact ⟨by omega, h3⟩
      · rintro ⟨h1, h3⟩; exact ⟨by omega, h3⟩
  generalize Pa.dFraction l = D at hfr hT
  generalize Pa.dNumber ⟨l, g, sc⟩ = DN at hnum hT
  obtain ⟨C2, e2⟩ : ∃ C : Int, C = ((Pa.cnt 2 l : Nat) : Int) := ⟨_, rfl⟩
  have f2 : 0 ≤ C2 ∧ C2 ≤ 1000000 := by omega
  obtain ⟨f2, g2⟩ := f2
  rw [← e2] at h2 hT
  obtain ⟨C3, e3⟩ : ∃ C : Int, C = ((Pa.cnt 3 l : Nat) : Int) := ⟨_, rfl⟩
  have f3 : 0 ≤ C3 ∧ C3 ≤ 1000000 := by omega
  obtain ⟨f3, g3⟩ := f3
  rw [← e3] at h3 hT
  obtain ⟨C4, e4⟩ : ∃ C : Int, C = ((Pa.cnt 4 l : Nat) : Int) := ⟨_, rfl⟩
  have f4 : 0 ≤ C4 ∧ C4 ≤ 1000000 := by omega
  obtain ⟨f4, g4⟩ := f4
  rw [← e4] at h4 hT
  obtain ⟨C5, e5⟩ : ∃ C : Int, C = ((Pa.cnt 5 l : Nat) : Int) := ⟨_, rfl⟩
  have f5 : 0 ≤ C5 ∧ C5 ≤ 1000000 := by omega
  obtain ⟨f5, g5⟩ := f5
  rw [← e5] at h5 hT
  obtain ⟨C6, e6⟩ : ∃ C : Int, C = ((Pa.cnt 6 l : Nat) : Int) := ⟨_, rfl⟩
  have f6 : 0 ≤ C6 ∧ C6 ≤ 1000000 := by omega
  obtain ⟨f6, g6⟩ := f6
  rw [← e6] at h6 hT
  obtain ⟨C7, e7⟩ : ∃ C : Int, C = ((Pa.cnt 7 l : Nat) : Int) := ⟨_, rfl⟩
  have f7 : 0 ≤ C7 ∧ C7 ≤ 1000000 := by omega
  obtain ⟨f7, g7⟩ := f7
  rw [← e7] at h7 hT
  obtain ⟨C8, e8⟩ : ∃ C : Int, C = ((Pa.cnt 8 l : Nat) : Int) := ⟨_, rfl⟩
  have f8 : 0 ≤ C8 ∧ C8 ≤ 1000000 := by omega
  obtain ⟨f8, g8⟩ := f8
  rw [← e8] at h8 hT
  obtain ⟨C9, e9⟩ : ∃ C : Int, C = ((Pa.cnt 9 l : Nat) : Int) := ⟨_, rfl⟩
  have f9 : 0 ≤ C9 ∧ C9 ≤ 1000000 := by omega
  obtain ⟨f9, g9⟩ := f9
  rw [← e9] at h9 hT
  obtain ⟨n, hn⟩ : ∃ n, n = l.length := ⟨_, rfl⟩
  rw [← hn] at hl hnum hfr h2 h3 h4 h5 h6 h7 h8 h9 ⊢
  have HN := Lib.hid hn; have HT := Lib.hid hT; have HF := Lib.hid hF; have HNUM := Lib.hid hnum; have HFR := Lib.hid hfr; have HGT := Lib.hid hgt; have HTX := Lib.hid ht
  have H2 := Lib.hid h2; have H3 := Lib.hid h3; have H4 := Lib.hid h4; have H5 := Lib.hid h5; have H6 := Lib.hid h6; have H7 := Lib.hid h7; have H8 := Lib.hid h8; have H9 := Lib.hid h9
  clear hn hT hF hnum hfr hgt ht h hr hc h2 b2 e2 h3 b3 e3 h4 b4 e4 h5 b5 e5 h6 b6 e6 h7 b7 e7 h8 b8 e8 h9 b9 e9
  cases g with
  | false =>
    go_enter Tryd.func10, Tryd.ntmps10
    go_wp2_with fail
    go_loopw [4] (fun i wr => ∃ k : Nat, i = .int .i64 (k : Int) ∧ k ≤ n ∧ Hid (∀ j (hj : j < l.length), j < k → Pa.rightI l[j] = true) ∧ Below w.heap.size w wr ∧ Bx3 w wr (.slice a n c) false sc) (fun i _ => n - (intOf i).toNat)
    case atStart => exact ⟨0, rfl, Nat.zero_le _, Lib.hid (fun j hj h => absurd h (Nat.not_lt_zero _)), by (repeat (first | exact Below.refl _ _ | assumption | refine Below.setCell ?_ (by first | omega | (simp <;> omega)) _ | refine Below.alloc ?_ (by first | omega | (simp <;> omega)) _ | refine Below.drew ?_ | refine below_drewN' ?_ _)), by unfold Bx3; refine ⟨?_, ?_, ?_, ?_⟩ <;> simp [go_sem]⟩
    case round =>
      obtain ⟨k, rfl, hk, HP, hbr, hbx⟩ := hrel
      have hzr := hbr.size
      by_cases hlt : k < n
      · have hkl : k < l.length := by rw [← HN.out]; exact hlt
        obtain ⟨b, o, c', e', _, hb, hh⟩ := HGT.out (by omega)
        rw [← HN.out] at e'
        cases e'
        obtain ⟨q0, q1⟩ := hh k hkl
        replace q0 := (hbr.cell (p := ⟨b, o + k * 2, none⟩) (by simp only; omega)).trans q0
        replace q1 := (hbr.cell (p := ⟨b, o + k * 2 + 1, none⟩) (by simp only; omega)).trans q1
        have hit := r_item_any l[k] wr (HTX.out k hkl)
        unfold itV at hit
        have i1 : (k : Int) < (n : Int) := by omega
        have i2 : (k : Int) ≤ 1000000 := by omega
        clear hh
        cases hri : Pa.rightI l[k] with
        | true =>
          rw [hri] at hit
          have HI := Lib.hid hit; have HRI := Lib.hid hri
          clear hit hri
          go_wp2_with (go_at_call 25; (with_reducible refine (HI.out).mono ?_); rintro e w1 ⟨rfl, hb_w1⟩)
          go_roundw
          case rel => exact ⟨k + 1, by go_num, by omega, Lib.hid (fun j hj h => by
            by_cases e : j = k
            · subst e; exact HRI.out
            · exact HP.out j hj (by omega)), hbr.trans (hb_w1.mono hzr), hbx.on hb_w1⟩
          case measure => simp [intOf]; omega
        | false =>
          rw [hri] at hit
          have hr0 : r = 0 := HF.out (all_not hkl hri)
          subst hr0
          have HI := Lib.hid hit
          clear hit hri HF HT
          go_wp2_with (go_at_call 25; (with_reducible refine (HI.out).mono ?_); rintro e w1 ⟨rfl, hb_w1⟩)
          go_ret
          exact RetB.of rfl (hbr.trans (hb_w1.mono hzr))
      · have hkn : k = n := by omega
        subst hkn
        have hT := HT.out (all_upto fun j hj => HP.out j hj (by rw [HN.out]; exact hj))
        have HR := Lib.hid hT
        have i1 : ¬ (k : Int) < (k : Int) := by omega
        obtain ⟨cz, c0, cg, cs⟩ := id hbx
        clear hT HT HF HP HGT HTX
        generalize hK : k = n at *
        go_wp2_with (first
          | (go_at_call 26; (with_reducible refine (box_call3 (w := w) (vi := .slice a n c) (g := false) (sc := sc) (H2.out _ (by (repeat (first | exact Below.refl _ _ | assumption | refine Below.setCell ?_ (by first | omega | (simp <;> omega)) _ | refine Below.alloc ?_ (by first | omega | (simp <;> omega)) _ | refine Below.drew ?_ | refine below_drewN' ?_ _)))) (by first | assumption | (unfold Bx3; refine ⟨?_, ?_, ?_, ?_⟩ <;> (first | (simp; done) | (simp [go_sem]; done))))).mono ?_); rintro e w1 ⟨⟨rfl, hb_w1⟩, hx_w1⟩; have hB_w1 : Below w.heap.size w w1 := Below.next (by (repeat (first | exact Below.refl _ _ | assumption | refine Below.setCell ?_ (by first | omega | (simp <;> omega)) _ | refine Below.alloc ?_ (by first | omega | (simp <;> omega)) _ | refine Below.drew ?_ | refine below_drewN' ?_ _))) hb_w1; obtain ⟨cz, c0, cg, cs⟩ := id hx_w1)
          | (go_at_call 26; (with_reducible refine (box_call3 (w := w) (vi := .slice a n c) (g := false) (sc := sc) (H3.out _ (by (repeat (first | exact Below.refl _ _ | assumption | refine Below.setCell ?_ (by first | omega | (simp <;> omega)) _ | refine Below.alloc ?_ (by first | omega | (simp <;> omega)) _ | refine Below.drew ?_ | refine below_drewN' ?_ _)))) (by first | assumption | (unfold Bx3; refine ⟨?_, ?_, ?_, ?_⟩ <;> (first | (simp; done) | (simp [go_sem]; done))))).mono ?_); rintro e w1 ⟨⟨rfl, hb_w1⟩, hx_w1⟩; have hB_w1 : Below w.heap.size w w1 := Below.next (by (repeat (first | exact Below.refl _ _ | assumption | refine Below.setCell ?_ (by first | omega | (simp <;> omega)) _ | refine Below.alloc ?_ (by first | omega | (simp <;> omega)) _ | refine Below.drew ?_ | refine below_drewN' ?_ _))) hb_w1; obtain ⟨cz, c0, cg, cs⟩ := id hx_w1)
          | (go_at_call 26; (with_reducible refine (box_call3 (w := w) (vi := .slice a n c) (g := false) (sc := sc) (H4.out _ (by (repeat (first | exact Below.refl _ _ | assumption | refine Below.setCell ?_ (by first | omega | (simp <;> omega)) _ | refine Below.alloc ?_ (by first | omega | (simp <;> omega)) _ | refine Below.drew ?_ | refine below_drewN' ?_ _)))) (by first | assumption | (unfold Bx3; refine ⟨?_, ?_, ?_, ?_⟩ <;> (first | (simp; done) | (simp [go_sem]; done))))).mono ?_); rintro e w1 ⟨⟨rfl, hb_w1⟩, hx_w1⟩; have hB_w1 : Below w.heap.size w w1 := Below.next (by (repeat (first | exact Below.refl _ _ | assumption | refine Below.setCell ?_ (by first | omega | (simp <;> omega)) _ | refine Below.alloc ?_ (by first | omega | (simp <;> omega)) _ | refine Below.drew ?_ | refine below_drewN' ?_ _))) hb_w1; obtain ⟨cz, c0, cg, cs⟩ := id hx_w1)
          | (go_at_call 26; (with_reducible refine (box_call3 (w := w) (vi := .slice a n c) (g := false) (sc := sc) (H5.out _ (by (repeat (first | exact Below.refl _ _ | assumption | refine Below.setCell ?_ (by first | omega | (simp <;> omega)) _ | refine Below.alloc ?_ (by first | omega | (simp <;> omega)) _ | refine Below.drew ?_ | refine below_drewN' ?_ _)))) (by first | assumption | (unfold Bx3; refine ⟨?_, ?_, ?_, ?_⟩ <;> (first | (simp; done) | (simp [go_sem]; done))))).mono ?_); rintro e w1 ⟨⟨rfl, hb_w1⟩, hx_w1⟩; have hB_w1 : Below w.heap.size w w1 := Below.next (by (repeat (first | exact Below.refl _ _ | assumption | refine Below.setCell ?_ (by first | omega | (simp <;> omega)) _ | refine Below.alloc ?_ (by first | omega | (simp <;> omega)) _ | refine Below.drew ?_ | refine below_drewN' ?_ _))) hb_w1; obtain ⟨cz, c0, cg, cs⟩ := id hx_w1)
          | (go_at_call 26; (with_reducible refine (box_call3 (w := w) (vi := .slice a n c) (g := false) (sc := sc) (H6.out _ (by (repeat (first | exact Below.refl _ _ | assumption | refine Below.setCell ?_ (by first | omega | (simp <;> omega)) _ | refine Below.alloc ?_ (by first | omega | (simp <;> omega)) _ | refine Below.drew ?_ | refine below_drewN' ?_ _)))) (by first | assumption | (unfold Bx3; refine ⟨?_, ?_, ?_, ?_⟩ <;> (first | (simp; done) | (simp [go_sem]; done))))).mono ?_); rintro e w1 ⟨⟨rfl, hb_w1⟩, hx_w1⟩; have hB_w1 : Below w.heap.size w w1 := Below.next (by (repeat (first | exact Below.refl _ _ | assumption | refine Below.setCell ?_ (by first | omega | (simp <;> omega)) _ | refine Below.alloc ?_ (by first | omega | (simp <;> omega)) _ | refine Below.drew ?_ | refine below_drewN' ?_ _))) hb_w1; obtain ⟨cz, c0, cg, cs⟩ := id hx_w1)
          | (go_at_call 26; (with_reducible refine (box_call3 (w := w) (vi := .slice a n c) (g := false) (sc := sc) (H7.out _ (by (repeat (first | exact Below.refl _ _ | assumption | refine Below.setCell ?_ (by first | omega | (simp <;> omega)) _ | refine Below.alloc ?_ (by first | omega | (simp <;> omega)) _ | refine Below.drew ?_ | refine below_drewN' ?_ _)))) (by first | assumption | (unfold Bx3; refine ⟨?_, ?_, ?_, ?_⟩ <;> (first | (simp; done) | (simp [go_sem]; done))))).mono ?_); rintro e w1 ⟨⟨rfl, hb_w1⟩, hx_w1⟩; have hB_w1 : Below w.heap.size w w1 := Below.next (by (repeat (first | exact Below.refl _ _ | assumption | refine Below.setCell ?_ (by first | omega | (simp <;> omega)) _ | refine Below.alloc ?_ (by first | omega | (simp <;> omega)) _ | refine Below.drew ?_ | refine below_drewN' ?_ _))) hb_w1; obtain ⟨cz, c0, cg, cs⟩ := id hx_w1)
          | (go_at_call 26; (with_reducible refine (box_call3 (w := w) (vi := .slice a n c) (g := false) (sc := sc) (H8.out _ (by (repeat (first | exact Below.refl _ _ | assumption | refine Below.setCell ?_ (by first | omega | (simp <;> omega)) _ | refine Below.alloc ?_ (by first | omega | (simp <;> omega)) _ | refine Below.drew ?_ | refine below_drewN' ?_ _)))) (by first | assumption | (unfold Bx3; refine ⟨?_, ?_, ?_, ?_⟩ <;> (first | (simp; done) | (simp [go_sem]; done))))).mono ?_); rintro e w1 ⟨⟨rfl, hb_w1⟩, hx_w1⟩; have hB_w1 : Below w.heap.size w w1 := Below.next (by (repeat (first | exact Below.refl _ _ | assumption | refine Below.setCell ?_ (by first | omega | (simp <;> omega)) _ | refine Below.alloc ?_ (by first | omega | (simp <;> omega)) _ | refine Below.drew ?_ | refine below_drewN' ?_ _))) hb_w1; obtain ⟨cz, c0, cg, cs⟩ := id hx_w1)
          | (go_at_call 26; (with_reducible refine (box_call3 (w := w) (vi := .slice a n c) (g := false) (sc := sc) (H9.out _ (by (repeat (first | exact Below.refl _ _ | assumption | refine Below.setCell ?_ (by first | omega | (simp <;> omega)) _ | refine Below.alloc ?_ (by first | omega | (simp <;> omega)) _ | refine Below.drew ?_ | refine below_drewN' ?_ _)))) (by first | assumption | (unfold Bx3; refine ⟨?_, ?_, ?_, ?_⟩ <;> (first | (simp; done) | (simp [go_sem]; done))))).mono ?_); rintro e w1 ⟨⟨rfl, hb_w1⟩, hx_w1⟩; have hB_w1 : Below w.heap.size w w1 := Below.next (by (repeat (first | exact Below.refl _ _ | assumption | refine Below.setCell ?_ (by first | omega | (simp <;> omega)) _ | refine Below.alloc ?_ (by first | omega | (simp <;> omega)) _ | refine Below.drew ?_ | refine below_drewN' ?_ _))) hb_w1; obtain ⟨cz, c0, cg, cs⟩ := id hx_w1)
          | (go_at_call 27; (with_reducible refine (box_call3 (w := w) (vi := .slice a n c) (g := false) (sc := sc) (HFR.out _ (by (repeat (first | exact Below.refl _ _ | assumption | refine Below.setCell ?_ (by first | omega | (simp <;> omega)) _ | refine Below.alloc ?_ (by first | omega | (simp <;> omega)) _ | refine Below.drew ?_ | refine below_drewN' ?_ _)))) (by first | assumption | (unfold Bx3; refine ⟨?_, ?_, ?_, ?_⟩ <;> (first | (simp; done) | (simp [go_sem]; done))))).mono ?_); rintro e w1 ⟨⟨rfl, hb_w1⟩, hx_w1⟩; have hB_w1 : Below w.heap.size w w1 := Below.next (by (repeat (first | exact Below.refl _ _ | assumption | refine Below.setCell ?_ (by first | omega | (simp <;> omega)) _ | refine Below.alloc ?_ (by first | omega | (simp <;> omega)) _ | refine Below.drew ?_ | refine below_drewN' ?_ _))) hb_w1; obtain ⟨cz, c0, cg, cs⟩ := id hx_w1)
          | (go_at_call 28; (with_reducible refine (box_call3 (w := w) (vi := .slice a n c) (g := false) (sc := sc) (HNUM.out _ (by (repeat (first | exact Below.refl _ _ | assumption | refine Below.setCell ?_ (by first | omega | (simp <;> omega)) _ | refine Below.alloc ?_ (by first | omega | (simp <;> omega)) _ | refine Below.drew ?_ | refine below_drewN' ?_ _)))) (by first | assumption | (unfold Bx3; refine ⟨?_, ?_, ?_, ?_⟩ <;> (first | (simp; done) | (simp [go_sem]; done))))).mono ?_); rintro e w1 ⟨⟨rfl, hb_w1⟩, hx_w1⟩; have hB_w1 : Below w.heap.size w w1 := Below.next (by (repeat (first | exact Below.refl _ _ | assumption | refine Below.setCell ?_ (by first | omega | (simp <;> omega)) _ | refine Below.alloc ?_ (by first | omega | (simp <;> omega)) _ | refine Below.drew ?_ | refine below_drewN' ?_ _))) hb_w1; obtain ⟨cz, c0, cg, cs⟩ := id hx_w1))
        all_goals
          go_ret
          refine RetB.of (congrArg (Value.int .i64) ?_) (by (repeat (first | exact Below.refl _ _ | assumption | refine Below.setCell ?_ (by first | omega | (simp <;> omega)) _ | refine Below.alloc ?_ (by first | omega | (simp <;> omega)) _ | refine Below.drew ?_ | refine below_drewN' ?_ _)))
          rw [HR.out]
          clear HR
          repeat' split
          all_goals first | rfl | (exfalso; omega) | (exfalso; simp_all; done) | (exfalso; simp_all; omega)
  | true =>
    go_enter Tryd.func10, Tryd.ntmps10
    go_wp2_with fail
    go_loopw [4] (fun i wr => ∃ k : Nat, i = .int .i64 (k : Int) ∧ k ≤ n ∧ Hid (∀ j (hj : j < l.length), j < k → Pa.rightI l[j] = true) ∧ Below w.heap.size w wr ∧ Bx3 w wr (.slice a n c) true sc) (fun i _ => n - (intOf i).toNat)
    case atStart => exact ⟨0, rfl, Nat.zero_le _, Lib.hid (fun j hj h => absurd h (Nat.not_lt_zero _)), by (repeat (first | exact Below.refl _ _ | assumption | refine Below.setCell ?_ (by first | omega | (simp <;> omega)) _ | refine Below.alloc ?_ (by first | omega | (simp <;> omega)) _ | refine Below.drew ?_ | refine below_drewN' ?_ _)), by unfold Bx3; refine ⟨?_, ?_, ?_, ?_⟩ <;> simp [go_sem]⟩
    case round =>
      obtain ⟨k, rfl, hk, HP, hbr, hbx⟩ := hrel
      have hzr := hbr.size
      by_cases hlt : k < n
      · have hkl : k < l.length := by rw [← HN.out]; exact hlt
        obtain ⟨b, o, c', e', _, hb, hh⟩ := HGT.out (by omega)
        rw [← HN.out] at e'
        cases e'
        obtain ⟨q0, q1⟩ := hh k hkl
        replace q0 := (hbr.cell (p := ⟨b, o + k * 2, none⟩) (by simp only; omega)).trans q0
        replace q1 := (hbr.cell (p := ⟨b, o + k * 2 + 1, none⟩) (by simp only; omega)).trans q1
        have hit := r_item_any l[k] wr (HTX.out k hkl)
        unfold itV at hit
        have i1 : (k : Int) < (n : Int) := by omega
        have i2 : (k : Int) ≤ 1000000 := by omega
        clear hh
        cases hri : Pa.rightI l[k] with
        | true =>
          rw [hri] at hit
          have HI := Lib.hid hit; have HRI := Lib.hid hri
          clear hit hri
          go_wp2_with (go_at_call 25; (with_reducible refine (HI.out).mono ?_); rintro e w1 ⟨rfl, hb_w1⟩)
          go_roundw
          case rel => exact ⟨k + 1, by go_num, by omega, Lib.hid (fun j hj h => by
            by_cases e : j = k
            · subst e; exact HRI.out
            · exact HP.out j hj (by omega)), hbr.trans (hb_w1.mono hzr), hbx.on hb_w1⟩
          case measure => simp [intOf]; omega
        | false =>
          rw [hri] at hit
          have hr0 : r = 0 := HF.out (all_not hkl hri)
          subst hr0
          have HI := Lib.hid hit
          clear hit hri HF HT
          go_wp2_with (go_at_call 25; (with_reducible refine (HI.out).mono ?_); rintro e w1 ⟨rfl, hb_w1⟩)
          go_ret
          exact RetB.of rfl (hbr.trans (hb_w1.mono hzr))
      · have hkn : k = n := by omega
        subst hkn
        have hT := HT.out (all_upto fun j hj => HP.out j hj (by rw [HN.out]; exact hj))
        have HR := Lib.hid hT
        have i1 : ¬ (k : Int) < (k : Int) := by omega
        obtain ⟨cz, c0, cg, cs⟩ := id hbx
        clear hT HT HF HP HGT HTX
        generalize hK : k = n at *
        go_wp2_with (first
          | (go_at_call 26; (with_reducible refine (box_call3 (w := w) (vi := .slice a n c) (g := true) (sc := sc) (H2.out _ (by (repeat (first | exact Below.refl _ _ | assumption | refine Below.setCell ?_ (by first | omega | (simp <;> omega)) _ | refine Below.alloc ?_ (by first | omega | (simp <;> omega)) _ | refine Below.drew ?_ | refine below_drewN' ?_ _)))) (by first | assumption | (unfold Bx3; refine ⟨?_, ?_, ?_, ?_⟩ <;> (first | (simp; done) | (simp [go_sem]; done))))).mono ?_); rintro e w1 ⟨⟨rfl, hb_w1⟩, hx_w1⟩; have hB_w1 : Below w.heap.size w w1 := Below.next (by (repeat (first | exact Below.refl _ _ | assumption | refine Below.setCell ?_ (by first | omega | (simp <;> omega)) _ | refine Below.alloc ?_ (by first | omega | (simp <;> omega)) _ | refine Below.drew ?_ | refine below_drewN' ?_ _))) hb_w1; obtain ⟨cz, c0, cg, cs⟩ := id hx_w1)
          | (go_at_call 26; (with_reducible refine (box_call3 (w := w) (vi := .slice a n c) (g := true) (sc := sc) (H3.out _ (by (repeat (first | exact Below.refl _ _ | assumption | refine Below.setCell ?_ (by first | omega | (simp <;> omega)) _ | refine Below.alloc ?_ (by first | omega | (simp <;> omega)) _ | refine Below.drew ?_ | refine below_drewN' ?_ _)))) (by first | assumption | (unfold Bx3; refine ⟨?_, ?_, ?_, ?_⟩ <;> (first | (simp; done) | (simp [go_sem]; done))))).mono ?_); rintro e w1 ⟨⟨rfl, hb_w1⟩, hx_w1⟩; have hB_w1 : Below w.heap.size w w1 := Below.next (by (repeat (first | exact Below.refl _ _ | assumption | refine Below.setCell ?_ (by first | omega | (simp <;> omega)) _ | refine Below.alloc ?_ (by first | omega | (simp <;> omega)) _ | refine Below.drew ?_ | refine below_drewN' ?_ _))) hb_w1; obtain ⟨cz, c0, cg, cs⟩ := id hx_w1)
          | (go_at_call 26; (with_reducible refine (box_call3 (w := w) (vi := .slice a n c) (g := true) (sc := sc) (H4.out _ (by (repeat (first | exact Below.refl _ _ | assumption | refine Below.setCell ?_ (by first | omega | (simp <;> omega)) _ | refine Below.alloc ?_ (by first | omega | (simp <;> omega)) _ | refine Below.drew ?_ | refine below_drewN' ?_ _)))) (by first | assumption | (unfold Bx3; refine ⟨?_, ?_, ?_, ?_⟩ <;> (first | (simp; done) | (simp [go_sem]; done))))).mono ?_); rintro e w1 ⟨⟨rfl, hb_w1⟩, hx_w1⟩; have hB_w1 : Below w.heap.size w w1 := Below.next (by (repeat (first | exact Below.refl _ _ | assumption | refine Below.setCell ?_ (by first | omega | (simp <;> omega)) _ | refine Below.alloc ?_ (by first | omega | (simp <;> omega)) _ | refine Below.drew ?_ | refine below_drewN' ?_ _))) hb_w1; obtain ⟨cz, c0, cg, cs⟩ := id hx_w1)
          | (go_at_call 26; (with_reducible refine (box_call3 (w := w) (vi := .slice a n c) (g := true) (sc := sc) (H5.out _ (by (repeat (first | exact Below.refl _ _ | assumption | refine Below.setCell ?_ (by first | omega | (simp <;> omega)) _ | refine Below.alloc ?_ (by first | omega | (simp <;> omega)) _ | refine Below.drew ?_ | refine below_drewN' ?_ _)))) (by first | assumption | (unfold Bx3; refine ⟨?_, ?_, ?_, ?_⟩ <;> (first | (simp; done) | (simp [go_sem]; done))))).mono ?_); rintro e w1 ⟨⟨rfl, hb_w1⟩, hx_w1⟩; have hB_w1 : Below w.heap.size w w1 := Below.next (by (repeat (first | exact Below.refl _ _ | assumption | refine Below.setCell ?_ (by first | omega | (simp <;> omega)) _ | refine Below.alloc ?_ (by first | omega | (simp <;> omega)) _ | refine Below.drew ?_ | refine below_drewN' ?_ _))) hb_w1; obtain ⟨cz, c0, cg, cs⟩ := id hx_w1)
          | (go_at_call 26; (with_reducible refine (box_call3 (w := w) (vi := .slice a n c) (g := true) (sc := sc) (H6.out _ (by (repeat (first | exact Below.refl _ _ | assumption | refine Below.setCell ?_ (by first | omega | (simp <;> omega)) _ | refine Below.alloc ?_ (by first | omega | (simp <;> omega)) _ | refine Below.drew ?_ | refine below_drewN' ?_ _)))) (by first | assumption | (unfold Bx3; refine ⟨?_, ?_, ?_, ?_⟩ <;> (first | (simp; done) | (simp [go_sem]; done))))).mono ?_); rintro e w1 ⟨⟨rfl, hb_w1⟩, hx_w1⟩; have hB_w1 : Below w.heap.size w w1 := Below.next (by (repeat (first | exact Below.refl _ _ | assumption | refine Below.setCell ?_ (by first | omega | (simp <;> omega)) _ | refine Below.alloc ?_ (by first | omega | (simp <;> omega)) _ | refine Below.drew ?_ | refine below_drewN' ?_ _))) hb_w1; obtain ⟨cz, c0, cg, cs⟩ := id hx_w1)
          | (go_at_call 26; (with_reducible refine (box_call3 (w := w) (vi := .slice a n c) (g := true) (sc := sc) (H7.out _ (by (repeat (first | exact Below.refl _ _ | assumption | refine Below.setCell ?_ (by first | omega | (simp <;> omega)) _ | refine Below.alloc ?_ (by first | omega | (simp <;> omega)) _ | refine Below.drew ?_ | refine below_drewN' ?_ _)))) (by first | assumption | (unfold Bx3; refine ⟨?_, ?_, ?_, ?_⟩ <;> (first | (simp; done) | (simp [go_sem]; done))))).mono ?_); rintro e w1 ⟨⟨rfl, hb_w1⟩, hx_w1⟩; have hB_w1 : Below w.heap.size w w1 := Below.next (by (repeat (first | exact Below.refl _ _ | assumption | refine Below.setCell ?_ (by first | omega | (simp <;> omega)) _ | refine Below.alloc ?_ (by first | omega | (simp <;> omega)) _ | refine Below.drew ?_ | refine below_drewN' ?_ _))) hb_w1; obtain ⟨cz, c0, cg, cs⟩ := id hx_w1)
          | (go_at_call 26; (with_reducible refine (box_call3 (w := w) (vi := .slice a n c) (g := true) (sc := sc) (H8.out _ (by (repeat (first | exact Below.refl _ _ | assumption | refine Below.setCell ?_ (by first | omega | (simp <;> omega)) _ | refine Below.alloc ?_ (by first | omega | (simp <;> omega)) _ | refine Below.drew ?_ | refine below_drewN' ?_ _)))) (by first | assumption | (unfold Bx3; refine ⟨?_, ?_, ?_, ?_⟩ <;> (first | (simp; done) | (simp [go_sem]; done))))).mono ?_); rintro e w1 ⟨⟨rfl, hb_w1⟩, hx_w1⟩; have hB_w1 : Below w.heap.size w w1 := Below.next (by (repeat (first | exact Below.refl _ _ | assumption | refine Below.setCell ?_ (by first | omega | (simp <;> omega)) _ | refine Below.alloc ?_ (by first | omega | (simp <;> omega)) _ | refine Below.drew ?_ | refine below_drewN' ?_ _))) hb_w1; obtain ⟨cz, c0, cg, cs⟩ := id hx_w1)
          | (go_at_call 26; (with_reducible refine (box_call3 (w := w) (vi := .slice a n c) (g := true) (sc := sc) (H9.out _ (by (repeat (first | exact Below.refl _ _ | assumption | refine Below.setCell ?_ (by first | omega | (simp <;> omega)) _ | refine Below.alloc ?_ (by first | omega | (simp <;> omega)) _ | refine Below.drew ?_ | refine below_drewN' ?_ _)))) (by first | assumption | (unfold Bx3; refine ⟨?_, ?_, ?_, ?_⟩ <;> (first | (simp; done) | (simp [go_sem]; done))))).mono ?_); rintro e w1 ⟨⟨rfl, hb_w1⟩, hx_w1⟩; have hB_w1 : Below w.heap.size w w1 := Below.next (by (repeat (first | exact Below.refl _ _ | assumption | refine Below.setCell ?_ (by first | omega | (simp <;> omega)) _ | refine Below.alloc ?_ (by first | omega | (simp <;> omega)) _ | refine Below.drew ?_ | refine below_drewN' ?_ _))) hb_w1; obtain ⟨cz, c0, cg, cs⟩ := id hx_w1)
          | (go_at_call 27; (with_reducible refine (box_call3 (w := w) (vi := .slice a n c) (g := true) (sc := sc) (HFR.out _ (by (repeat (first | exact Below.refl _ _ | assumption | refine Below.setCell ?_ (by first | omega | (simp <;> omega)) _ | refine Below.alloc ?_ (by first | omega | (simp <;> omega)) _ | refine Below.drew ?_ | refine below_drewN' ?_ _)))) (by first | assumption | (unfold Bx3; refine ⟨?_, ?_, ?_, ?_⟩ <;> (first | (simp; done) | (simp [go_sem]; done))))).mono ?_); rintro e w1 ⟨⟨rfl, hb_w1⟩, hx_w1⟩; have hB_w1 : Below w.heap.size w w1 := Below.next (by (repeat (first | exact Below.refl _ _ | assumption | refine Below.setCell ?_ (by first | omega | (simp <;> omega)) _ | refine Below.alloc ?_ (by first | omega | (simp <;> omega)) _ | refine Below.drew ?_ | refine below_drewN' ?_ _))) hb_w1; obtain ⟨cz, c0, cg, cs⟩ := id hx_w1)
          | (go_at_call 28; (with_reducible refine (box_call3 (w := w) (vi := .slice a n c) (g := true) (sc := sc) (HNUM.out _ (by (repeat (first | exact Below.refl _ _ | assumption | refine Below.setCell ?_ (by first | omega | (simp <;> omega)) _ | refine Below.alloc ?_ (by first | omega | (simp <;> omega)) _ | refine Below.drew ?_ | refine below_drewN' ?_ _)))) (by first | assumption | (unfold Bx3; refine ⟨?_, ?_, ?_, ?_⟩ <;> (first | (simp; done) | (simp [go_sem]; done))))).mono ?_); rintro e w1 ⟨⟨rfl, hb_w1⟩, hx_w1⟩; have hB_w1 : Below w.heap.size w w1 := Below.next (by (repeat (first | exact Below.refl _ _ | assumption | refine Below.setCell ?_ (by first | omega | (simp <;> omega)) _ | refine Below.alloc ?_ (by first | omega | (simp <;> omega)) _ | refine Below.drew ?_ | refine below_drewN' ?_ _))) hb_w1; obtain ⟨cz, c0, cg, cs⟩ := id hx_w1))
        all_goals
          go_ret
          refine RetB.of (congrArg (Value.int .i64) ?_) (by (repeat (first | exact Below.refl _ _ | assumption | refine Below.setCell ?_ (by first | omega | (simp <;> omega)) _ | refine Below.alloc ?_ (by first | omega | (simp <;> omega)) _ | refine Below.drew ?_ | refine below_drewN' ?_ _)))
          rw [HR.out]
          clear HR
          repeat' split
          all_goals first | rfl | (exfalso; omega) | (exfalso; simp_all; done) | (exfalso; simp_all; omega)
end Go.Proofs.YticodcecillciaaDoor
