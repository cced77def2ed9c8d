/- The Reader in the program: a power that is made when it is asked for first. -/
import Derived.Test.YtiglekomfgfilaaGreatDoorX21
import Derived.Test.YtiglekomfgfilaaGreatDoorX11
import Derived.Test.YtiglekomfgfilaaGreatDoorX9
import Derived.Test.YtiglekomfgfilaaGreatDoorX2
import Derived.Lib.ParseIntBCases
import Derived.Lib.AtoiErrMem
namespace Go.Proofs.YtiglekomfgfilaaGreatDoor
set_option maxRecDepth 100000
set_option maxHeartbeats 4000000
set_option linter.all false
open Go.RowKit
def Fl.pcells (n : Int) : List Value := [.int .u64 ((Fl.pwP n / 18446744073709551616 : Nat) : Int), .int .u64 ((Fl.pwP n % 18446744073709551616 : Nat) : Int), .int .i64 (Fl.pwE n), .bool (Fl.pwA n)]
theorem re_of1_any (gn gs b o : Nat) (n : Int) (W : World) (hn : -400 ≤ n ∧ n ≤ 400) (hgn : gn < W.heap.size) (hgs : gs < W.heap.size) (hb : b < W.heap.size) (hnb : gn ≠ b) (hsb : gs ≠ b)
    (h0 : W.cell? ⟨gn, 0, none⟩ = some (.int .i64 n)) (h1 : W.cell? ⟨gs, 0, none⟩ = some (.pointer (some ⟨b, o, none⟩)))
    (c0 : W.cell? ⟨b, o + 3, none⟩ = some (.int .u64 0)) (c1 : W.cell? ⟨b, o + 4, none⟩ = some (.int .u64 0)) (c2 : W.cell? ⟨b, o + 5, none⟩ = some (.int .i64 0)) (c3 : W.cell? ⟨b, o + 6, none⟩ = some (.bool false)) (hf : ∀ o, W.frozen? ⟨b, o, none⟩ = false) :
    Calls Tryz.prog 183 #[.pointer (some ⟨gn, 0, none⟩), .pointer (some ⟨gs, 0, none⟩)] W fun e w' => e = .returned (.tuple #[]) ∧ ∃ W1, Below W.heap.size W W1 ∧ w' = W1.setCells b (o + 3) (Fl.pcells n) := by
  have h1' := fun w1 => re_made_any n hn w1
  simp only [Fl.pval] at h1'
  rw [Fl.pcells]
  obtain ⟨A, hA⟩ : ∃ A, A = Fl.pwP n / 18446744073709551616 := ⟨_, rfl⟩
  obtain ⟨B, hB⟩ : ∃ A, A = Fl.pwP n % 18446744073709551616 := ⟨_, rfl⟩
  obtain ⟨C, hC⟩ : ∃ A, A = Fl.pwE n := ⟨_, rfl⟩
  obtain ⟨D, hD⟩ : ∃ A, A = Fl.pwA n := ⟨_, rfl⟩
  rw [← hA, ← hB, ← hC, ← hD] at h1'
  rw [← hA, ← hB, ← hC, ← hD]
  have H1 := Lib.hid h1'
  clear h1' hA hB hC hD
  have f0 := hf (o + 3); have f1 := hf (o + 4); have f2 := hf (o + 5); have f3 := hf (o + 6)
  go_enter Tryz.func183, Tryz.ntmps183
  go_upto_region 0 with (fail)
  go_region_held3 (fun w' => w'.cell? ⟨gn, 0, none⟩ = some (.int .i64 n) ∧ w'.cell? ⟨gs, 0, none⟩ = some (.pointer (some ⟨b, o, none⟩)))
    (first | go_keep | (refine ⟨?_, ?_⟩ <;> (first | (rw [hr0_w1]; assumption) | (rw [hr1_w1]; assumption))) | (refine ⟨?_, ?_⟩ <;> (first | (go_simp; done) | (simp [go_sem, *]; done))))
    (first | (go_at_call 184; (with_reducible refine (H1.out _).mono ?_); rintro e w1 ⟨rfl, hb_w1⟩; have hB_w1 : Below (W).heap.size (W) w1 := Below.trans (by (repeat (first | exact Below.refl _ _ | assumption | refine Below.setCell ?_ (by first | omega | (simp <;> omega)) _ | refine Below.alloc ?_ (by first | omega | (simp <;> omega)) _ | refine Below.drew ?_ | refine below_drewN' ?_ _))) (hb_w1.mono (by first | omega | (simp <;> omega))); obtain ⟨hc_w1, hf_w1⟩ := bcell hb_w1; have hz_w1 := hb_w1.size; (try simp only [zD, zN, zA, zS] at hz_w1); have hk := own6 hb_w1 (gn) (by (try simp only [zD, zN, zA, zS]); omega); obtain ⟨hl0_w1, hm0_w1, hn0_w1, hq0_w1, hr0_w1, hg0_w1⟩ := hk; have hk := own6 hb_w1 (gs) (by (try simp only [zD, zN, zA, zS]); omega); obtain ⟨hl1_w1, hm1_w1, hn1_w1, hq1_w1, hr1_w1, hg1_w1⟩ := hk; have hk := own6 hb_w1 (b) (by (try simp only [zD, zN, zA, zS]); omega); obtain ⟨hl2_w1, hm2_w1, hn2_w1, hq2_w1, hr2_w1, hg2_w1⟩ := hk))
  all_goals (refine bodyPost_end (results_none rfl _ _ _) rfl ?_)
  all_goals first
    | exact ⟨rfl, w1, hB_w1, rfl⟩
    | exact ⟨rfl, w1.drew, hB_w1.drew, rfl⟩
    | exact ⟨rfl, _, below_drewN' hB_w1 _, rfl⟩
theorem slot_filled {W0 W1 w' : World} {b o : Nat} {n : Int} (hb : b < W0.heap.size) (s : Slot0 W0 b o) (h1 : Below (W0.setCell ⟨b, o + 1, none⟩ (.int .i32 1)).heap.size (W0.setCell ⟨b, o + 1, none⟩ (.int .i32 1)) W1)
    (hw : w' = (((W1.setCells b (o + 3) (Fl.pcells n)).setCell ⟨b, o, none⟩ (.int .u32 1)).setCell ⟨b, o + 1, none⟩ (.int .i32 0)).drew) : Turn b o W0 w' ∧ Slot1 w' b o n := by
  have hb1 : b < (W0.setCell ⟨b, o + 1, none⟩ (.int .i32 1)).heap.size := by rw [World.size_setCell]; exact hb
  have t1 : Turn b o W0 W1 := ((Turn.refl b o W0).setCell (j := o + 1) (by omega) (.int .i32 1)).trans (Turn.of hb1 h1)
  have k : ∀ j, j ≠ o + 1 → W1.cell? ⟨b, j, none⟩ = W0.cell? ⟨b, j, none⟩ := fun j hj =>
    (h1.cell (p := ⟨b, j, none⟩) hb1).trans (World.cell?_setCell_other _ ⟨b, o + 1, none⟩ ⟨b, j, none⟩ _ (by intro e; injection e; omega))
  have d0 := (k o (by omega)).trans s.done
  have d3 := (k (o + 3) (by omega)).trans s.hi
  have d4 := (k (o + 4) (by omega)).trans s.lo
  have d5 := (k (o + 5) (by omega)).trans s.e
  have d6 := (k (o + 6) (by omega)).trans s.all
  have ne : ∀ (w : World) (i j : Nat) (u : Value), i ≠ j → (w.setCell ⟨b, i, none⟩ u).cell? ⟨b, j, none⟩ = w.cell? ⟨b, j, none⟩ := fun w i j u h => World.cell?_setCell_other _ ⟨b, i, none⟩ ⟨b, j, none⟩ _ (by intro e; injection e; omega)
  obtain ⟨A, hA⟩ : ∃ A : Value, A = .int .u64 ((Fl.pwP n / 18446744073709551616 : Nat) : Int) := ⟨_, rfl⟩
  obtain ⟨B, hB⟩ : ∃ A : Value, A = .int .u64 ((Fl.pwP n % 18446744073709551616 : Nat) : Int) := ⟨_, rfl⟩
  obtain ⟨C, hC⟩ : ∃ A : Value, A = .int .i64 (Fl.pwE n) := ⟨_, rfl⟩
  obtain ⟨D, hD⟩ : ∃ A : Value, A = .bool (Fl.pwA n) := ⟨_, rfl⟩
  have hp : Fl.pcells n = [A, B, C, D] := by rw [Fl.pcells, hA, hB, hC, hD]
  rw [hp] at hw
  have hw2 : w' = ((((((W1.setCell ⟨b, o + 3, none⟩ A).setCell ⟨b, o + 4, none⟩ B).setCell ⟨b, o + 5, none⟩ C).setCell ⟨b, o + 6, none⟩ D).setCell ⟨b, o, none⟩ (.int .u32 1)).setCell ⟨b, o + 1, none⟩ (.int .i32 0)).drew := hw
  clear hw
  subst hw2
  refine ⟨((((((t1.setCell (by omega) _).setCell (by omega) _).setCell (by omega) _).setCell (by omega) _).setCell (by omega) _).setCell (by omega) _).drew, ?_, ?_, ?_, ?_, ?_⟩
  · rw [World.cell?_drew, ne _ _ _ _ (by omega), World.cell?_setCell_same _ _ _ (by rw [ne _ _ _ _ (by omega), ne _ _ _ _ (by omega), ne _ _ _ _ (by omega), ne _ _ _ _ (by omega)]; exact d0)]
  · rw [World.cell?_drew, ne _ _ _ _ (by omega), ne _ _ _ _ (by omega), ne _ _ _ _ (by omega), ne _ _ _ _ (by omega), ne _ _ _ _ (by omega), World.cell?_setCell_same _ _ _ d3, hA]
  · rw [World.cell?_drew, ne _ _ _ _ (by omega), ne _ _ _ _ (by omega), ne _ _ _ _ (by omega), ne _ _ _ _ (by omega), World.cell?_setCell_same _ _ _ (by rw [ne _ _ _ _ (by omega)]; exact d4), hB]
  · rw [World.cell?_drew, ne _ _ _ _ (by omega), ne _ _ _ _ (by omega), ne _ _ _ _ (by omega), World.cell?_setCell_same _ _ _ (by rw [ne _ _ _ _ (by omega), ne _ _ _ _ (by omega)]; exact d5), hC]
  · rw [World.cell?_drew, ne _ _ _ _ (by omega), ne _ _ _ _ (by omega), World.cell?_setCell_same _ _ _ (by rw [ne _ _ _ _ (by omega), ne _ _ _ _ (by omega), ne _ _ _ _ (by omega)]; exact d6), hD]
theorem on_do_done (b o : Nat) (fv : Value) (w : World) (h0 : w.cell? ⟨b, o, none⟩ = some (.int .u32 1)) (hb : b < w.heap.size) :
    Calls Tryz.prog 182 #[.pointer (some ⟨b, o, none⟩), fv] w fun e w' => e = .returned (.tuple #[]) ∧ w' = w := by
  have HL := Lib.hid (on_load ⟨b, o, none⟩ 1 true w h0 rfl)
  go_enter Tryz.func182, Tryz.ntmps182
  go_wp2_with (go_at_call 204; refine (HL.out).mono ?_; rintro e w' ⟨rfl, rfl⟩)
  refine bodyPost_end (results_none rfl _ _ _) rfl ?_
  exact ⟨rfl, rfl⟩
theorem on_do_now (gn gs b o : Nat) (n : Int) (w : World) (hn : -400 ≤ n ∧ n ≤ 400) (hgn : gn < w.heap.size) (hgs : gs < w.heap.size) (hb : b < w.heap.size) (hnb : gn ≠ b) (hsb : gs ≠ b)
    (h0 : w.cell? ⟨gn, 0, none⟩ = some (.int .i64 n)) (h1 : w.cell? ⟨gs, 0, none⟩ = some (.pointer (some ⟨b, o, none⟩))) (s : Slot0 w b o) (hf : ∀ o, w.frozen? ⟨b, o, none⟩ = false) :
    Calls Tryz.prog 182 #[.pointer (some ⟨b, o, none⟩), .func (.func 183) #[] #[.pointer (some ⟨gn, 0, none⟩), .pointer (some ⟨gs, 0, none⟩)]] w fun e w' => e = .returned (.tuple #[]) ∧ Turn b o w w' ∧ Slot1 w' b o n := by
  have HL := Lib.hid (on_load ⟨b, o, none⟩ 0 false w s.done rfl)
  have ne : ∀ (g i : Nat) (u : Value), g ≠ b ∨ i ≠ o + 1 → (w.setCell ⟨b, o + 1, none⟩ u).cell? ⟨g, i, none⟩ = w.cell? ⟨g, i, none⟩ := fun g i u h => World.cell?_setCell_other _ ⟨b, o + 1, none⟩ ⟨g, i, none⟩ _ (by intro e; injection e with e1 e2; rcases h with h | h; exact h e1.symm; omega)
  have hs := on_slow b o 183 #[.pointer (some ⟨gn, 0, none⟩), .pointer (some ⟨gs, 0, none⟩)] w
    (fun w2 => ∃ W1, Below (w.setCell ⟨b, o + 1, none⟩ (.int .i32 1)).heap.size (w.setCell ⟨b, o + 1, none⟩ (.int .i32 1)) W1 ∧ w2 = W1.setCells b (o + 3) (Fl.pcells n)) s.done s.lock hf rfl
    ((re_of1_any gn gs b o n (w.setCell ⟨b, o + 1, none⟩ (.int .i32 1)) hn (by rw [World.size_setCell]; exact hgn) (by rw [World.size_setCell]; exact hgs) (by rw [World.size_setCell]; exact hb) hnb hsb
      ((ne _ _ _ (Or.inl hnb)).trans h0) ((ne _ _ _ (Or.inl hsb)).trans h1) ((ne _ _ _ (Or.inr (by omega))).trans s.hi) ((ne _ _ _ (Or.inr (by omega))).trans s.lo) ((ne _ _ _ (Or.inr (by omega))).trans s.e) ((ne _ _ _ (Or.inr (by omega))).trans s.all)
      (fun o' => by rw [World.frozen?_setCell]; exact hf o')).mono (fun e w' ⟨he, W1, hB, hw⟩ => by
        have hb1 : b < (w.setCell ⟨b, o + 1, none⟩ (.int .i32 1)).heap.size := by rw [World.size_setCell]; exact hb
        have hset : ∀ j, j < o + 3 → (W1.setCells b (o + 3) (Fl.pcells n)).cell? ⟨b, j, none⟩ = W1.cell? ⟨b, j, none⟩ := fun j hj => by
          have q : ∀ (w : World) (i : Nat) (u : Value), i ≠ j → (w.setCell ⟨b, i, none⟩ u).cell? ⟨b, j, none⟩ = w.cell? ⟨b, j, none⟩ := fun w i u h => World.cell?_setCell_other _ ⟨b, i, none⟩ ⟨b, j, none⟩ _ (by intro e; injection e; omega)
          exact (q _ (o + 6) _ (by omega)).trans ((q _ (o + 5) _ (by omega)).trans ((q _ (o + 4) _ (by omega)).trans (q _ (o + 3) _ (by omega))))
        refine ⟨he, ⟨W1, hB, hw⟩, ?_, ?_, fun o' => ?_⟩
        · rw [hw, hset o (by omega)]; exact (hB.cell (p := ⟨b, o, none⟩) hb1).trans ((ne _ _ _ (Or.inr (by omega))).trans s.done)
        · rw [hw, hset (o + 1) (by omega)]; exact (hB.cell (p := ⟨b, o + 1, none⟩) hb1).trans (World.cell?_setCell_same _ _ _ s.lock)
        · rw [hw, World.frozen?_setCells]; exact (hB.frozen (p := ⟨b, o', none⟩) hb1).trans (by rw [World.frozen?_setCell]; exact hf o')))
  have HS := Lib.hid hs
  clear hs ne
  go_enter Tryz.func182, Tryz.ntmps182
  go_wp2_with (first
    | (go_at_call 204; refine (HL.out).mono ?_; rintro e w' ⟨rfl, rfl⟩)
    | (go_at_call 205; refine (HS.out).mono ?_; rintro e w' ⟨rfl, w2, ⟨W1, hB, rfl⟩, hw⟩))
  refine bodyPost_end (results_none rfl _ _ _) rfl ?_
  exact ⟨rfl, slot_filled hb s hB rfl⟩
end Go.Proofs.YtiglekomfgfilaaGreatDoor

/- The Reader in the program: a power of ten is told. -/
namespace Go.Proofs.YtiglekomfgfilaaGreatDoor
set_option maxRecDepth 100000
set_option maxHeartbeats 4000000
set_option linter.all false
open Go.RowKit
theorem Slot0.same {w w' : World} {b o : Nat} (h : Slot0 w b o) (hc : ∀ o', w'.cell? ⟨b, o', none⟩ = w.cell? ⟨b, o', none⟩) : Slot0 w' b o :=
  ⟨(hc _).trans h.done, (hc _).trans h.lock, (hc _).trans h.hi, (hc _).trans h.lo, (hc _).trans h.e, (hc _).trans h.all⟩
theorem Slot1.same {w w' : World} {b o : Nat} {n : Int} (h : Slot1 w b o n) (hc : ∀ o', w'.cell? ⟨b, o', none⟩ = w.cell? ⟨b, o', none⟩) : Slot1 w' b o n :=
  ⟨(hc _).trans h.done, (hc _).trans h.hi, (hc _).trans h.lo, (hc _).trans h.e, (hc _).trans h.all⟩
theorem Rdr.below {w w' : World} {b B : Nat} (h : Rdr w b) (hb : Below B w w') (hB : b < B) : Rdr w' b :=
  ⟨Nat.lt_of_lt_of_le h.lt hb.size, fun o => (hb.frozen (p := ⟨b, o, none⟩) hB).trans (h.free o), fun n h1 h2 => (h.slot n h1 h2).imp (fun s => s.same fun o' => hb.cell (p := ⟨b, o', none⟩) hB) (fun s => s.same fun o' => hb.cell (p := ⟨b, o', none⟩) hB)⟩
theorem Onl.own {b : Nat} {w w2 Y : World} (h : Onl b w w2) (hb : Below w.heap.size w2 Y) (hl : b < w.heap.size) : Onl b w Y :=
  ⟨h.below.trans (hb.mono (Nat.le_of_lt hl)), fun i hi hl' => (hb.block i hl').trans (h.block i hi hl')⟩
theorem re_of_any (b : Nat) (n : Int) (w : World) (hn : -400 ≤ n ∧ n ≤ 400) (hr : Rdr w b) : Calls Tryz.prog 150 #[.pointer (some ⟨b, 0, none⟩), .int .i64 n] w (RetR b (Fl.pval n) w) := by
  obtain ⟨k, hk⟩ : ∃ k : Nat, (400 : Int) + n = (k : Int) := ⟨(400 + n).toNat, by omega⟩
  have hko : slotAt n = k * 7 := by unfold slotAt; omega
  have hkl : k ≤ 800 := by omega
  obtain ⟨n1, n2⟩ := hn
  have hs := hr.slot n n1 n2
  have hbl := hr.lt
  have HR := Lib.hid hr
  have HS := Lib.hid hs
  have HKO := Lib.hid hko
  clear hr hs hko
  go_enter Tryz.func150, Tryz.ntmps150
  go_upto_region 1 with (fail)
  go_region
  have hcf : CF ((((w.alloc (Obj.cells #[Value.int IntKind.i64 n] 3)).alloc (Obj.cells #[.int .u64 0, .int .u64 0, .int .i64 0, .bool false] 93)).alloc (Obj.cells #[Value.pointer (some ⟨b, k * 7, none⟩)] 210)).drew) (w.heap.size + 1) pw0 := by
    have h := CF.new (w.alloc (Obj.cells #[Value.int IntKind.i64 n] 3)) pw0 93
    rw [World.size_alloc] at h
    exact (h.alloc _).on ((Below.refl _ _).drew)
  have hX0 : Below w.heap.size w ((((w.alloc (Obj.cells #[Value.int IntKind.i64 n] 3)).alloc (Obj.cells #[.int .u64 0, .int .u64 0, .int .i64 0, .bool false] 93)).alloc (Obj.cells #[Value.pointer (some ⟨b, k * 7, none⟩)] 210)).drew) := by (repeat (first | exact Below.refl _ _ | assumption | refine Below.setCell ?_ (by first | omega | (simp <;> omega)) _ | refine Below.alloc ?_ (by first | omega | (simp <;> omega)) _ | refine Below.drew ?_ | refine below_drewN' ?_ _))
  have hc0 : ((((w.alloc (Obj.cells #[Value.int IntKind.i64 n] 3)).alloc (Obj.cells #[.int .u64 0, .int .u64 0, .int .i64 0, .bool false] 93)).alloc (Obj.cells #[Value.pointer (some ⟨b, k * 7, none⟩)] 210)).drew).cell? ⟨w.heap.size, 0, none⟩ = some (.int .i64 n) := by simp [go_sem]
  have hcs : ((((w.alloc (Obj.cells #[Value.int IntKind.i64 n] 3)).alloc (Obj.cells #[.int .u64 0, .int .u64 0, .int .i64 0, .bool false] 93)).alloc (Obj.cells #[Value.pointer (some ⟨b, k * 7, none⟩)] 210)).drew).cell? ⟨w.heap.size + 1 + 1, 0, none⟩ = some (.pointer (some ⟨b, k * 7, none⟩)) := by simp [go_sem]
  have hsz : w.heap.size + 3 = ((((w.alloc (Obj.cells #[Value.int IntKind.i64 n] 3)).alloc (Obj.cells #[.int .u64 0, .int .u64 0, .int .i64 0, .bool false] 93)).alloc (Obj.cells #[Value.pointer (some ⟨b, k * 7, none⟩)] 210)).drew).heap.size := by simp
  generalize ((((w.alloc (Obj.cells #[Value.int IntKind.i64 n] 3)).alloc (Obj.cells #[.int .u64 0, .int .u64 0, .int .i64 0, .bool false] 93)).alloc (Obj.cells #[Value.pointer (some ⟨b, k * 7, none⟩)] 210)).drew) = X at *
  have hRX := HR.out.on hX0
  have hdo : Calls Tryz.prog 182 #[.pointer (some ⟨b, k * 7, none⟩), .func (.func 183) #[] #[.pointer (some ⟨w.heap.size, 0, none⟩), .pointer (some ⟨w.heap.size + 1 + 1, 0, none⟩)]] X fun e w2 => e = .returned (.tuple #[]) ∧ Onl b X w2 ∧ Rdr w2 b ∧ Slot1 w2 b (k * 7) n := by
    rcases hRX.slot n n1 n2 with s | s
    · rw [HKO.out] at s
      refine (on_do_now w.heap.size (w.heap.size + 1 + 1) b (k * 7) n X ⟨n1, n2⟩ (by omega) (by omega) hRX.lt (by omega) (by omega) hc0 hcs s hRX.free).mono ?_
      rintro e w2 ⟨he, ht, hs⟩
      exact ⟨he, ht.onl, hRX.turn n1 (by rw [HKO.out]; exact ht) (by rw [HKO.out]; exact hs), hs⟩
    · rw [HKO.out] at s
      refine (on_do_done b (k * 7) _ X s.done hRX.lt).mono ?_
      rintro e w2 ⟨he, rfl⟩
      exact ⟨he, Onl.refl _ _, hRX, s⟩
  have hpv : Fl.pval n = .agg #[.int .u64 ((Fl.pwP n / 18446744073709551616 : Nat) : Int), .int .u64 ((Fl.pwP n % 18446744073709551616 : Nat) : Int), .int .i64 (Fl.pwE n), .bool (Fl.pwA n)] := rfl
  have hdo2 : ∀ w2, Slot1 w2 b (k * 7) n → w2.cell? ⟨b, k * 7 + 3, none⟩ = some (.int .u64 ((Fl.pwP n / 18446744073709551616 : Nat) : Int)) ∧ w2.cell? ⟨b, k * 7 + 4, none⟩ = some (.int .u64 ((Fl.pwP n % 18446744073709551616 : Nat) : Int)) ∧ w2.cell? ⟨b, k * 7 + 5, none⟩ = some (.int .i64 (Fl.pwE n)) ∧ w2.cell? ⟨b, k * 7 + 6, none⟩ = some (.bool (Fl.pwA n)) :=
    fun w2 h => ⟨h.hi, h.lo, h.e, h.all⟩
  obtain ⟨A, hA⟩ : ∃ A, A = Fl.pwP n / 18446744073709551616 := ⟨_, rfl⟩
  obtain ⟨B, hB⟩ : ∃ A, A = Fl.pwP n % 18446744073709551616 := ⟨_, rfl⟩
  obtain ⟨C, hC⟩ : ∃ A, A = Fl.pwE n := ⟨_, rfl⟩
  obtain ⟨D, hD⟩ : ∃ A, A = Fl.pwA n := ⟨_, rfl⟩
  rw [← hA, ← hB, ← hC, ← hD] at hdo2
  rw [← hA, ← hB, ← hC, ← hD] at hpv
  have HPV := Lib.hid hpv
  have HD2 := Lib.hid hdo2
  clear hpv hdo2 hA hB hC hD
  have HDO := Lib.hid hdo
  have HCF := Lib.hid hcf; have HX0 := Lib.hid hX0
  have hXs := hX0.size
  clear hdo hcf hX0 hc0 HR HS hRX
  go_wp2_with (go_at_call 182; refine (HDO.out).mono ?_; rintro e w2 ⟨rfl, ho, hrd, hs⟩; obtain ⟨s3, s4, s5, s6⟩ := HD2.out w2 hs; have g0 := (ho.cell (k := w.heap.size + 1 + 1) (o := 0) (by omega) (by omega)).trans hcs; have q0 := (ho.cell (k := w.heap.size + 1) (o := 0) (by omega) (by omega)).trans (HCF.out.1.get 0 rfl); have q1 := (ho.cell (k := w.heap.size + 1) (o := 1) (by omega) (by omega)).trans (HCF.out.1.get 1 rfl); have q2 := (ho.cell (k := w.heap.size + 1) (o := 2) (by omega) (by omega)).trans (HCF.out.1.get 2 rfl); have q3 := (ho.cell (k := w.heap.size + 1) (o := 3) (by omega) (by omega)).trans (HCF.out.1.get 3 rfl); have z := fun o => (ho.frozen (k := w.heap.size + 1) (o := o) (by omega) (by omega)).trans (HCF.out.2 o); have z0 := z 0; have z1 := z 1; have z2 := z 2; have z3 := z 3; have hws := ho.size; have ql : w.heap.size + 1 < w2.heap.size := (by omega))
  have hcf2 : CF w2 (w.heap.size + 1) pw0 := ⟨⟨ql, fun k hk => (ho.cell (k := w.heap.size + 1) (o := k) (by omega) (by omega)).trans (HCF.out.1.2 k hk)⟩, z⟩
  have HS := hcf2.stored [.int .u64 A, .int .u64 B, .int .i64 C, .bool D] rfl
  have HX := below_setCells (B := w.heap.size) (b := w.heap.size + 1) (Nat.le_succ _) [.int .u64 A, .int .u64 B, .int .i64 C, .bool D] 0 (Below.refl w.heap.size w2)
  obtain ⟨Y, hY⟩ : ∃ Y, Y = w2.setCells (w.heap.size + 1) 0 [.int .u64 A, .int .u64 B, .int .i64 C, .bool D] := ⟨_, rfl⟩
  change bodyPost _ _ _ _ _ (w2.setCells (w.heap.size + 1) 0 [.int .u64 A, .int .u64 B, .int .i64 C, .bool D])
  rw [← hY] at HS HX ⊢
  have y0 := HS.1.get 0 rfl
  have y1 := HS.1.get 1 rfl
  have y2 := HS.1.get 2 rfl
  have y3 := HS.1.get 3 rfl
  clear hY
  have hon : Onl b w w2 := ⟨HX0.out.mono (Nat.le_of_lt hbl) |>.trans ho.below, fun i hi hl => (ho.block i hi (by omega)).trans (HX0.out.block i hl)⟩
  refine bodyPost_ret (v := .agg #[.int .u64 A, .int .u64 B, .int .i64 C, .bool D]) (by (simp [results, Tryz.results150, go_sem, y0, y1, y2, y3]; done)) rfl ⟨by rw [HPV.out], hon.own HX hbl, hrd.below HX hbl⟩
end Go.Proofs.YtiglekomfgfilaaGreatDoor

/- The Reader in the program: three words, times a power of two, are rounded. -/
namespace Go.Proofs.YtiglekomfgfilaaGreatDoor
set_option maxRecDepth 100000
set_option maxHeartbeats 4000000
set_option linter.all false
open Go.RowKit
def Fl.six (h m l : Nat) : List Nat := [l % 4294967296, l / 4294967296, m % 4294967296, m / 4294967296, h % 4294967296, h / 4294967296]
theorem Fl.six_ok {h m l : Nat} (hh : h < 18446744073709551616) (hm : m < 18446744073709551616) (hl : l < 18446744073709551616) : Na.OK (Fl.six h m l) := fun x hx => by
  simp only [Fl.six, List.mem_cons, List.not_mem_nil, or_false] at hx
  show x < 4294967296
  omega
theorem Fl.six_val (h m l : Nat) : Na.val (Fl.six h m l) = Fl.w3 h m l := by
  simp only [Fl.six, Na.val, Na.B]; unfold Fl.w3; omega
theorem Fl.six_blk (h m l : Nat) (w1 : World) : Blk (w1.alloc (Obj.cells #[Value.int IntKind.u32 ((l : Int) % 4294967296), Value.int IntKind.u32 ((l : Int) / 4294967296), Value.int IntKind.u32 ((m : Int) % 4294967296), Value.int IntKind.u32 ((m : Int) / 4294967296), Value.int IntKind.u32 ((h : Int) % 4294967296), Value.int IntKind.u32 ((h : Int) / 4294967296)] 81)) w1.heap.size (Fl.six h m l) := by
  show (w1.heap.push _)[w1.heap.size]? = _; simp [u32s, Fl.six]
theorem Fl.six_len (h m l : Nat) : (Fl.six h m l).length = 6 := rfl
theorem Fl.six_round {h m l R b : Nat} {e : Int} (hh : h < 18446744073709551616) (hm : m < 18446744073709551616) (hl : l < 18446744073709551616) (he : -10000 ≤ e ∧ e ≤ 1900) (hR : R = Fl.rd (Fl.w3 h m l) e false) (w1 : World) (s : Sl w1 (some ⟨b, 0, none⟩) 6 (Fl.six h m l)) :
    Calls Tryz.prog 156 #[.bool false, .slice (some ⟨b, 0, none⟩) 6 6, .int .i64 e, .bool false] w1 (RetB (.int .u64 (R : Nat)) w1) := by
  have hlen := (Na.rt_le s.ok).1
  rw [Na.rt, Na.cut, Fl.six_val, Fl.six_len] at hlen
  have h1 := fl_round_any false (some ⟨b, 0, none⟩) 6 (Fl.six h m l) e false w1 s (by rw [Fl.six_len]; omega) (by omega) (by rw [Fl.six_val]; omega)
  rw [Fl.six_val, ← hR, show Fl.sgn false = 0 from rfl, Nat.zero_add, Fl.six_len] at h1
  exact h1
theorem re_join_any (h m l : Nat) (e : Int) (w : World) (hh : h < 18446744073709551616) (hm : m < 18446744073709551616) (hl : l < 18446744073709551616) (he : -10000 ≤ e ∧ e ≤ 1900) :
    Calls Tryz.prog 152 #[.agg #[.int .u64 h, .int .u64 m, .int .u64 l], .int .i64 e] w (RetB (.int .u64 ((Fl.rd (Fl.w3 h m l) e false : Nat) : Int)) w) := by
  obtain ⟨R, hR⟩ : ∃ R, R = Fl.rd (Fl.w3 h m l) e false := ⟨_, rfl⟩
  rw [← hR]
  have h1 := Fl.six_round hh hm hl he hR _ ((Fl.six_blk h m l (w.alloc (Obj.cells #[Value.int IntKind.u64 h, Value.int IntKind.u64 m, Value.int IntKind.u64 l] 176))).sl (Fl.six_ok hh hm hl) (by rw [Fl.six_len]; exact Nat.le_refl 6))
  rw [World.size_alloc] at h1
  have H1 := Lib.hid h1
  clear h1
  obtain ⟨e1, e2⟩ := he
  clear hR
  go_enter Tryz.func152, Tryz.ntmps152
  go_wp2_with (first | (go_at_call 156; (with_reducible refine (H1.out).mono ?_); rintro e w1 ⟨rfl, hb_w1⟩; have hB_w1 : Below (w).heap.size (w) w1 := Below.trans (by (repeat (first | exact Below.refl _ _ | assumption | refine Below.setCell ?_ (by first | omega | (simp <;> omega)) _ | refine Below.alloc ?_ (by first | omega | (simp <;> omega)) _ | refine Below.drew ?_ | refine below_drewN' ?_ _))) (hb_w1.mono (by first | omega | (simp <;> omega))); obtain ⟨hc_w1, hf_w1⟩ := bcell hb_w1; have hz_w1 := hb_w1.size; (try simp only [zD, zN, zA, zS] at hz_w1)))
  go_ret
  exact RetB.of rfl (by (repeat (first | exact Below.refl _ _ | assumption | refine Below.setCell ?_ (by first | omega | (simp <;> omega)) _ | refine Below.alloc ?_ (by first | omega | (simp <;> omega)) _ | refine Below.drew ?_ | refine below_drewN' ?_ _)))
end Go.Proofs.YtiglekomfgfilaaGreatDoor

/- The Reader in the program: the quick road. -/
namespace Go.Proofs.YtiglekomfgfilaaGreatDoor
set_option maxRecDepth 100000
set_option maxHeartbeats 8000000
set_option linter.all false
open Go.RowKit
def Fl.quickOf (m : Nat) (x : Int) : Nat × Bool :=
  if Fl.pwA x = true then (Fl.rd (Fl.pwP x * m) (Fl.pwE x) false, true)
  else (Fl.rd (Fl.pwP x * m) (Fl.pwE x) false, decide (Fl.rd (Fl.pwP x * m + m) (Fl.pwE x) false = Fl.rd (Fl.pwP x * m) (Fl.pwE x) false))
theorem Fl.quick_sure {l : Dc.Bs} {x : Int} (hx : -100000 ≤ x) (h : (Fl.quickOf (Dc.nv l) x).2 = true) : (Fl.quickOf (Dc.nv l) x).1 = Fl.bits l x := by
  unfold Fl.quickOf at h ⊢
  by_cases hA : Fl.pwA x = true
  · rw [if_pos hA]
    exact Fl.quick_near hx rfl (Fl.pw x) (Or.inl hA)
  · rw [if_neg hA] at h ⊢
    exact Fl.quick_near hx rfl (Fl.pw x) (Or.inr (of_decide_eq_true h))
theorem Fl.w3_more {p m l a : Nat} (hl : l < 18446744073709551616) (ha : a < 18446744073709551616) (hm : m < 18446744073709551616) :
    Fl.w3 p m l + a = Fl.w3 (p + (if 18446744073709551616 ≤ m + (l + a) / 18446744073709551616 then 1 else 0)) ((m + (l + a) / 18446744073709551616) % 18446744073709551616) ((l + a) % 18446744073709551616) := by
  unfold Fl.w3
  split <;> omega
theorem re_quick_all (b m : Nat) (x : Int) (w : World) (hx : -400 ≤ x ∧ x ≤ 400) (hm : m < 18446744073709551616) (hr : Rdr w b) (hA : Fl.pwA x = true) (hE : -10000 ≤ Fl.pwE x ∧ Fl.pwE x ≤ 1900) :
    Calls Tryz.prog 125 #[.pointer (some ⟨b, 0, none⟩), .int .u64 m, .int .i64 x] w (RetR b (.tuple #[.int .u64 ((Fl.rd (Fl.pwP x * m) (Fl.pwE x) false : Nat) : Int), .bool true]) w) := by
  have h1 := fun w1 (h : Rdr w1 b) => re_of_any b x w1 hx h
  have hP := (Fl.pw_range x).2
  simp only [Fl.pval] at h1
  rw [hA] at h1
  obtain ⟨A, hAe⟩ : ∃ A, A = Fl.pwP x / 18446744073709551616 := ⟨_, rfl⟩
  obtain ⟨B, hBe⟩ : ∃ A, A = Fl.pwP x % 18446744073709551616 := ⟨_, rfl⟩
  obtain ⟨C, hC⟩ : ∃ A, A = Fl.pwE x := ⟨_, rfl⟩
  rw [← hAe, ← hBe, ← hC] at h1
  have hAB : A * 18446744073709551616 + B = Fl.pwP x := by omega
  have h2 := fun w1 => wi_times_any A B m w1 (by omega) (by omega) hm
  rw [hAB] at h2
  rw [← hC] at hE ⊢
  obtain ⟨N, hN⟩ : ∃ N, N = Fl.pwP x * m := ⟨_, rfl⟩
  rw [← hN] at h2 ⊢
  have h3 := fun (p q l : Nat) w1 (hp : p < 18446744073709551616) (hq : q < 18446744073709551616) (hl : l < 18446744073709551616) => re_join_any p q l C w1 hp hq hl hE
  have H1 := Lib.hid h1; have H2 := Lib.hid h2; have H3 := Lib.hid h3
  have hbl := hr.lt
  have HR := Lib.hid hr
  clear h1 h2 h3 hAB hAe hBe hC hN hP hr hA
  go_enter Tryz.func125, Tryz.ntmps125
  go_wp2_with (first
    | (go_at_call 150; (with_reducible refine (H1.out _ HR.out).mono ?_); rintro e w1 ⟨rfl, ho, hrd⟩; have hws := ho.size)
    | (go_at_call 151; (with_reducible refine (H2.out _).mono ?_); rintro e w2 ⟨p, q, l, rfl, hp, hq, hl, hsum, hb2⟩; have hc2 := (CF.new w1 [.int .u64 A, .int .u64 B, .int .i64 C, .bool true] 93).on hb2; have y0 := hc2.1.get 0 rfl; have y1 := hc2.1.get 1 rfl; have y2 := hc2.1.get 2 rfl; have y3 := hc2.1.get 3 rfl; have yl := hc2.1.1; have hz2 := hb2.size)
    | (go_at_call 152; (with_reducible refine (H3.out _ _ _ _ hp hq hl).mono ?_); rintro e w3 ⟨rfl, hb3⟩; have hc3 := (hc2.alloc (.cells #[.int .u64 p, .int .u64 q, .int .u64 l] 176)).on hb3; have z3 := hc3.1.get 3 rfl; have zl := hc3.1.1))
  have hz1 : w1.heap.size ≤ w2.heap.size := by simpa using (Nat.le_trans (Nat.le_succ _) (by simpa using hz2))
  have hB1 : Below w.heap.size w1 w2 := Below.trans ((Below.refl _ _).alloc hws _) (hb2.mono (by simp; omega))
  have hB2 : Below w.heap.size w1 w3 := Below.trans (hB1.alloc (by omega) _) (hb3.mono (by simp; omega))
  refine bodyPost_ret (v := .tuple #[.int .u64 ((Fl.rd (Fl.w3 p q l) C false : Nat) : Int), .bool true]) (by (simp [results, Tryz.results125, go_sem]; done)) rfl ⟨by rw [hsum], ho.own hB2 hbl, hrd.below hB2 hbl⟩
theorem wi_add_part (q l m : Nat) (hq : q < 18446744073709551616) (hl : l < 18446744073709551616) (hm : m < 18446744073709551616) : ∃ (a b : Nat) (o : Bool), a < 18446744073709551616 ∧ b < 18446744073709551616 ∧ (∀ p, Fl.w3 p q l + m = Fl.w3 (p + o.toNat) a b) ∧
    ∀ w, Calls Tryz.prog 153 #[.agg #[.int .u64 q, .int .u64 l], .agg #[.int .u64 0, .int .u64 m]] w (RetB (.tuple #[.agg #[.int .u64 a, .int .u64 b], .bool o]) w) := by
  refine ⟨(q + 0 + (l + m) / 18446744073709551616) % 18446744073709551616, (l + m) % 18446744073709551616, decide (18446744073709551616 ≤ q + 0 + (l + m) / 18446744073709551616), Nat.mod_lt _ (by decide), Nat.mod_lt _ (by decide), fun p => ?_, fun w => wi_add_any q l 0 m w hq hl (by decide) hm⟩
  rw [Fl.w3_more hl hm hq, Nat.add_zero]
  by_cases c : 18446744073709551616 ≤ q + (l + m) / 18446744073709551616
  · rw [if_pos c, decide_eq_true c]; rfl
  · rw [if_neg c, decide_eq_false c]; rfl
theorem Fl.w3_top {p q l N : Nat} (h : Fl.w3 p q l = N) (hN : N < 6277101735386680763835789423207666416102355444464034512896) : p < 18446744073709551616 := by
  unfold Fl.w3 at h
  omega
theorem re_quick_part (b m : Nat) (x : Int) (w : World) (hx : -400 ≤ x ∧ x ≤ 400) (hm : m < 18446744073709551616) (hr : Rdr w b) (hA : Fl.pwA x = false) (hE : -10000 ≤ Fl.pwE x ∧ Fl.pwE x ≤ 1900) :
    Calls Tryz.prog 125 #[.pointer (some ⟨b, 0, none⟩), .int .u64 m, .int .i64 x] w (RetR b (.tuple #[.int .u64 ((Fl.rd (Fl.pwP x * m) (Fl.pwE x) false : Nat) : Int), .bool (decide (Fl.rd (Fl.pwP x * m + m) (Fl.pwE x) false = Fl.rd (Fl.pwP x * m) (Fl.pwE x) false))]) w) := by
  have h1 := fun w1 (h : Rdr w1 b) => re_of_any b x w1 hx h
  have hP := (Fl.pw_range x).2
  simp only [Fl.pval] at h1
  rw [hA] at h1
  obtain ⟨A, hAe⟩ : ∃ A, A = Fl.pwP x / 18446744073709551616 := ⟨_, rfl⟩
  obtain ⟨B, hBe⟩ : ∃ A, A = Fl.pwP x % 18446744073709551616 := ⟨_, rfl⟩
  obtain ⟨C, hC⟩ : ∃ A, A = Fl.pwE x := ⟨_, rfl⟩
  rw [← hAe, ← hBe, ← hC] at h1
  have hAB : A * 18446744073709551616 + B = Fl.pwP x := by omega
  have h2 := fun w1 => wi_times_any A B m w1 (by omega) (by omega) hm
  rw [hAB] at h2
  rw [← hC] at hE ⊢
  have hN2 : Fl.pwP x * m + m < 6277101735386680763835789423207666416102355444464034512896 := by
    have h := Nat.mul_le_mul (show Fl.pwP x + 1 ≤ 340282366920938463463374607431768211456 by omega) (show m ≤ 18446744073709551615 by omega)
    rw [Nat.add_mul, Nat.one_mul] at h
    omega
  obtain ⟨N, hN⟩ : ∃ N, N = Fl.pwP x * m := ⟨_, rfl⟩
  rw [← hN] at h2 hN2 ⊢
  have h3 := fun (p q l : Nat) w1 (hp : p < 18446744073709551616) (hq : q < 18446744073709551616) (hl : l < 18446744073709551616) => re_join_any p q l C w1 hp hq hl hE
  have h4 := fun (q l : Nat) (hq : q < 18446744073709551616) (hl : l < 18446744073709551616) => wi_add_part q l m hq hl hm
  have H1 := Lib.hid h1; have H2 := Lib.hid h2; have H3 := Lib.hid h3; have H4 := Lib.hid h4
  have hbl := hr.lt
  have HR := Lib.hid hr
  have tok1 : True := trivial
  have HN2 := Lib.hid hN2
  clear h1 h2 h3 h4 hAB hAe hBe hC hN hP hr hA hN2
  go_enter Tryz.func125, Tryz.ntmps125
  go_upto_region 8 with (first
    | (go_at_call 150; (with_reducible refine (H1.out _ HR.out).mono ?_); rintro e w1 ⟨rfl, ho, hrd⟩; have hws := ho.size)
    | (go_at_call 151; (with_reducible refine (H2.out _).mono ?_); rintro e w2 ⟨p, q, l, rfl, hp, hq, hl, hsum, hb2⟩; have hc2 := (CF.new w1 [.int .u64 A, .int .u64 B, .int .i64 C, .bool false] 93).on hb2; have y0 := hc2.1.get 0 rfl; have y1 := hc2.1.get 1 rfl; have y2 := hc2.1.get 2 rfl; have y3 := hc2.1.get 3 rfl; have yl := hc2.1.1; have hz2 := hb2.size; obtain ⟨a, b', o, ha, hb', hw3, hadd⟩ := H4.out q l hq hl; have HW3 := Lib.hid hw3; have HADD := Lib.hid hadd; clear hw3 hadd)
    | (go_at_call 152; (with_reducible refine (H3.out _ _ _ _ hp hq hl).mono ?_); rintro e w3 ⟨rfl, hb3⟩; have hc3 := (hc2.alloc (.cells #[.int .u64 p, .int .u64 q, .int .u64 l] 176)).on hb3; have z0 := hc3.1.get 0 rfl; have z1 := hc3.1.get 1 rfl; have z2 := hc3.1.get 2 rfl; have z3 := hc3.1.get 3 rfl; have zl := hc3.1.1; have hd3 := (CF.new w2 [.int .u64 p, .int .u64 q, .int .u64 l] 176).on hb3; have x0 := hd3.1.get 0 rfl; have x1 := hd3.1.get 1 rfl; have x2 := hd3.1.get 2 rfl; have xl := hd3.1.1; have hz3 := hb3.size)
    | (go_at_call 154; (with_reducible refine (wi_low_any p q l _).mono ?_); rintro e w4 ⟨rfl, hb4⟩; have hc4 := hc3.on hb4; have hd4 := hd3.on hb4)
    | (go_at_call 153; (with_reducible refine (HADD.out _).mono ?_); rintro e w5 ⟨rfl, hb5⟩; have hc5 := hc4.on hb5; have hd5 := hd4.on hb5; have u0 := hd5.1.get 0 rfl; have u1 := hd5.1.get 1 rfl; have u2 := hd5.1.get 2 rfl; have ul := hd5.1.1; have v0 := hc5.1.get 0 rfl; have v1 := hc5.1.get 1 rfl; have v2 := hc5.1.get 2 rfl; have v3 := hc5.1.get 3 rfl; have vl := hc5.1.1))
  have hz4 := hb4.size; have hz5 := hb5.size
  have hsz : w1.heap.size ≤ w2.heap.size := by simpa using (Nat.le_trans (Nat.le_succ _) (by simpa using hz2))
  have hB1 : Below w.heap.size w1 w2 := Below.trans ((Below.refl _ _).alloc hws _) (hb2.mono (by simp; omega))
  have hB3 : Below w.heap.size w1 w3 := Below.trans (hB1.alloc (by omega) _) (hb3.mono (by simp; omega))
  have hsz3 : w.heap.size ≤ w3.heap.size := Nat.le_trans hws hB3.size
  have hB5 : Below w.heap.size w1 w5 := (hB3.trans (hb4.mono hsz3)).trans (hb5.mono (Nat.le_trans hsz3 hz4))
  have hsz5 : w.heap.size ≤ w5.heap.size := Nat.le_trans hws hB5.size
  have ht : CF ((w5.alloc (.cells #[.int .u64 a, .int .u64 b'] 91)).alloc (.cells #[.int .u64 p, .int .u64 a, .int .u64 b'] 176)) (w5.heap.size + 1) [.int .u64 p, .int .u64 a, .int .u64 b'] := by
    have h := CF.new (w5.alloc (.cells #[.int .u64 a, .int .u64 b'] 91)) [.int .u64 p, .int .u64 a, .int .u64 b'] 176
    rw [World.size_alloc] at h; exact h
  have hBX : Below w.heap.size w1 ((w5.alloc (.cells #[.int .u64 a, .int .u64 b'] 91)).alloc (.cells #[.int .u64 p, .int .u64 a, .int .u64 b'] 176)) := (hB5.alloc hsz5 _).alloc (by simp; omega) _
  have hcX : CF ((w5.alloc (.cells #[.int .u64 a, .int .u64 b'] 91)).alloc (.cells #[.int .u64 p, .int .u64 a, .int .u64 b'] 176)) w1.heap.size [.int .u64 A, .int .u64 B, .int .i64 C, .bool false] := (hc5.alloc _).alloc _
  have hne : w5.heap.size + 1 ≠ w1.heap.size := by omega
  obtain ⟨X, hX⟩ : ∃ X, X = ((w5.alloc (.cells #[.int .u64 a, .int .u64 b'] 91)).alloc (.cells #[.int .u64 p, .int .u64 a, .int .u64 b'] 176)) := ⟨_, rfl⟩
  rw [← hX] at ht hBX hcX ⊢
  clear hX u0 u1 u2 ul v0 v1 v2 v3 vl x0 x1 x2 xl z0 z1 z2 z3 zl y0 y1 y2 y3 yl hb2 hb3 hb4 hb5 hc2 hc3 hc4 hc5 hd3 hd4 hd5 hB1 hB3 hB5
  obtain ⟨g, hg⟩ : ∃ g, g = w5.heap.size + 1 := ⟨_, rfl⟩
  rw [← hg] at ht hne ⊢
  have hgl : w.heap.size ≤ g := by omega
  obtain ⟨R1, hR1⟩ : ∃ R, R = Fl.rd (Fl.w3 p q l) C false := ⟨_, rfl⟩
  rw [← hR1]
  have HR1 := Lib.hid (show R1 = Fl.rd N C false by rw [hR1, hsum])
  have HO := Lib.hid ho; have HRD := Lib.hid hrd; have HBX := Lib.hid hBX
  have h3' := HW3.out p
  cases o with
  | false =>
    obtain ⟨R2, hR2⟩ : ∃ R, R = Fl.rd (Fl.w3 (p + false.toNat) a b') C false := ⟨_, rfl⟩
    have HR2 := Lib.hid (show R2 = Fl.rd (N + m) C false by rw [hR2, hsum, h3'])
    have hj := fun w1 => H3.out p a b' w1 hp ha hb'
    rw [show p = p + false.toNat from rfl, ← hR2] at hj
    have HJ := Lib.hid (fun w1 => (show Calls Tryz.prog 152 #[.agg #[.int .u64 p, .int .u64 a, .int .u64 b'], .int .i64 C] w1 (RetB (.int .u64 (R2 : Nat)) w1) from hj w1))
    have t0 := ht.1.get 0 rfl; have t1 := ht.1.get 1 rfl; have t2 := ht.1.get 2 rfl; have tl := ht.1.1
    have s2 := hcX.1.get 2 rfl; have sl := hcX.1.1
    clear hj h3' HW3 HADD H1 H2 H3 H4 HN2 hg ht hcX hR1 hR2
    go_wp2_with (first | (go_at_call 152; (with_reducible refine (HJ.out _).mono ?_); rintro e w6 ⟨rfl, hb6⟩))
    refine bodyPost_ret (v := .tuple #[.int .u64 (R1 : Nat), .bool ((R2 : Int) == (R1 : Int))]) (by (simp [results, Tryz.results125, go_sem]; done)) rfl ⟨?_, HO.out.own (HBX.out.trans (hb6.mono (Nat.le_trans hws HBX.out.size))) hbl, HRD.out.below (HBX.out.trans (hb6.mono (Nat.le_trans hws HBX.out.size))) hbl⟩
    rw [show ((R2 : Int) == (R1 : Int)) = decide (R2 = R1) by rw [Bool.eq_iff_iff]; simp only [beq_iff_eq, decide_eq_true_eq]; omega, HR1.out, HR2.out]
  | true =>
    have hp1 : p + 1 < 18446744073709551616 := Fl.w3_top h3'.symm (by rw [← hsum]; exact HN2.out)
    obtain ⟨R2, hR2⟩ : ∃ R, R = Fl.rd (Fl.w3 (p + true.toNat) a b') C false := ⟨_, rfl⟩
    have HR2 := Lib.hid (show R2 = Fl.rd (N + m) C false by rw [hR2, hsum, h3'])
    obtain ⟨p1, hp1e⟩ : ∃ p1, p1 = p + 1 := ⟨_, rfl⟩
    have hj := fun w1 => H3.out p1 a b' w1 (by omega) ha hb'
    rw [hp1e, show p + 1 = p + true.toNat from rfl, ← hR2] at hj
    have HJ := Lib.hid (fun w1 => (show Calls Tryz.prog 152 #[.agg #[.int .u64 (p1 : Nat), .int .u64 a, .int .u64 b'], .int .i64 C] w1 (RetB (.int .u64 (R2 : Nat)) w1) from (by rw [hp1e]; exact hj w1)))
    have hpi : (p : Int) + 1 = (p1 : Int) := by omega
    have hp1l : p1 < 18446744073709551616 := by omega
    have t0 := ht.1.get 0 rfl; have t1 := ht.1.get 1 rfl; have t2 := ht.1.get 2 rfl; have tl := ht.1.1; have tf := ht.2 0
    have s2 := hcX.1.get 2 rfl; have sl := hcX.1.1
    clear hj h3' HW3 HADD H1 H2 H3 H4 HN2 hg ht hcX hR1 hR2 hp1e
    go_wp2_with (first | (go_at_call 152; (with_reducible refine (HJ.out _).mono ?_); rintro e w6 ⟨rfl, hb6⟩))
    have hBY : Below w.heap.size w1 (X.setCell ⟨g, 0, none⟩ (.int .u64 (p1 : Nat))) := HBX.out.setCell hgl _
    refine bodyPost_ret (v := .tuple #[.int .u64 (R1 : Nat), .bool ((R2 : Int) == (R1 : Int))]) (by (simp [results, Tryz.results125, go_sem]; done)) rfl ⟨?_, HO.out.own (hBY.trans (hb6.mono (Nat.le_trans hws hBY.size))) hbl, HRD.out.below (hBY.trans (hb6.mono (Nat.le_trans hws hBY.size))) hbl⟩
    rw [show ((R2 : Int) == (R1 : Int)) = decide (R2 = R1) by rw [Bool.eq_iff_iff]; simp only [beq_iff_eq, decide_eq_true_eq]; omega, HR1.out, HR2.out]
end Go.Proofs.YtiglekomfgfilaaGreatDoor

/- The Reader in the program: the parts of the size of a decimal: digits as a number, the slow road whole, the quick road whole. -/
namespace Go.Proofs.YtiglekomfgfilaaGreatDoor
set_option linter.all false
open Go.RowKit
theorem Fl.uintM : ∀ (l : Dc.Bs) (acc : Nat), Dc.allDig l = true → (acc + 1) * 10 ^ l.length ≤ 10000000000000000000 → Lib.parseUintM (2 ^ 64 - 1) acc l = .ok (l.foldl (fun a c => 10 * a + (c.toNat - 48)) acc)
  | [], acc, _, _ => rfl
  | c :: r, acc, hd, h => by
    have hc : Dc.isDig c = true ∧ Dc.allDig r = true := by simpa [Dc.allDig] using hd
    obtain ⟨hc, hr⟩ := hc
    have hc2 : 48 ≤ c.toNat ∧ c.toNat ≤ 57 := by unfold Dc.isDig at hc; simp at hc; omega
    have hp : 0 < 10 ^ r.length := Nat.pow_pos (by decide)
    rw [List.length_cons, Nat.pow_succ] at h
    have h2 : (acc * 10 + (c.toNat - 48) + 1) * 10 ^ r.length ≤ 10000000000000000000 := by
      refine Nat.le_trans ?_ h
      rw [Nat.mul_comm (10 ^ r.length) 10, ← Nat.mul_assoc]
      exact Nat.mul_le_mul_right _ (by omega)
    have h3 : acc * 10 + (c.toNat - 48) + 1 ≤ 10000000000000000000 := Nat.le_trans (Nat.le_mul_of_pos_right _ hp) h2
    rw [Lib.parseUintM, if_pos hc2, if_neg (by omega), if_neg (by omega), List.foldl_cons, Nat.mul_comm 10 acc]
    exact Fl.uintM r _ hr h2
theorem Fl.uint_all {l : Dc.Bs} (hd : Dc.allDig l = true) (hne : l ≠ []) (hl : l.length ≤ 19) : Lib.parseUintB 64 l = .ok (Dc.nv l) := by
  rw [Lib.parseUintB, if_neg hne]
  refine Fl.uintM l 0 hd ?_
  rw [Nat.zero_add, Nat.one_mul]
  exact Nat.le_trans (Nat.pow_le_pow_right (by decide) hl) (by decide)
theorem re_uint (s : ByteArray) (w : World) (hd : Dc.allDig s.data.toList = true) (hne : s.data.toList ≠ []) (hl : s.size ≤ 19) :
    Calls Tryz.prog 122 #[.string s, .int .i64 10, .int .i64 64] w (RetB (.tuple #[.int .u64 (Dc.nv s.data.toList : Nat), .nilIface]) w) := by
  refine (Tryz.strconv_ParseUint_10_at64_ok s (by omega) (Dc.nv s.data.toList) (Fl.uint_all hd hne (by rw [bs_length]; exact hl)) w).mono ?_
  rintro e w' ⟨rfl, h⟩
  refine ⟨rfl, ?_⟩
  rcases h with rfl | rfl
  · exact Below.refl _ _
  · exact Lib.bytesWorld_below _ _ _
theorem re_slow_any (n : Bool) (s : ByteArray) (x : Int) (w : World) (hr : Dc.right s.data.toList x = true) (h0 : s.size ≠ 0) (hend : -330 ≤ (s.size : Int) + x ∧ (s.size : Int) + x ≤ 310) :
    Calls Tryz.prog 126 #[.agg #[.bool n, .string s, .int .i64 x]] w (RetB (.int .u64 ((Fl.bits s.data.toList x : Nat) : Int)) w) := by
  by_cases h : 0 ≤ x
  · obtain ⟨X, rfl⟩ : ∃ X : Nat, x = X := ⟨x.toNat, by omega⟩
    exact re_slow_up n s X w hr h0 hend.2
  · exact re_slow_down n s x (-x).toNat (max 0 ((Na.bitLen (10 ^ (-x).toNat) : Int) - Na.bitLen (Dc.nv s.data.toList) + 66)).toNat w (by omega) hr h0 hend (by omega) (by omega)
theorem Fl.pwE_range {x : Int} (hx : -400 ≤ x ∧ x ≤ 400) : -10000 ≤ Fl.pwE x ∧ Fl.pwE x ≤ 1900 := by
  unfold Fl.pwE
  split
  · have := Fl.ten_len (-x).toNat; omega
  · have := Fl.ten_len x.toNat; omega
theorem re_quick_any (b m : Nat) (x : Int) (w : World) (hx : -400 ≤ x ∧ x ≤ 400) (hm : m < 18446744073709551616) (hr : Rdr w b) :
    Calls Tryz.prog 125 #[.pointer (some ⟨b, 0, none⟩), .int .u64 m, .int .i64 x] w (RetR b (.tuple #[.int .u64 ((Fl.quickOf m x).1 : Nat), .bool (Fl.quickOf m x).2]) w) := by
  unfold Fl.quickOf
  by_cases hA : Fl.pwA x = true
  · rw [if_pos hA]; exact re_quick_all b m x w hx hm hr hA (Fl.pwE_range hx)
  · rw [if_neg hA]; exact re_quick_part b m x w hx hm hr (Bool.eq_false_iff.2 hA) (Fl.pwE_range hx)
end Go.Proofs.YtiglekomfgfilaaGreatDoor

/- The Reader in the program: the size of a decimal: its ends; the slow road alone; the quick road. -/
namespace Go.Proofs.YtiglekomfgfilaaGreatDoor
set_option maxRecDepth 100000
set_option maxHeartbeats 4000000
set_option linter.all false
open Go.RowKit
theorem DecB.onl {W W' : World} {b c : Nat} {n : Bool} {s : ByteArray} {x : Int} (h : DecB W b n s x) (ho : Onl c W W') (hne : b ≠ c) : DecB W' b n s x :=
  ⟨(ho.cell hne h.2.2.2).trans h.1, (ho.cell hne h.2.2.2).trans h.2.1, (ho.cell hne h.2.2.2).trans h.2.2.1, Nat.lt_of_lt_of_le h.2.2.2 ho.size⟩
theorem re_size_end (b : Nat) (n : Bool) (s : ByteArray) (x : Int) (w : World) (hr : Dc.right s.data.toList x = true) (hR : Rdr w b) (hend : s.size = 0 ∨ (s.size : Int) + x < -330 ∨ 310 < (s.size : Int) + x) :
    Calls Tryz.prog 100 #[.pointer (some ⟨b, 0, none⟩), .agg #[.bool n, .string s, .int .i64 x]] w (RetR b (.int .u64 ((Fl.bits s.data.toList x : Nat) : Int)) w) := by
  obtain ⟨hp, hs, hx1, hx2⟩ := r8_point_facts hr
  have hP := fun w => d_point_any n s x w (by omega)
  rw [hp] at hP
  have hb0 : Below w.heap.size w (w.alloc (Obj.cells #[Value.bool n, Value.string s, Value.int IntKind.i64 x] 27)) := (Below.refl _ _).alloc (Nat.le_refl _) _
  have dd0 := DecB.new w n s x
  obtain ⟨Z, hZ⟩ : ∃ Z, Z = Fl.bits s.data.toList x := ⟨_, rfl⟩
  rw [← hZ]
  have HP := Lib.hid hP
  have hF : ∀ w', Below w.heap.size w w' → Onl b w w' ∧ Rdr w' b := fun w' h => ⟨hR.onl h, hR.on h⟩
  have HF := Lib.hid hF
  clear hF hR
  by_cases h0 : s.size = 0
  · have hl : s.data.toList = [] := List.eq_nil_of_length_eq_zero (by rw [bs_length]; exact h0)
    have hx0 : x = 0 := by rw [hl] at hr; simpa [Dc.right] using hr
    have hb : Fl.bits s.data.toList x = 0 := by rw [hl, hx0]; exact Fl.bits_nil
    rw [hb] at hZ; subst hZ
    have hz := isEmpty_of_zero h0
    clear hl hx0 hb hr hend hP hp
    go_enter Tryz.func100, Tryz.ntmps100
    go_wp2_with (first
      | (go_at_call 73; (with_reducible refine (HP.out _).mono ?_); rintro e w1 ⟨rfl, hb1⟩; have hB1 : Below w.heap.size w w1 := hb0.trans (hb1.mono (by simp)); obtain ⟨y0, y1, y2, yl⟩ := dd0.on hb1))
    go_ret
    exact ⟨rfl, HF.out _ hB1⟩
  · have hz := isEmpty_of_pos (s := s) (by omega)
    have hne : s.data.toList ≠ [] := fun e => h0 (by have := congrArg List.length e; rwa [bs_length] at this)
    obtain ⟨P, hPe⟩ : ∃ P, P = (s.size : Int) + x := ⟨_, rfl⟩
    rw [← hPe] at HP hend
    by_cases hm : P < -330
    · have hb : Fl.bits s.data.toList x = 0 := Fl.bits_tiny hr hne (by rw [bs_length]; omega)
      rw [hb] at hZ; subst hZ
      clear hne hb hr hend hP hp hPe h0
      go_enter Tryz.func100, Tryz.ntmps100
      go_wp2_with (first
        | (go_at_call 73; (with_reducible refine (HP.out _).mono ?_); rintro e w1 ⟨rfl, hb1⟩; have hB1 : Below w.heap.size w w1 := hb0.trans (hb1.mono (by simp)); obtain ⟨y0, y1, y2, yl⟩ := dd0.on hb1))
      go_ret
      exact ⟨rfl, HF.out _ hB1⟩
    · have hm2 : 310 < P := by omega
      have hb : Fl.bits s.data.toList x = 9218868437227405312 := Fl.bits_huge hr hne (by rw [bs_length]; omega)
      rw [hb] at hZ; subst hZ
      clear hne hb hr hend hP hp hPe h0
      go_enter Tryz.func100, Tryz.ntmps100
      go_wp2_with (first
        | (go_at_call 73; (with_reducible refine (HP.out _).mono ?_); rintro e w1 ⟨rfl, hb1⟩; have hB1 : Below w.heap.size w w1 := hb0.trans (hb1.mono (by simp)); obtain ⟨y0, y1, y2, yl⟩ := dd0.on hb1))
      go_ret
      exact ⟨rfl, HF.out _ hB1⟩
theorem re_size_long (b : Nat) (n : Bool) (s : ByteArray) (x : Int) (w : World) (hr : Dc.right s.data.toList x = true) (hR : Rdr w b) (hend : -330 ≤ (s.size : Int) + x ∧ (s.size : Int) + x ≤ 310) (hl : 19 < s.size) :
    Calls Tryz.prog 100 #[.pointer (some ⟨b, 0, none⟩), .agg #[.bool n, .string s, .int .i64 x]] w (RetR b (.int .u64 ((Fl.bits s.data.toList x : Nat) : Int)) w) := by
  obtain ⟨hp, hs, hx1, hx2⟩ := r8_point_facts hr
  have hP := fun w => d_point_any n s x w (by omega)
  rw [hp] at hP
  have hS := fun w => re_slow_any n s x w hr (by omega) hend
  have hb0 : Below w.heap.size w (w.alloc (Obj.cells #[Value.bool n, Value.string s, Value.int IntKind.i64 x] 27)) := (Below.refl _ _).alloc (Nat.le_refl _) _
  have dd0 := DecB.new w n s x
  obtain ⟨Z, hZ⟩ : ∃ Z, Z = Fl.bits s.data.toList x := ⟨_, rfl⟩
  rw [← hZ] at hS ⊢
  have hF : ∀ w', Below w.heap.size w w' → Onl b w w' ∧ Rdr w' b := fun w' h => ⟨hR.onl h, hR.on h⟩
  have hz := isEmpty_of_pos (s := s) (by omega)
  obtain ⟨P, hPe⟩ : ∃ P, P = (s.size : Int) + x := ⟨_, rfl⟩
  rw [← hPe] at hP hend
  have HP := Lib.hid hP; have HS := Lib.hid hS; have HF := Lib.hid hF
  obtain ⟨e1, e2⟩ := hend
  clear hF hR hP hS hr hp hPe hZ
  go_enter Tryz.func100, Tryz.ntmps100
  go_wp2_with (first
    | (go_at_call 73; (with_reducible refine (HP.out _).mono ?_); rintro e w1 ⟨rfl, hb1⟩; have hB1 : Below w.heap.size w w1 := hb0.trans (hb1.mono (by simp)); have dd1 := dd0.on hb1; obtain ⟨y0, y1, y2, yl⟩ := id dd1)
    | (go_at_call 126; (with_reducible refine (HS.out _).mono ?_); rintro e w2 ⟨rfl, hb2⟩; have hB2 : Below w.heap.size w w2 := hB1.trans (hb2.mono hB1.size)))
  go_ret
  exact ⟨rfl, HF.out _ hB2⟩
theorem re_size_quick (b : Nat) (n : Bool) (s : ByteArray) (x : Int) (w : World) (hr : Dc.right s.data.toList x = true) (hR : Rdr w b) (hend : -330 ≤ (s.size : Int) + x ∧ (s.size : Int) + x ≤ 310) (h0 : s.size ≠ 0) (hl : s.size ≤ 19) (hc : 15 < s.size ∨ s.size ≤ 15 ∧ x < 0 ∨ s.size ≤ 15 ∧ 22 < x) :
    Calls Tryz.prog 100 #[.pointer (some ⟨b, 0, none⟩), .agg #[.bool n, .string s, .int .i64 x]] w (RetR b (.int .u64 ((Fl.bits s.data.toList x : Nat) : Int)) w) := by
  obtain ⟨hp, hs, hx1, hx2⟩ := r8_point_facts hr
  have hdig := Dc.right_dig hr
  have hne : s.data.toList ≠ [] := fun e => h0 (by have := congrArg List.length e; rwa [bs_length] at this)
  have hP := fun w => d_point_any n s x w (by omega)
  rw [hp] at hP
  have hS := fun w => re_slow_any n s x w hr h0 hend
  have hU := fun w => re_uint s w hdig hne hl
  have hN := Dc.nv_lt hdig
  rw [bs_length] at hN
  have hN64 : Dc.nv s.data.toList < 18446744073709551616 := Nat.lt_of_lt_of_le hN (Nat.le_trans (Nat.pow_le_pow_right (by decide) hl) (by decide))
  have hQ := fun w1 (h : Rdr w1 b) => re_quick_any b (Dc.nv s.data.toList) x w1 (by omega) hN64 h
  have hsure := Fl.quick_sure (l := s.data.toList) (x := x) (by omega)
  have hb0 : Below w.heap.size w (w.alloc (Obj.cells #[Value.bool n, Value.string s, Value.int IntKind.i64 x] 27)) := (Below.refl _ _).alloc (Nat.le_refl _) _
  have dd0 := DecB.new w n s x
  obtain ⟨Z, hZ⟩ : ∃ Z, Z = Fl.bits s.data.toList x := ⟨_, rfl⟩
  rw [← hZ] at hS hsure ⊢
  obtain ⟨m, hme⟩ : ∃ m, m = Dc.nv s.data.toList := ⟨_, rfl⟩
  rw [← hme] at hU hQ hsure
  obtain ⟨q1, hq1⟩ : ∃ q, q = (Fl.quickOf m x).1 := ⟨_, rfl⟩
  obtain ⟨q2, hq2⟩ : ∃ q, q = (Fl.quickOf m x).2 := ⟨_, rfl⟩
  rw [← hq1, ← hq2] at hQ hsure
  have hbl := hR.lt
  have hF : ∀ w1 w2 w', Below w.heap.size w w1 → Onl b w1 w2 → Rdr w2 b → Below w2.heap.size w2 w' → Onl b w w' ∧ Rdr w' b := fun w1 w2 w' h1 h2 h3 h4 => ⟨((hR.onl h1).trans h2).own (h4.mono (Nat.le_trans h1.size h2.size)) hbl, h3.on h4⟩
  have hz := isEmpty_of_pos (s := s) (by omega)
  obtain ⟨P, hPe⟩ : ∃ P, P = (s.size : Int) + x := ⟨_, rfl⟩
  rw [← hPe] at hP hend
  have HP := Lib.hid hP; have HS := Lib.hid hS; have HF := Lib.hid hF; have HU := Lib.hid hU; have HQ := Lib.hid hQ; have HR := Lib.hid hR
  obtain ⟨e1, e2⟩ := hend
  clear hF hR hP hS hU hQ hr hp hPe hZ hq1 hq2 hme hN hN64 hdig hne
  have hwalk : ∀ q2 : Bool, (q2 = true → q1 = Z) → (∀ w1 (h : Rdr w1 b), Calls Tryz.prog 125 #[.pointer (some ⟨b, 0, none⟩), .int .u64 m, .int .i64 x] w1 (RetR b (.tuple #[.int .u64 (q1 : Nat), .bool q2]) w1)) → Calls Tryz.prog 100 #[.pointer (some ⟨b, 0, none⟩), .agg #[.bool n, .string s, .int .i64 x]] w (RetR b (.int .u64 ((Z : Nat) : Int)) w) := by
    clear HQ hsure q2
    intro q2 hs2 hQ
    have HQ := Lib.hid hQ
    clear hQ
    cases q2 with
    | true =>
      obtain rfl := hs2 rfl
      rcases hc with hc | ⟨hc, hd⟩ | ⟨hc, hd⟩
      all_goals (
        go_enter Tryz.func100, Tryz.ntmps100
        go_wp2_with (first
          | (go_at_call 73; (with_reducible refine (HP.out _).mono ?_); rintro e w1 ⟨rfl, hb1⟩; have hB1 : Below w.heap.size w w1 := hb0.trans (hb1.mono (by simp)); have dd1 := dd0.on hb1; obtain ⟨y0, y1, y2, yl⟩ := id dd1)
          | (go_at_call 122; (with_reducible refine (HU.out _).mono ?_); rintro e w2 ⟨rfl, hb2⟩; have hB2 : Below w.heap.size w w2 := hB1.trans (hb2.mono hB1.size); have dd2 := dd1.on hb2; obtain ⟨v0, v1, v2, vl⟩ := id dd2; have rd2 := HR.out.on hB2)
          | (go_at_call 125; (with_reducible refine (HQ.out _ rd2).mono ?_); rintro e w3 ⟨rfl, ho3, rd3⟩; have dd3 := dd2.onl ho3 (by omega); obtain ⟨u0, u1, u2, ul⟩ := id dd3))
        go_ret
        exact ⟨rfl, HF.out _ _ _ hB2 ho3 rd3 (Below.refl _ _)⟩)
    | false =>
      rcases hc with hc | ⟨hc, hd⟩ | ⟨hc, hd⟩
      all_goals (
        go_enter Tryz.func100, Tryz.ntmps100
        go_wp2_with (first
          | (go_at_call 73; (with_reducible refine (HP.out _).mono ?_); rintro e w1 ⟨rfl, hb1⟩; have hB1 : Below w.heap.size w w1 := hb0.trans (hb1.mono (by simp)); have dd1 := dd0.on hb1; obtain ⟨y0, y1, y2, yl⟩ := id dd1)
          | (go_at_call 122; (with_reducible refine (HU.out _).mono ?_); rintro e w2 ⟨rfl, hb2⟩; have hB2 : Below w.heap.size w w2 := hB1.trans (hb2.mono hB1.size); have dd2 := dd1.on hb2; obtain ⟨v0, v1, v2, vl⟩ := id dd2; have rd2 := HR.out.on hB2)
          | (go_at_call 125; (with_reducible refine (HQ.out _ rd2).mono ?_); rintro e w3 ⟨rfl, ho3, rd3⟩; have dd3 := dd2.onl ho3 (by omega); obtain ⟨u0, u1, u2, ul⟩ := id dd3)
          | (go_at_call 126; (with_reducible refine (HS.out _).mono ?_); rintro e w4 ⟨rfl, hb4⟩))
        go_ret
        exact ⟨rfl, HF.out _ _ _ hB2 ho3 rd3 hb4⟩)
  exact hwalk q2 hsure HQ.out
end Go.Proofs.YtiglekomfgfilaaGreatDoor
