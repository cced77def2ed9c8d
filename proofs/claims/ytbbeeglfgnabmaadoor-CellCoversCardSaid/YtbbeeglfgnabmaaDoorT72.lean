/- The iterator over an area's cells: row for row, column for column. -/
import Derived.Test.YtbbeeglfgnabmaaDoorT71
import Derived.Test.YtbbeeglfgnabmaaDoorT68
import Derived.Test.YtbbeeglfgnabmaaDoorT51
import Derived.Test.YtbbeeglfgnabmaaDoorRf2
import Derived.RangeFuncBound
import Derived.RangeFuncCalls
namespace Go.Proofs.YtbbeeglfgnabmaaDoor
set_option linter.all false
open Go.RowKit Go.Shelf

attribute [local go_sem] Oper.semAt_some

theorem room_none (k : Nat) : Fence.wide.room k := fun d h => by cases h
theorem yield_any {m : Nat} (m' : Nat) {P : Program} {l : Nat} {args : Array Value} {W : World} {R : Ending → World → Prop} (h : YieldAt Fence.wide m P l args W R) : YieldAt Fence.wide m' P l args W R := by
  obtain ⟨fn, tmps, assign, body, hy, hR⟩ := h
  exact ⟨fn, tmps, assign, body, hy, hR.1, fun c cs _ => hR.2 c cs (room_none _)⟩

/-- The cells of one row; of the rows so far. -/
def rowOf (m0 : Int) (k : Nat) (r : Int) : List Ce.Rf := (upto m0 k).map fun c => ⟨c, r, false, false⟩
def rowsOf (m0 : Int) (k : Nat) (rs : List Int) : List Ce.Rf := rs.flatMap (rowOf m0 k)
theorem rowsOf_snoc (m0 : Int) (k : Nat) (rs : List Int) (r : Int) : rowsOf m0 k (rs ++ [r]) = rowsOf m0 k rs ++ rowOf m0 k r := by simp [rowsOf]
theorem rowOf_len (m0 : Int) (k : Nat) (r : Int) : (rowOf m0 k r).length = k := by simp [rowOf, upto_len]
theorem rowsOf_len (m0 : Int) (k : Nat) (rs : List Int) : (rowsOf m0 k rs).length = rs.length * k := by
  induction rs with
  | nil => simp [rowsOf]
  | cons r rs ih =>
    have : rowsOf m0 k (r :: rs) = rowOf m0 k r ++ rowsOf m0 k rs := rfl
    rw [this, List.length_append, rowOf_len, ih, List.length_cons, Nat.add_mul]; omega
theorem range_rows (c r : Int) (k : Nat) (hk : 1 ≤ k) (n : Nat) : (List.range (n * k)).map (Ce.cellAt c r k) = rowsOf c k (upto r n) := by
  induction n with
  | zero => simp [rowsOf, upto]
  | succ n ih =>
    rw [upto_succ, rowsOf_snoc, ← ih, Nat.add_mul, Nat.one_mul, List.range_add, List.map_append, List.map_map]
    congr 1
    unfold rowOf upto
    rw [List.map_map]
    refine List.map_congr_left fun i hi => ?_
    have hik := List.mem_range.1 hi
    simp only [Function.comp, Ce.cellAt]
    rw [Nat.add_comm (n * k) i, Nat.mul_comm n k, Nat.add_mul_mod_self_left, Nat.mod_eq_of_lt hik, Nat.add_mul_div_left _ _ (by omega), Nat.div_eq_of_lt hik]
    simp
theorem cells_rows (a b : Ce.Rf) (h : Ce.both a b = true) : Ce.cells a b = rowsOf (Ce.lo a b).col (((Ce.hi a b).col - (Ce.lo a b).col + 1).toNat) (upto (Ce.lo a b).row (((Ce.hi a b).row - (Ce.lo a b).row + 1).toNat)) := by
  unfold Ce.cells
  rw [if_pos h]
  exact range_rows _ _ _ (Ce.wide_bd h).1 _


/-- Block k is o, and no row. -/
def Mine (O : Nat) (W : World) (k : Nat) (o : Obj) : Prop := W.heap[k]? = some o ∧ ¬ RowAt O W k
theorem Mine.grown {O B : Nat} {X Y : World} {row : Option Nat} {k : Nat} {o : Obj} (hO : O < B) (hB : B ≤ X.heap.size) (hg : X.grownBy Y row) (h : ∀ r, row = some r → B ≤ r ∧ ∃ o : Obj, X.heap[r]? = some o ∧ o.isCells = false) (hm : Mine O X k o) (hc : o.isCells = true) : Mine O Y k o := by
  refine ⟨(hg.block k (Array.getElem?_eq_some_iff.1 hm.1).1 (fun e => ?_)).trans hm.1, fun e => hm.2 ((RowAt.of (hg.block O (by omega) (fun e2 => by have := (h O e2.symm).1; omega))).1 e)⟩
  obtain ⟨_, o2, h1, h2⟩ := h k e.symm
  rw [hm.1] at h1; cases h1; rw [hc] at h2; cases h2
theorem Mine.kq {O R : Nat} {X Y : World} {k : Nat} {o : Obj} (hm : Mine O X k o) (h1 : k ≠ O) (h2 : k ≠ R) (h : Kq O R X Y) : Mine O Y k o :=
  ⟨(h.same k (Array.getElem?_eq_some_iff.1 hm.1).1 h1 h2 hm.2).trans hm.1, fun e => hm.2 (h.row k (Array.getElem?_eq_some_iff.1 hm.1).1 e)⟩
theorem keepsFrom_kq {O R B : Nat} {X Y : World} (h : Kq O R X Y) (hr : RowOk O X) (hO : O < B) (hR : R < B) : KeepsFrom B X Y :=
  ⟨h.size, fun k o hk h1 h2 => (h.same k (Array.getElem?_eq_some_iff.1 h1).1 (by omega) (by omega) (hr.not h1 h2)).trans h1⟩

/-- What the iterator holds between two rounds: what the caller says; its own blocks. -/
structure St (J : List Ce.Rf → World → Prop) (O : Nat) (bs : List (Nat × Obj)) (s : List Ce.Rf) (X : World) : Prop where
  j : J s X
  mine : ∀ p ∈ bs, Mine O X p.1 p.2 ∧ p.2.isCells = true
theorem St.grown {J : List Ce.Rf → World → Prop} {O B : Nat} {bs : List (Nat × Obj)} {s : List Ce.Rf} {X Y : World} (hJ : ∀ s X Y, J s X → B ≤ X.heap.size → Apart O B X Y → J s Y) (hJr : ∀ s X, J s X → RowOk O X ∧ B ≤ X.heap.size) (hO : O < B) {row : Option Nat} (h : St J O bs s X) (hg : X.grownBy Y row) (hr : ∀ r, row = some r → B ≤ r ∧ ∃ o : Obj, X.heap[r]? = some o ∧ o.isCells = false) : St J O bs s Y :=
  ⟨hJ _ _ _ h.j (hJr _ _ h.j).2 (Apart.grown (hJr _ _ h.j).2 (hJr _ _ h.j).1 hg hr), fun p hp => ⟨(h.mine p hp).1.grown hO (hJr _ _ h.j).2 hg hr (h.mine p hp).2, (h.mine p hp).2⟩⟩
theorem St.alloc {J : List Ce.Rf → World → Prop} {O B : Nat} {bs : List (Nat × Obj)} {s : List Ce.Rf} {X : World} (hJ : ∀ s X Y, J s X → B ≤ X.heap.size → Apart O B X Y → J s Y) (hJr : ∀ s X, J s X → RowOk O X ∧ B ≤ X.heap.size) (hO : O < B) (h : St J O bs s X) (o : Obj) (ho : o.isCells = true) : St J O ((X.heap.size, o) :: bs) s (X.alloc o) := by
  have h1 := h.grown hJ hJr hO (World.grownBy_alloc X o none) (fun r e => by cases e)
  refine ⟨h1.j, fun p hp => ?_⟩
  rcases List.mem_cons.1 hp with rfl | hp
  · refine ⟨⟨World.alloc_heap_new X o, fun e => ?_⟩, ho⟩
    have hlt := (hJr _ _ h.j)
    have h2 := (RowAt.of (Y := X.alloc o) (X := X) (Below.heap_alloc X o O (by omega))).1 e
    have := hlt.1.lt h2
    omega
  · exact h1.mine p hp
theorem St.sub {J : List Ce.Rf → World → Prop} {O : Nat} {bs bs' : List (Nat × Obj)} {s : List Ce.Rf} {X : World} (h : St J O bs s X) (hs : ∀ p ∈ bs', p ∈ bs) : St J O bs' s X := ⟨h.j, fun p hp => h.mine p (hs p hp)⟩
theorem St.kq {J : List Ce.Rf → World → Prop} {O R B : Nat} {bs : List (Nat × Obj)} {s s' : List Ce.Rf} {X Y : World} (h : St J O bs s X) (hb : ∀ p ∈ bs, B ≤ p.1) (hO : O < B) (hR : R < B) (hj : J s' Y) (hk : Kq O R X Y) : St J O bs s' Y :=
  ⟨hj, fun p hp => ⟨(h.mine p hp).1.kq (by have := hb p hp; omega) (by have := hb p hp; omega) hk, (h.mine p hp).2⟩⟩
theorem St.cell {J : List Ce.Rf → World → Prop} {O : Nat} {bs : List (Nat × Obj)} {s : List Ce.Rf} {X : World} (h : St J O bs s X) {k : Nat} {cs : Array Value} {t : TypeId} (hp : (k, Obj.cells cs t) ∈ bs) (i : Nat) : X.cell? ⟨k, i, none⟩ = cs[i]? := by
  have := (h.mine _ hp).1.1
  unfold World.cell?
  simp only [] at this
  rw [this]; rfl
theorem St.same {J : List Ce.Rf → World → Prop} {O : Nat} {bs : List (Nat × Obj)} {s s' : List Ce.Rf} {X Y : World} (h : St J O bs s X) (h' : St J O bs s' Y) {k : Nat} {o : Obj} (hp : (k, o) ∈ bs) : Kc k X Y :=
  World.cell?_of_block (a := ⟨k, 0, none⟩) ((h'.mine _ hp).1.1.trans (h.mine _ hp).1.1.symm)
theorem rowOf_snoc (m0 : Int) (k : Nat) (r : Int) : rowOf m0 (k + 1) r = rowOf m0 k r ++ [⟨m0 + k, r, false, false⟩] := by simp [rowOf, upto_succ]
theorem roundIn_in {F : Fence} {m : Nat} {P : Program} {l : Nat} {f : FuncId} {tmps : Array Value} {assign body : Code} {w : World} {R : Ending → World → Prop} (l₀ : Nat) (h : RoundIn F m P l f tmps assign body w R) : RoundIn (F.inRound l₀) m P l f tmps assign body w R := h
def mk (r : Int) (cs : List Int) : List Ce.Rf := cs.map fun c => ⟨c, r, false, false⟩
theorem mk_snoc (r : Int) (cs : List Int) (c : Int) : mk r (cs ++ [c]) = mk r cs ++ [⟨c, r, false, false⟩] := by simp [mk]
set_option maxRecDepth 100000 in
set_option maxHeartbeats 2000000 in
theorem cells1_iter (n : Nat) (hn : 8 ≤ n) (a b : Ce.Rf) (O A B : Nat) (w : World) (hO : O < w.heap.size) (hA : A < w.heap.size) (hB : B < w.heap.size)
    (cA : Cs w A [.int .i64 a.col, .int .i64 a.row, .bool a.ac, .bool a.ar]) (cB : Cs w B [.int .i64 b.col, .int .i64 b.row, .bool b.ac, .bool b.ar]) :
    IterAll Fence.wide n Tryd.prog 50 #[.pointer (some ⟨A, 0, none⟩), .pointer (some ⟨B, 0, none⟩)] (fun x : Ce.Rf => #[rv x]) O (Ce.cells a b) w := by
  intro J W hW hsz hJ hJr hY h0
  have hc := fun X => ce_corners_any a b X
  unfold cornersV at hc
  obtain ⟨c, d, x, y⟩ := a
  obtain ⟨c', d', x', y'⟩ := b
  have dA := cA.on hW
  have dB := cB.on hW
  have A0 := dA.get 0 rfl
  have A1 := dA.get 1 rfl
  have A2 := dA.get 2 rfl
  have A3 := dA.get 3 rfl
  have B0 := dB.get 0 rfl
  have B1 := dB.get 1 rfl
  have B2 := dB.get 2 rfl
  have B3 := dB.get 3 rfl
  have lA : A < W.heap.size := by omega
  have lB : B < W.heap.size := by omega
  simp only [rv_mk] at hc
  have HSZ := Lib.hid hsz
  have hOW : O < W.heap.size := by omega
  clear dA dB cA cB hsz
  cases h : Ce.both ⟨c, d, x, y⟩ ⟨c', d', x', y'⟩ with
  | false =>
    have he : Ce.cells ⟨c, d, x, y⟩ ⟨c', d', x', y'⟩ = [] := by unfold Ce.cells; rw [h]; rfl
    rw [he]
    simp only [h, Bool.false_eq_true, if_false, Ce.zero, rv_mk] at hc
    have HC := Lib.hid hc; have HJ := Lib.hid hJ; have HJR := Lib.hid hJr; have H0 := Lib.hid h0; clear hc hY h he hJ hJr h0
    refine callsIn_of_wp_marks Tryd.func50 rfl trivial ?_ rfl
    simp only [Tryd.ntmps50, List.size_toArray, List.length_cons, List.length_nil, Nat.reduceAdd, Nat.reduceSub, Array.replicate_succ, Array.replicate_zero, List.push_toArray, List.append_toArray, List.nil_append, List.cons_append]
    gi_wp2_with (refine ⟨trivial, (fun h => (by cases h)), ?_⟩; gi_at_call 43; refine (callsIn_wide.2 (HC.out _)).mono ?_; rintro e w1 ⟨rfl, hb_w1⟩)
    have hbw : Below W.heap.size W ((w1.alloc (.cells #[.int .i64 0, .int .i64 0, .bool false, .bool false] 23)).alloc (.cells #[.int .i64 0, .int .i64 0, .bool false, .bool false] 23)) := by
      have h1 : Below W.heap.size W w1 := ((Below.refl _ W).alloc (Nat.le_refl _) _).trans (hb_w1.mono (by simp))
      exact (h1.alloc h1.size _).alloc (by have := h1.size; simp; omega) _
    exact ⟨_, results_none rfl _ _ _, ⟨_, rfl⟩, HJ.out _ _ _ H0.out (Nat.le_refl _) (Apart.of_below hbw (Nat.le_refl _) (HJR.out _ _ H0.out).1)⟩
  | true =>
    have hbd := Ce.both_bd h
    simp only [h, if_true] at hc
    have e1 : rv (Ce.lo ⟨c, d, x, y⟩ ⟨c', d', x', y'⟩) = .agg #[.int .i64 (Ce.lo ⟨c, d, x, y⟩ ⟨c', d', x', y'⟩).col, .int .i64 (Ce.lo ⟨c, d, x, y⟩ ⟨c', d', x', y'⟩).row, .bool false, .bool false] := rfl
    have e2 : rv (Ce.hi ⟨c, d, x, y⟩ ⟨c', d', x', y'⟩) = .agg #[.int .i64 (Ce.hi ⟨c, d, x, y⟩ ⟨c', d', x', y'⟩).col, .int .i64 (Ce.hi ⟨c, d, x, y⟩ ⟨c', d', x', y'⟩).row, .bool false, .bool false] := rfl
    rw [e1, e2] at hc
    have hcells := cells_rows ⟨c, d, x, y⟩ ⟨c', d', x', y'⟩ h
    obtain ⟨m0, hm0⟩ : ∃ m, m = (Ce.lo ⟨c, d, x, y⟩ ⟨c', d', x', y'⟩).col := ⟨_, rfl⟩
    obtain ⟨m1, hm1⟩ : ∃ m, m = (Ce.lo ⟨c, d, x, y⟩ ⟨c', d', x', y'⟩).row := ⟨_, rfl⟩
    obtain ⟨m2, hm2⟩ : ∃ m, m = (Ce.hi ⟨c, d, x, y⟩ ⟨c', d', x', y'⟩).col := ⟨_, rfl⟩
    obtain ⟨m3, hm3⟩ : ∃ m, m = (Ce.hi ⟨c, d, x, y⟩ ⟨c', d', x', y'⟩).row := ⟨_, rfl⟩
    rw [← hm0, ← hm1, ← hm2, ← hm3] at hc hbd hcells
    obtain ⟨L, hL⟩ : ∃ L, L = Ce.cells ⟨c, d, x, y⟩ ⟨c', d', x', y'⟩ := ⟨_, rfl⟩
    rw [← hL] at hcells hY ⊢
    obtain ⟨z0, z1, z2, z3, z4, z5⟩ := hbd
    have HC := Lib.hid hc; have HJ := Lib.hid hJ; have HJR := Lib.hid hJr; have H0 := Lib.hid h0; have HY := Lib.hid hY; have HL := Lib.hid hcells; clear hc hY h hJ hJr h0 e1 e2 hm0 hm1 hm2 hm3 hL hcells
    refine callsIn_of_wp_marks Tryd.func50 rfl trivial ?_ rfl
    simp only [Tryd.ntmps50, List.size_toArray, List.length_cons, List.length_nil, Nat.reduceAdd, Nat.reduceSub, Array.replicate_succ, Array.replicate_zero, List.push_toArray, List.append_toArray, List.nil_append, List.cons_append]
    gi_wp2_with (first
      | (refine ⟨trivial, (fun h => (by cases h)), ?_⟩; gi_at_call 43; refine (callsIn_wide.2 (HC.out _)).mono ?_; rintro e w1 ⟨rfl, hb_w1⟩)
      | (refine ⟨trivial, (fun h => (by cases h)), ?_⟩; gi_at_call 51; refine (between_in Fence.wide (n - 1) trivial rfl _ _ _).mono ?_; rintro e w2 ⟨rfl, rfl⟩))
    have g1 : Below W.heap.size W w1 := ((Below.refl _ W).alloc (Nat.le_refl _) _).trans (hb_w1.mono (by simp))
    have gs := g1.size
    have gz := hb_w1.size
    simp only [World.size_alloc] at gz
    have st0 : St J O [(W.heap.size, Obj.cells #[.func (.yield (w.heap.size + 1)) #[] #[]] 28)] [] w1 := by
      have s1 := (St.mk H0.out (fun p hp => by cases hp) : St J O [] [] W).alloc HJ.out HJR.out hOW (.cells #[.func (.yield (w.heap.size + 1)) #[] #[]] 28) rfl
      have hr := HJR.out _ _ s1.j
      refine ⟨HJ.out _ _ _ s1.j hr.2 (Apart.of_below hb_w1 (by simp) hr.1), fun p hp => ?_⟩
      obtain rfl : p = (W.heap.size, Obj.cells #[.func (.yield (w.heap.size + 1)) #[] #[]] 28) := by simpa using hp
      have h2 := s1.mine (W.heap.size, Obj.cells #[.func (.yield (w.heap.size + 1)) #[] #[]] 28) (by simp)
      exact ⟨⟨(hb_w1.block _ (by simp)).trans h2.1.1, fun e => h2.1.2 ((RowAt.of (hb_w1.block O (by simp; omega))).1 e)⟩, rfl⟩
    have st1 := (((st0.alloc HJ.out HJR.out hOW (.cells #[.int .i64 m0, .int .i64 m1, .bool false, .bool false] 23) rfl).alloc HJ.out HJR.out hOW (.cells #[.int .i64 m2, .int .i64 m3, .bool false, .bool false] 23) rfl).alloc HJ.out HJR.out hOW (.cells #[.int .i64 m1] 3) rfl).alloc HJ.out HJR.out hOW (.cells #[.int .i64 m3] 3) rfl
    simp only [World.size_alloc] at st1
    obtain ⟨W0, hW0⟩ : ∃ W0, W0 = ((((w1.alloc (.cells #[.int .i64 m0, .int .i64 m1, .bool false, .bool false] 23)).alloc (.cells #[.int .i64 m2, .int .i64 m3, .bool false, .bool false] 23)).alloc (.cells #[.int .i64 m1] 3)).alloc (.cells #[.int .i64 m3] 3)) := ⟨_, rfl⟩
    have hz0 : W0.heap.size = w1.heap.size + 4 := by rw [hW0]; simp
    rw [← hW0] at st1 ⊢
    have hz4 : w1.heap.size + 1 + 1 + 1 < W0.heap.size := by omega
    have hz5 : W.heap.size < w1.heap.size := by omega
    have cf := st1.cell (k := w1.heap.size + 1 + 1) (cs := #[.int .i64 m1]) (t := 3) (by simp) 0
    have ct := st1.cell (k := w1.heap.size + 1 + 1 + 1) (cs := #[.int .i64 m3]) (t := 3) (by simp) 0
    have hST : St J O [(w1.heap.size + 1 + 1 + 1, Obj.cells #[.int .i64 m3] 3), (w1.heap.size + 1, Obj.cells #[.int .i64 m2, .int .i64 m3, .bool false, .bool false] 23), (w1.heap.size, Obj.cells #[.int .i64 m0, .int .i64 m1, .bool false, .bool false] 23), (W.heap.size, Obj.cells #[.func (.yield (w.heap.size + 1)) #[] #[]] 28)] [] W0 := st1.sub (fun p hp => by simp at hp ⊢; rcases hp with e | e | e | e <;> simp [e])
    clear hW0 st0 st1 hb_w1
    have hwz := HSZ.out
    have h1 : 1 ≤ n := by omega
    obtain ⟨K, hK⟩ : ∃ K : Nat, K = (m2 - m0 + 1).toNat := ⟨_, rfl⟩
    obtain ⟨M, hM⟩ : ∃ M : Nat, M = (m3 - m1 + 1).toNat := ⟨_, rfl⟩
    have hLL := HL.out
    rw [← hK, ← hM] at hLL
    have hLlen : L.length = M * K := by rw [hLL, rowsOf_len, upto_len]
    refine wpIn_rangeFunc_ownH (F := Fence.wide) rfl h1 (gf := 60) (lb := #[.pointer (some ⟨w1.heap.size + 1 + 1, 0, none⟩), .pointer (some ⟨w1.heap.size + 1 + 1 + 1, 0, none⟩)]) rfl trivial (enters_of Tryd.func60 (by kernel_rfl) rfl)
      (between_stops Fence.wide (n - 1) trivial rfl (by omega) (w1.heap.size + 1 + 1) (w1.heap.size + 1 + 1 + 1) m1 m3 (by omega) z4 (by omega) W0 (by omega) (by omega) cf ct) kc_t (kc_b (by omega)) (Below.refl _ _) (fun _ => rfl)
      (fun rs X => St J O [(w1.heap.size + 1 + 1 + 1, Obj.cells #[.int .i64 m3] 3), (w1.heap.size + 1, Obj.cells #[.int .i64 m2, .int .i64 m3, .bool false, .bool false] 23), (w1.heap.size, Obj.cells #[.int .i64 m0, .int .i64 m1, .bool false, .bool false] 23), (W.heap.size, Obj.cells #[.func (.yield (w.heap.size + 1)) #[] #[]] 28)] (rowsOf m0 K rs) X ∧ W0.heap.size ≤ X.heap.size)
      (fun _ _ _ => False)
      (fun rs X Y row hs hg hr => ⟨hs.1.grown HJ.out HJR.out hOW hg (fun r e => ⟨by have := (hr r e).1; omega, (hr r e).2⟩), Nat.le_trans hs.2 hg.size⟩)
      (fun _ _ _ _ _ hs _ _ => hs)
      ⟨by simpa [rowsOf] using hST, Nat.le_refl _⟩
      (fun r a' X => ∃ Bx, W0.heap.size ≤ Bx ∧ W0.heap.size ≤ X.heap.size ∧ Mine O X Bx (Obj.cells #[.int .i64 r] 3) ∧ a' = { tmps := #[.func (.yield (w.heap.size + 1)) #[] #[], .pointer (some ⟨A, 0, none⟩), .pointer (some ⟨B, 0, none⟩), .pointer (some ⟨W.heap.size, 0, none⟩), .pointer (some ⟨w1.heap.size, 0, none⟩), .pointer (some ⟨w1.heap.size + 1, 0, none⟩), .bool true, .pointer (some ⟨Bx, 0, none⟩), undef, .tuple #[.agg #[.int .i64 m0, .int .i64 m1, .bool false, .bool false], .agg #[.int .i64 m2, .int .i64 m3, .bool false, .bool false], .bool true], .agg #[.int .i64 c, .int .i64 d, .bool x, .bool y], .agg #[.int .i64 c', .int .i64 d', .bool x', .bool y'], .tuple #[.agg #[.int .i64 m0, .int .i64 m1, .bool false, .bool false], .agg #[.int .i64 m2, .int .i64 m3, .bool false, .bool false], .bool true], .agg #[.int .i64 m0, .int .i64 m1, .bool false, .bool false], .agg #[.int .i64 m2, .int .i64 m3, .bool false, .bool false], .bool true, .bool true, .bool false, .pointer (some ⟨w1.heap.size, 1, none⟩), .int .i64 m1, .pointer (some ⟨w1.heap.size + 1, 1, none⟩), .int .i64 m3, .func (.func 60) #[] #[.pointer (some ⟨w1.heap.size + 1 + 1, 0, none⟩), .pointer (some ⟨w1.heap.size + 1 + 1 + 1, 0, none⟩)], .int .i64 r, undef, undef, undef, undef, undef, undef, undef, undef, undef, undef, undef, undef], defers := [] })
      (fun r a' _ X Y row hs hg hr => by obtain ⟨Bx, e1, e0, e2, e3⟩ := hs; exact ⟨Bx, e1, Nat.le_trans e0 hg.size, e2.grown (B := W0.heap.size) (by omega) e0 hg hr rfl, e3⟩)
      ?assign ?body ?done ?stop
    case assign =>
      rintro l rs r X KK ⟨hs, hxz⟩ hKK
      have h2 := hs.alloc HJ.out HJR.out hOW (.cells #[.int .i64 r] 3) rfl
      clear hLL hLlen hwz hz0
      gi_wp2
      exact hKK _ _ ((KeepsOthers.alloc _ _).from _) (World.cell?_of_block (a := ⟨_, 0, none⟩) (Below.heap_alloc X _ _ (by simp; omega))) ⟨h2.sub (fun p hp => by simp at hp ⊢; exact .inr hp), by simp; omega⟩ ⟨X.heap.size, hxz, by simp; omega, (h2.mine (X.heap.size, Obj.cells #[.int .i64 r] 3) (by simp)).1, rfl⟩
    case body =>
      rintro l rs r a' W1 hl ⟨rec, hrec⟩ ⟨hs, hxz⟩ ⟨Bx, hBx, hBxz, hmx, rfl⟩ hlt
      have h1' : 1 ≤ n - 1 - 1 := by omega
      have hRB : w.heap.size + 1 < W.heap.size := by omega
      have hsx : St J O [(Bx, Obj.cells #[.int .i64 r] 3), (w1.heap.size + 1 + 1 + 1, Obj.cells #[.int .i64 m3] 3), (w1.heap.size + 1, Obj.cells #[.int .i64 m2, .int .i64 m3, .bool false, .bool false] 23), (w1.heap.size, Obj.cells #[.int .i64 m0, .int .i64 m1, .bool false, .bool false] 23), (W.heap.size, Obj.cells #[.func (.yield (w.heap.size + 1)) #[] #[]] 28)] (rowsOf m0 K rs) W1 := ⟨hs.j, fun p hp => by
        rcases List.mem_cons.1 hp with rfl | hp
        · exact ⟨hmx, rfl⟩
        · exact hs.mine p hp⟩
      have l0 : W1.cell? ⟨w1.heap.size, 0, none⟩ = some (.int .i64 m0) := hs.cell (k := w1.heap.size) (cs := #[.int .i64 m0, .int .i64 m1, .bool false, .bool false]) (t := 23) (by simp) 0
      have l1 : W1.cell? ⟨w1.heap.size + 1, 0, none⟩ = some (.int .i64 m2) := hs.cell (k := w1.heap.size + 1) (cs := #[.int .i64 m2, .int .i64 m3, .bool false, .bool false]) (t := 23) (by simp) 0
      have HLT : Hid (rs.length < M) := by have := hlt; rw [← hM] at this; exact this
      have HLL := Lib.hid hLL; have HLN := Lib.hid hLlen; have HZ0 := Lib.hid hz0; have HMM := Lib.hid hM; have HKK2 := Lib.hid hK
      clear hLL hLlen hwz hz0 hlt hM hK cf ct
      gi_wp2_with (refine ⟨trivial, ?_⟩; gi_at_call 51; refine (CallsIn.inRound l (between_in Fence.wide _ trivial rfl _ _ _)).mono ?_; rintro e w' ⟨rfl, rfl⟩)
      have st2 := (hsx.alloc HJ.out HJR.out hOW (.cells #[.int .i64 m0] 3) rfl).alloc HJ.out HJR.out hOW (.cells #[.int .i64 m2] 3) rfl
      simp only [World.size_alloc] at st2
      have hkf0 : KeepsFrom W0.heap.size W1 ((W1.alloc (.cells #[.int .i64 m0] 3)).alloc (.cells #[.int .i64 m2] 3)) := ((KeepsOthers.alloc W1 _).trans (KeepsOthers.alloc _ _)).from _
      have hrec2 : ((W1.alloc (.cells #[.int .i64 m0] 3)).alloc (.cells #[.int .i64 m2] 3)).heap[l]? = some (.loop rec) := hkf0.same l _ hl hrec rfl
      obtain ⟨W2, hW2⟩ : ∃ W2, W2 = ((W1.alloc (.cells #[.int .i64 m0] 3)).alloc (.cells #[.int .i64 m2] 3)) := ⟨_, rfl⟩
      have hz2 : W2.heap.size = W1.heap.size + 2 := by rw [hW2]; simp
      rw [← hW2] at st2 hkf0 hrec2 ⊢
      clear hW2
      have cf2 := st2.cell (k := W1.heap.size) (cs := #[.int .i64 m0]) (t := 3) (by simp) 0
      have ct2 := st2.cell (k := W1.heap.size + 1) (cs := #[.int .i64 m2]) (t := 3) (by simp) 0
      have hST2 : St J O [(W1.heap.size + 1, Obj.cells #[.int .i64 m2] 3), (Bx, Obj.cells #[.int .i64 r] 3), (w1.heap.size + 1 + 1 + 1, Obj.cells #[.int .i64 m3] 3), (w1.heap.size + 1, Obj.cells #[.int .i64 m2, .int .i64 m3, .bool false, .bool false] 23), (w1.heap.size, Obj.cells #[.int .i64 m0, .int .i64 m1, .bool false, .bool false] 23), (W.heap.size, Obj.cells #[.func (.yield (w.heap.size + 1)) #[] #[]] 28)] (rowsOf m0 K rs) W2 := st2.sub (fun p hp => by simp at hp ⊢; rcases hp with e | e | e | e | e | e <;> simp [e])
      refine wpIn_rangeFunc_ownN (F := Fence.wide.inRound l) (l₀ := l) (r₀ := rec) rfl hrec2 h1' (gf := 60) (lb := #[.pointer (some ⟨W1.heap.size, 0, none⟩), .pointer (some ⟨W1.heap.size + 1, 0, none⟩)]) rfl trivial (enters_of Tryd.func60 (by kernel_rfl) rfl)
        ((between_stops Fence.wide (n - 1 - 1 - 1) trivial rfl (by omega) W1.heap.size (W1.heap.size + 1) m0 m2 (by omega) z1 (by omega) W2 (by omega) (by omega) cf2 ct2).inRound l) kc_t (kc_b (by omega)) (Below.refl _ _) (fun _ => rfl)
        (fun qs X => (St J O [(W1.heap.size + 1, Obj.cells #[.int .i64 m2] 3), (Bx, Obj.cells #[.int .i64 r] 3), (w1.heap.size + 1 + 1 + 1, Obj.cells #[.int .i64 m3] 3), (w1.heap.size + 1, Obj.cells #[.int .i64 m2, .int .i64 m3, .bool false, .bool false] 23), (w1.heap.size, Obj.cells #[.int .i64 m0, .int .i64 m1, .bool false, .bool false] 23), (W.heap.size, Obj.cells #[.func (.yield (w.heap.size + 1)) #[] #[]] 28)] (rowsOf m0 K rs ++ mk r qs) X ∧ W2.heap.size ≤ X.heap.size) ∧ KeepsFrom W0.heap.size W1 X)
        (fun _ _ _ => False)
        (OwnFrom.and (fun qs X Y row hs hg hr => ⟨hs.1.grown HJ.out HJR.out hOW hg (fun r e => ⟨by have := (hr r e).1; omega, (hr r e).2⟩), Nat.le_trans hs.2 hg.size⟩) (ownFrom_keepsFrom (by omega)))
        (fun _ _ _ _ _ hs _ _ => hs)
        ⟨⟨by simpa [mk] using hST2, Nat.le_refl _⟩, hkf0⟩
        (fun q a'' _ => a'' = { tmps := #[.func (.yield (w.heap.size + 1)) #[] #[], .pointer (some ⟨A, 0, none⟩), .pointer (some ⟨B, 0, none⟩), .pointer (some ⟨W.heap.size, 0, none⟩), .pointer (some ⟨w1.heap.size, 0, none⟩), .pointer (some ⟨w1.heap.size + 1, 0, none⟩), .bool true, .pointer (some ⟨Bx, 0, none⟩), .int .i64 q, .tuple #[.agg #[.int .i64 m0, .int .i64 m1, .bool false, .bool false], .agg #[.int .i64 m2, .int .i64 m3, .bool false, .bool false], .bool true], .agg #[.int .i64 c, .int .i64 d, .bool x, .bool y], .agg #[.int .i64 c', .int .i64 d', .bool x', .bool y'], .tuple #[.agg #[.int .i64 m0, .int .i64 m1, .bool false, .bool false], .agg #[.int .i64 m2, .int .i64 m3, .bool false, .bool false], .bool true], .agg #[.int .i64 m0, .int .i64 m1, .bool false, .bool false], .agg #[.int .i64 m2, .int .i64 m3, .bool false, .bool false], .bool true, .bool true, .bool false, .pointer (some ⟨w1.heap.size, 1, none⟩), .int .i64 m1, .pointer (some ⟨w1.heap.size + 1, 1, none⟩), .int .i64 m3, .func (.func 60) #[] #[.pointer (some ⟨w1.heap.size + 1 + 1, 0, none⟩), .pointer (some ⟨w1.heap.size + 1 + 1 + 1, 0, none⟩)], .int .i64 r, .pointer (some ⟨w1.heap.size, 0, none⟩), .int .i64 m0, .pointer (some ⟨w1.heap.size + 1, 0, none⟩), .int .i64 m2, .func (.func 60) #[] #[.pointer (some ⟨W1.heap.size, 0, none⟩), .pointer (some ⟨W1.heap.size + 1, 0, none⟩)], .int .i64 q, undef, undef, undef, undef, undef, undef], defers := [] })
        (fun _ _ _ _ _ _ hs _ _ => hs)
        ?assign2 ?body2 ?done2 ?stop2
      case assign2 =>
        rintro l2 qs q X KK hi hKK
        gi_wp2
        exact hKK _ _ (KeepsFrom.refl _ _) rfl hi rfl
      case body2 =>
        rintro l2 qs q a'' X _ _ ⟨⟨hs2, hxz2⟩, hkf⟩ rfl hlt2
        have hlen : (rowsOf m0 K rs ++ mk r qs).length < L.length := by
          rw [← HKK2.out] at hlt2
          have e1 := HLT.out
          have e2 := HLN.out
          rw [List.length_append, rowsOf_len, mk, List.length_map, e2]
          have : (rs.length + 1) * K ≤ M * K := Nat.mul_le_mul_right _ e1
          rw [Nat.add_mul, Nat.one_mul] at this
          omega
        obtain ⟨fn, tmps, assign, body, hy, hR⟩ := yield_any (n - 1 - 1 - 1 - 1 - 1) (HY.out _ ⟨q, r, false, false⟩ X hs2.j hlen)
        simp only [rv_mk] at hy
        have cy : X.cell? ⟨W.heap.size, 0, none⟩ = some (.func (.yield (w.heap.size + 1)) #[] #[]) := hs2.cell (k := W.heap.size) (cs := #[.func (.yield (w.heap.size + 1)) #[] #[]]) (t := 28) (by simp) 0
        have cx : X.cell? ⟨Bx, 0, none⟩ = some (.int .i64 r) := hs2.cell (k := Bx) (cs := #[.int .i64 r]) (t := 3) (by simp) 0
        have hro := (HJR.out _ _ hs2.j).1
        have HR := Lib.hid hR
        have hz3 : W0.heap.size < W2.heap.size := by omega
        clear hlt2 hz2 hlen hR
        gi_wp2
        refine ⟨(fun h => (by cases h)), ?_⟩
        refine RoundIn.mono (R := fun e W' => e = .returned (.bool true) ∧ J (rowsOf m0 K rs ++ mk r qs ++ [⟨q, r, false, false⟩]) W' ∧ Kq O (w.heap.size + 1) X W') (roundIn_in l2 (roundIn_in l HR.out)) ?_
        rintro e X3 ⟨rfl, hj3, hk3⟩
        have hs3 := hs2.kq (B := W.heap.size) (fun p hp => by simp at hp; rcases hp with e | e | e | e | e | e <;> rw [e] <;> simp <;> omega) hOW hRB hj3 hk3
        rw [List.append_assoc, ← mk_snoc] at hs3
        gi_wp2
        exact ⟨keepsFrom_kq hk3 hro (by omega) (by omega), hs2.same hs3 (k := W1.heap.size + 1) (o := Obj.cells #[.int .i64 m2] 3) (by simp), ⟨⟨hs3, Nat.le_trans hxz2 hk3.size⟩, hkf.trans (keepsFrom_kq hk3 hro (by omega) (by omega))⟩⟩
      case done2 =>
        rintro qs X hqs ⟨⟨hs2, hxz2⟩, hkf⟩
        have hrow : mk r qs = rowOf m0 K r := by rw [hqs, ← HKK2.out]; rfl
        rw [hrow, ← rowsOf_snoc] at hs2
        clear hqs hrow hz2
        gi_wp2
        exact ⟨hkf, hs.same (hs2.sub (fun p hp => List.mem_cons_of_mem _ (List.mem_cons_of_mem _ hp))) (k := w1.heap.size + 1 + 1 + 1) (o := Obj.cells #[.int .i64 m3] 3) (by simp), ⟨hs2.sub (fun p hp => List.mem_cons_of_mem _ (List.mem_cons_of_mem _ hp)), Nat.le_trans hxz hkf.size⟩⟩
      case stop2 =>
        rintro cc pre X _ hx
        exact hx.elim
    case done =>
      rintro D zs X hD rfl ⟨hs, hxz⟩ hdef
      rw [← hM] at hs
      have hj := hs.j
      rw [← hLL] at hj
      clear hLL hLlen hwz hz0
      gi_wp2
      refine ⟨by simp, .inl ⟨_, _, rfl, run_takeDeferred hdef, ?_⟩⟩
      refine ⟨_, results_none rfl _ _ _, ⟨_, rfl⟩, HJ.out _ _ _ hj (HJR.out _ _ hj).2 (Apart.grown (HJR.out _ _ hj).2 (HJR.out _ _ hj).1 (grownBy_putObj' _ D _) (fun r e => by cases e; exact ⟨by have := gs; omega, _, hdef, rfl⟩))⟩
    case stop =>
      rintro D cc pre X _ _ hx _
      exact hx.elim
end Go.Proofs.YtbbeeglfgnabmaaDoor
