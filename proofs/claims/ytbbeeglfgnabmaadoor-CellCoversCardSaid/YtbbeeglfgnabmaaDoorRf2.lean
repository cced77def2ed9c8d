/- A loop over an iterator that goes over further iterators while it calls yield, where no round leaves the loop: the rounds collect into one variable (block O); the iterator is told that its own blocks, none of which is that variable's or its row's, stay. -/
import Derived.RangeFuncNested
namespace Go.Proofs.YtbbeeglfgnabmaaDoor
set_option linter.all false
open Go.RowKit

/-- Block k holds the elements of the slice that lies in block O. -/
def RowAt (O : Nat) (W : World) (k : Nat) : Prop := ∃ (x : Addr) (n c : Nat), W.cell? ⟨O, 0, none⟩ = some (.slice (some x) n c) ∧ x.block = k
/-- The row's block is there, and is cells. -/
def RowOk (O : Nat) (W : World) : Prop := ∀ k, RowAt O W k → ∃ o : Obj, W.heap[k]? = some o ∧ o.isCells = true
/-- What lay below B, and the row, lie on. -/
structure Apart (O B : Nat) (X Y : World) : Prop where
  below : Below B X Y
  row : ∀ k, RowAt O X k → Y.heap[k]? = X.heap[k]?
/-- What a round keeps: all but the variable O, its row, the loop's record R. -/
structure Kq (O R : Nat) (A B : World) : Prop where
  size : A.heap.size ≤ B.heap.size
  same : ∀ k, k < A.heap.size → k ≠ O → k ≠ R → ¬ RowAt O A k → B.heap[k]? = A.heap[k]?
  row : ∀ k, k < A.heap.size → RowAt O B k → RowAt O A k

theorem RowAt.of {O : Nat} {X Y : World} (h : Y.heap[O]? = X.heap[O]?) {k : Nat} : RowAt O Y k ↔ RowAt O X k := by
  unfold RowAt; rw [World.cell?_of_block (a := ⟨O, 0, none⟩) h]
theorem RowOk.lt {O : Nat} {W : World} (h : RowOk O W) {k : Nat} (hk : RowAt O W k) : k < W.heap.size := by
  obtain ⟨o, h1, _⟩ := h k hk; exact (Array.getElem?_eq_some_iff.1 h1).1
theorem RowOk.not {O : Nat} {W : World} (h : RowOk O W) {k : Nat} {o : Obj} (hk : W.heap[k]? = some o) (ho : o.isCells = false) : ¬ RowAt O W k := fun e => by
  obtain ⟨o', h1, h2⟩ := h k e
  rw [hk] at h1; cases h1; rw [ho] at h2; cases h2
theorem Apart.refl (O B : Nat) (X : World) : Apart O B X X := ⟨Below.refl _ _, fun _ _ => rfl⟩
theorem Apart.trans {O B : Nat} (hO : O < B) {X Y Z : World} (h : Apart O B X Y) (k : Apart O B Y Z) : Apart O B X Z :=
  ⟨h.below.trans k.below, fun j hj => (k.row j ((RowAt.of (h.below.block O hO)).2 hj)).trans (h.row j hj)⟩
theorem Apart.mono {O B B' : Nat} {X Y : World} (h : Apart O B X Y) (hB : B' ≤ B) : Apart O B' X Y := ⟨h.below.mono hB, h.row⟩
theorem Apart.of_below {O B : Nat} {X Y : World} (h : Below X.heap.size X Y) (hB : B ≤ X.heap.size) (hr : RowOk O X) : Apart O B X Y :=
  ⟨h.mono hB, fun k hk => h.block k (hr.lt hk)⟩
theorem Apart.alloc {O B : Nat} {X : World} (hB : B ≤ X.heap.size) (hr : RowOk O X) (o : Obj) : Apart O B X (X.alloc o) := Apart.of_below ((Below.refl _ _).alloc (Nat.le_refl _) _) hB hr
theorem Apart.grown {O B : Nat} {X Y : World} {row : Option Nat} (hB : B ≤ X.heap.size) (hr : RowOk O X) (hg : X.grownBy Y row) (h : ∀ r, row = some r → B ≤ r ∧ ∃ o : Obj, X.heap[r]? = some o ∧ o.isCells = false) : Apart O B X Y :=
  ⟨(Below.refl B X).grown hg hB (fun k e => (h k e).1), fun k hk => hg.block k (hr.lt hk) (fun e => by obtain ⟨_, o, h1, h2⟩ := h k e.symm; exact hr.not h1 h2 hk)⟩
theorem RowOk.apart {O B : Nat} (hO : O < B) {X Y : World} (h : RowOk O X) (ha : Apart O B X Y) : RowOk O Y := fun k hk => by
  have h1 := (RowAt.of (ha.below.block O hO)).1 hk
  obtain ⟨o, h2, h3⟩ := h k h1
  exact ⟨o, (ha.row k h1).trans h2, h3⟩
theorem Kq.refl (O R : Nat) (A : World) : Kq O R A A := ⟨Nat.le_refl _, fun _ _ _ _ _ => rfl, fun _ _ h => h⟩
theorem Kq.trans {O R : Nat} {A B C : World} (h : Kq O R A B) (k : Kq O R B C) : Kq O R A C :=
  ⟨Nat.le_trans h.size k.size, fun j h1 h2 h3 h4 => (k.same j (Nat.lt_of_lt_of_le h1 h.size) h2 h3 (fun e => h4 (h.row j h1 e))).trans (h.same j h1 h2 h3 h4), fun j h1 h2 => h.row j h1 (k.row j (Nat.lt_of_lt_of_le h1 h.size) h2)⟩
theorem Kq.put {O R : Nat} (hne : O ≠ R) (W : World) (o : Obj) : Kq O R W (W.putObj R o) :=
  ⟨by simp, fun k _ _ h _ => World.putObj_heap_other h, fun k _ h => (RowAt.of (World.putObj_heap_other hne)).1 h⟩

def IterAll {α : Type} (F : Fence) (n : Nat) (P : Program) (gf : Nat) (lb : Array Value) (encs : α → Array Value) (O : Nat) (xs : List α) (w : World) : Prop :=
  ∀ (J : List α → World → Prop) (W : World), Below w.heap.size w W → W.heap.size = w.heap.size + 2 →
    (∀ s X Y, J s X → W.heap.size ≤ X.heap.size → Apart O W.heap.size X Y → J s Y) → (∀ s X, J s X → RowOk O X ∧ W.heap.size ≤ X.heap.size) →
    (∀ pre x W1, J pre W1 → pre.length < xs.length → YieldAt F (n - 1) P (w.heap.size + 1) (encs x) W1 fun e W' => e = .returned (.bool true) ∧ J (pre ++ [x]) W' ∧ Kq O (w.heap.size + 1) W1 W') →
    J [] W → CallsIn F n P gf (#[.func (.yield (w.heap.size + 1)) #[] #[]] ++ lb) W fun e W' => (∃ v, e = .returned v) ∧ J xs W'

def postN (Q : Act → World → Prop) : Exit → Act → World → Prop
  | .normal, a, W => Q a W
  | _, _, _ => False

theorem rf_all {α : Type} {F : Fence} {n : Nat} {P : Program} {w : World} {g : Operand} {ps : Array Tmp} {assign body : Code} {Q : Exit → Act → World → Prop} {a : Act}
    (hro : F.round = none) (h1 : 1 ≤ n) {gf : Nat} {lb : Array Value} (hg : a.eval g = .func (.func gf) #[] lb) (hFg : F.fn gf) (eg : ∀ args w, (callFunc gf args).run P w = .ok (.enter gf args) w)
    {encs : α → Array Value} {O : Nat} (hO : O < w.heap.size) {xs : List α} (hps : ∀ x, (encs x).size = ps.size)
    (hseq : IterAll F (n - 1) P gf lb encs O xs w)
    (I : List α → World → Prop) (hI : ∀ s X Y, I s X → Apart O w.heap.size X Y → I s Y) (hIr : ∀ s X, I s X → RowOk O X) (h0 : I [] w) (Ax : α → Act → World → Prop) (hAx : ∀ x a' X Y, Ax x a' X → (∀ (k : Nat) (o : Obj), X.heap[k]? = some o → o.isCells = true → Y.heap[k]? = X.heap[k]?) → Ax x a' Y)
    (hassign : ∀ (pre : List α) (x : α) (W : World) (K : Act → World → Prop), I pre W → w.heap.size + 2 ≤ W.heap.size → (∀ a' W', KeepsFrom w.heap.size W W' → Kq O (w.heap.size + 1) W W' → I pre W' → w.heap.size + 2 ≤ W'.heap.size → Ax x a' W' → K a' W') →
      assign.wpIn (F.inRound (w.heap.size + 1)) (n - 1 - 1) P (Exit.then K (fun _ _ _ => False)) { tmps := (ps.zip (encs x)).foldl (fun t (p, v) => t.setIfInBounds p v) a.tmps, defers := [] } W)
    (hbody : ∀ (pre : List α) (x : α) (a' : Act) (W : World), I pre W → w.heap.size + 2 ≤ W.heap.size → Ax x a' W → pre.length < xs.length → body.wpIn (F.inRound (w.heap.size + 1)) (n - 1 - 1) P (postN fun _ W' => KeepsFrom w.heap.size W W' ∧ Kq O (w.heap.size + 1) W W' ∧ I (pre ++ [x]) W') a' W)
    (hdone : ∀ (W : World), I xs W → W.heap[w.heap.size]? = some (.deferred (some [])) → Q .normal { a with defers := { target := .collected w.heap.size, args := #[] } :: a.defers } W) :
    (Code.rangeFunc g ps assign body).wpIn F n P Q a w := by
  refine wpIn_rangeFunc fun fn hfn => ?_
  rw [hro]
  let R : LoopState → Option Code → Obj := fun st pe => .loop { state := st, pending := pe, fn, tmps := a.tmps, params := ps, assign, body, defers := w.heap.size }
  have hR : ∀ st pe, (R st pe).isCells = false := fun _ _ => rfl
  let W1 : World := (w.alloc (.deferred (some []))).alloc (R .ready none)
  have sz : W1.heap.size = w.heap.size + 2 := by simp [W1]
  have rec1 : W1.heap[w.heap.size + 1]? = some (R .ready none) := by
    have := World.alloc_heap_new (w.alloc (.deferred (some []))) (R .ready none); rwa [World.size_alloc] at this
  have def1 : W1.heap[w.heap.size]? = some (.deferred (some [])) := (Below.heap_alloc _ _ _ (by simp)).trans (World.alloc_heap_new w _)
  have low1 : Below w.heap.size w W1 := ((Below.refl _ w).alloc (Nat.le_refl _) _).alloc (by simp) _
  have own : ∀ {s : List α} {W : World} {st : LoopState} {pe : Option Code} (o' : Obj), W.heap[w.heap.size + 1]? = some (R st pe) → I s W → I s (W.putObj (w.heap.size + 1) o') := fun o' hl hs =>
    hI _ _ _ hs (Apart.grown (by have := (Array.getElem?_eq_some_iff.1 hl).1; omega) (hIr _ _ hs) (grownBy_putObj' _ _ o') (fun r e => by cases e; exact ⟨by omega, _, hl, rfl⟩))
  refine ⟨w.heap.size + 1, [{ target := .collected w.heap.size, args := #[] }], W1, { target := .fn (.func gf) lb, args := #[.func (.yield (w.heap.size + 1)) #[] #[]] }, W1, gf, #[.func (.yield (w.heap.size + 1)) #[] #[]] ++ lb, W1,
    run_enterLoop_outer _ _ _ _ _, by simp only [resolve, hg]; simp [go_sem], fun f' hf' => by simp [Target.leads] at hf'; subst hf'; exact hFg, by simp [invoke, go_sem, eg], fun _ => h1, ?_⟩
  refine (hseq (fun pre W => I pre W ∧ W.heap[w.heap.size + 1]? = some (R .ready none) ∧ W.heap[w.heap.size]? = some (.deferred (some [])) ∧ w.heap.size + 2 ≤ W.heap.size) W1 low1 sz ?aj ?ar ?round ⟨?h0, rec1, def1, by omega⟩).mono ?fin
  case h0 => exact hI _ _ _ h0 (Apart.of_below low1 (Nat.le_refl _) (hIr _ _ h0))
  case aj =>
    intro s X Y hs _ ha
    exact ⟨hI s X Y hs.1 (ha.mono (by omega)), (ha.below.block _ (by omega)).trans hs.2.1, (ha.below.block _ (by omega)).trans hs.2.2.1, Nat.le_trans hs.2.2.2 ha.below.size⟩
  case ar => exact fun s X hs => ⟨hIr s X hs.1, by omega⟩
  case round =>
    rintro pre x W ⟨hi, hl, hk, hz⟩ hlt0
    refine ⟨fn, _, assign, body, run_yield hl (hps x), roundIn_of_wpIn hfn (hassign pre x W _ hi hz fun a' V kf kp iV vz ax => ?_)⟩
    have hl' := kf.same _ _ (by omega) hl rfl
    have hk' := kf.same _ _ (Nat.le_refl _) hk rfl
    have hlt : w.heap.size + 1 < V.heap.size := (Array.getElem?_eq_some_iff.1 hl').1
    have axb : Ax x a' (V.putObj (w.heap.size + 1) (R .busy none)) := hAx _ _ _ _ ax (fun k o h h2 => World.putObj_heap_other (fun e => by subst e; rw [hl'] at h; cases h; cases h2))
    refine ⟨_, run_beginRound hl' rfl, wpIn_mono (hbody pre x a' _ (own _ hl' iV) (by simp; omega) axb hlt0) ?_⟩
    intro e a3 Z hp
    match e, hp with
    | .normal, ⟨kz, kpz, iz⟩ =>
      have b1 := kz.same _ _ (by omega) (World.putObj_heap_same (o := R .busy none) hlt) rfl
      have b2 : (Z.putObj (w.heap.size + 1) (R .ready none)).heap[w.heap.size + 1]? = some (R .ready none) := World.putObj_heap_same (Array.getElem?_eq_some_iff.1 b1).1
      have b3 : (Z.putObj (w.heap.size + 1) (R .ready none)).heap[w.heap.size]? = some (.deferred (some [])) := (World.putObj_heap_other (by omega)).trans (kz.same _ _ (Nat.le_refl _) ((World.putObj_heap_other (by omega)).trans hk') rfl)
      have hne : O ≠ w.heap.size + 1 := by omega
      have b4 := kz.size
      exact ⟨_, _, run_endRound none b1, ⟨rfl, ⟨own _ b1 iz, b2, b3, by simp at b4 ⊢; omega⟩, kp.trans ((Kq.put hne V _).trans (kpz.trans (Kq.put hne Z _)))⟩⟩
    | .ret, hp => exact hp.elim
    | .exit id, hp => exact hp.elim
    | .goto t, hp => exact hp.elim
    | .panic _, hp => exact hp.elim
    | .outgrown, hp => exact hp.elim
  case fin =>
    rintro e Z ⟨⟨v, rfl⟩, ⟨hi, hl, hk, hz⟩⟩
    exact ⟨none, _, run_endLoop hl (by simp), hdone _ (own _ hl hi) ((World.putObj_heap_other (by omega)).trans hk)⟩
end Go.Proofs.YtbbeeglfgnabmaaDoor
