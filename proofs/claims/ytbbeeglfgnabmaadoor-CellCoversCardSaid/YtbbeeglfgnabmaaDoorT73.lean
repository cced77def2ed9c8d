/- The cells of an area, collected by the statements' own function. -/
import Derived.Test.YtbbeeglfgnabmaaDoorT72
import Derived.Test.YtbbeeglfgnabmaaDoorRows2
namespace Go.Proofs.YtbbeeglfgnabmaaDoor
set_option linter.all false
open Go.RowKit Go.Shelf

attribute [local go_sem] Oper.semAt_some

set_option maxHeartbeats 1000000 in
theorem ce_cells_in (F : Fence) (n : Nat) (hf : F.fn 44) (hro : F.round = none) (c d : Int) (x y : Bool) (c' d' : Int) (x' y' : Bool) (w : World) :
    CallsIn F n Tryd.prog 44 #[.agg #[.int .i64 c, .int .i64 d, .bool x, .bool y], .agg #[.int .i64 c', .int .i64 d', .bool x', .bool y']] w fun e w' => e = .returned (.func (.func 50) #[] #[.pointer (some ⟨w.heap.size, 0, none⟩), .pointer (some ⟨w.heap.size + 1, 0, none⟩)]) ∧
      w' = (w.alloc (.cells #[.int .i64 c, .int .i64 d, .bool x, .bool y] 23)).alloc (.cells #[.int .i64 c', .int .i64 d', .bool x', .bool y'] 23) := by
  refine callsIn_of_wp Tryd.func44 rfl hf ?_ hro
  simp only [Tryd.ntmps44, List.size_toArray, List.length_cons, List.length_nil, Nat.reduceAdd, Nat.reduceSub, Array.replicate_succ, Array.replicate_zero, List.push_toArray, List.append_toArray, List.nil_append, List.cons_append]
  gi_wp2
  go_ret
  exact ⟨rfl, rfl⟩

theorem infoRef : (Tryd.prog.info? 23).map (fun i => (i.zero, i.size, i.bytes)) = some (some (.agg #[.int .i64 0, .int .i64 0, .bool false, .bool false]), 4, 24) := by kernel_rfl

/-- What is returned: the row of the cells. -/
def Gives (l : List Ce.Rf) (w : World) (e : Ending) (w' : World) : Prop := ∃ v, e = .returned v ∧ RowR w' w.heap.size v l ∧ Below w.heap.size w w'

theorem cells_new (w : World) (vs : List Value) (t : TypeId) (j : Nat) (u : Value) (h : vs[j]? = some u) : (w.alloc (.cells vs.toArray t)).cell? ((⟨w.heap.size, 0, none⟩ : Addr).add j) = some u := by
  have ha : (⟨w.heap.size, 0, none⟩ : Addr).add j = ⟨w.heap.size, j, none⟩ := by
    unfold Addr.add
    split
    · rename_i e; subst e; rfl
    · simp
  rw [ha]
  have := (Cs.new w vs t).get j h
  exact this

set_option maxRecDepth 100000 in
set_option maxHeartbeats 4000000 in
theorem l15_cells_any (a b : Ce.Rf) (most : Int) (w : World) (hm : ((Ce.cells a b).length : Int) ≤ most) (hm2 : most ≤ 100000) :
    Calls Tryd.prog 29 #[rv a, rv b, .int .i64 most] w (Gives (Ce.cells a b) w) := by
  obtain ⟨n, hn⟩ : ∃ n : Nat, 20 ≤ n := ⟨20, Nat.le_refl _⟩
  refine (callsIn_wide (n := n)).1 ?_
  obtain ⟨i0, hI⟩ := info_parts infoRef
  obtain ⟨hi, hi0, hi1, hi2⟩ := hI
  obtain ⟨L, hL⟩ : ∃ L, L = Ce.cells a b := ⟨_, rfl⟩
  have hit := fun O A B w h1 h2 h3 h4 h5 => cells1_iter (n - 1) (by omega) a b O A B w h1 h2 h3 h4 h5
  rw [← hL] at hm hit ⊢
  obtain ⟨c, d, x, y⟩ := a
  obtain ⟨c', d', x', y'⟩ := b
  simp only [rv_mk] at hit ⊢
  have HIT := Lib.hid hit; clear hit hL
  refine callsIn_of_wp_marks Tryd.func29 rfl trivial ?_ rfl
  simp only [Tryd.ntmps29, List.size_toArray, List.length_cons, List.length_nil, Nat.reduceAdd, Nat.reduceSub, Array.replicate_succ, Array.replicate_zero, List.push_toArray, List.append_toArray, List.nil_append, List.cons_append]
  gi_wp2_with ((first | refine ⟨trivial, (fun h => (by cases h)), ?_⟩ | refine ⟨trivial, ?_⟩); gi_at_call 44; refine (ce_cells_in Fence.wide _ trivial rfl _ _ _ _ _ _ _ _ _).mono ?_; rintro e w' ⟨rfl, rfl⟩)
  have cO := (((Boxed.new (((w.alloc (.cells #[.int .i64 c, .int .i64 d, .bool x, .bool y] 23)).alloc (.cells #[.int .i64 c', .int .i64 d', .bool x', .bool y'] 23)).alloc (.cells #[.int .i64 most] 3)) 42 (.slice none 0 0)).alloc (.cells #[.int .i64 c, .int .i64 d, .bool x, .bool y] 23)).alloc (.cells #[.int .i64 c', .int .i64 d', .bool x', .bool y'] 23))
  have cM := (((Boxed.new ((w.alloc (.cells #[.int .i64 c, .int .i64 d, .bool x, .bool y] 23)).alloc (.cells #[.int .i64 c', .int .i64 d', .bool x', .bool y'] 23)) 3 (.int .i64 most)).alloc (.cells #[.slice none 0 0] 42)).alloc (.cells #[.int .i64 c, .int .i64 d, .bool x, .bool y] 23)).alloc (.cells #[.int .i64 c', .int .i64 d', .bool x', .bool y'] 23)
  have cA := (Cs.new ((((w.alloc (.cells #[.int .i64 c, .int .i64 d, .bool x, .bool y] 23)).alloc (.cells #[.int .i64 c', .int .i64 d', .bool x', .bool y'] 23)).alloc (.cells #[.int .i64 most] 3)).alloc (.cells #[.slice none 0 0] 42)) [.int .i64 c, .int .i64 d, .bool x, .bool y] 23).alloc (.cells #[.int .i64 c', .int .i64 d', .bool x', .bool y'] 23)
  have cB := Cs.new (((((w.alloc (.cells #[.int .i64 c, .int .i64 d, .bool x, .bool y] 23)).alloc (.cells #[.int .i64 c', .int .i64 d', .bool x', .bool y'] 23)).alloc (.cells #[.int .i64 most] 3)).alloc (.cells #[.slice none 0 0] 42)).alloc (.cells #[.int .i64 c, .int .i64 d, .bool x, .bool y] 23)) [.int .i64 c', .int .i64 d', .bool x', .bool y'] 23
  simp only [World.size_alloc] at cO cM cA cB
  have hB0 : Below w.heap.size w ((((((w.alloc (.cells #[.int .i64 c, .int .i64 d, .bool x, .bool y] 23)).alloc (.cells #[.int .i64 c', .int .i64 d', .bool x', .bool y'] 23)).alloc (.cells #[.int .i64 most] 3)).alloc (.cells #[.slice none 0 0] 42)).alloc (.cells #[.int .i64 c, .int .i64 d, .bool x, .bool y] 23)).alloc (.cells #[.int .i64 c', .int .i64 d', .bool x', .bool y'] 23)) := by (repeat (first | exact Below.refl _ _ | assumption | refine Below.setCell ?_ (by first | omega | (simp <;> omega)) _ | refine Below.alloc ?_ (by first | omega | (simp <;> omega)) _ | refine Below.drew ?_ | refine below_drewN' ?_ _))
  obtain ⟨W0, hW0⟩ : ∃ W0, W0 = ((((((w.alloc (.cells #[.int .i64 c, .int .i64 d, .bool x, .bool y] 23)).alloc (.cells #[.int .i64 c', .int .i64 d', .bool x', .bool y'] 23)).alloc (.cells #[.int .i64 most] 3)).alloc (.cells #[.slice none 0 0] 42)).alloc (.cells #[.int .i64 c, .int .i64 d, .bool x, .bool y] 23)).alloc (.cells #[.int .i64 c', .int .i64 d', .bool x', .bool y'] 23)) := ⟨_, rfl⟩
  have hsz : W0.heap.size = w.heap.size + 6 := by rw [hW0]; simp
  have hz6 : w.heap.size + 5 < W0.heap.size := by omega
  rw [← hW0] at cO cM cA cB hB0 ⊢
  have HSZ := Lib.hid hsz; clear hW0 hsz
  have h1 : 1 ≤ n := by omega
  refine rf_all (F := Fence.wide) rfl h1 (gf := 50) (lb := #[.pointer (some ⟨w.heap.size + 1 + 1 + 1 + 1, 0, none⟩), .pointer (some ⟨w.heap.size + 1 + 1 + 1 + 1 + 1, 0, none⟩)]) rfl trivial (enters_of Tryd.func50 (by kernel_rfl) rfl)
    (O := w.heap.size + 1 + 1 + 1) (xs := L) (by omega) (fun _ => rfl) (HIT.out _ _ _ W0 (by omega) (by omega) (by omega) cA cB)
    (fun pre X => ∃ v, Boxed X (w.heap.size + 1 + 1 + 1) 42 v ∧ RowR X w.heap.size v pre ∧ Boxed X (w.heap.size + 1 + 1) 3 (.int .i64 most) ∧ Below w.heap.size w X)
    (fun pre X Y hs ap => by
      obtain ⟨v, e1, e2, e3, e4⟩ := hs
      exact ⟨v, (ap.below.block _ (by omega)).trans e1, e2.kept (fun k hk => ap.row k (rowAt_of e1 e2 hk)), (ap.below.block _ (by omega)).trans e3, e4.trans (ap.below.mono (by omega))⟩)
    (fun pre X hs k hk => by obtain ⟨v, e1, e2, _, _⟩ := hs; exact e2.cells (rowAt_boxed e1 hk))
    ⟨_, cO, RowR.nil _ _, cM, hB0⟩
    (fun q a' X => ∃ Bx, X.heap[Bx]? = some (.cells #[.int .i64 q.col, .int .i64 q.row, .bool q.ac, .bool q.ar] 23 (0, 0)) ∧ Bx < X.heap.size ∧ a' = { tmps := #[.agg #[.int .i64 c, .int .i64 d, .bool x, .bool y], .agg #[.int .i64 c', .int .i64 d', .bool x', .bool y'], .int .i64 most, .pointer (some ⟨w.heap.size, 0, none⟩), .pointer (some ⟨w.heap.size + 1, 0, none⟩), .pointer (some ⟨w.heap.size + 1 + 1, 0, none⟩), .slice none 0 0, .pointer (some ⟨w.heap.size + 1 + 1 + 1, 0, none⟩), .pointer (some ⟨Bx, 0, none⟩), .agg #[.int .i64 c, .int .i64 d, .bool x, .bool y], .agg #[.int .i64 c', .int .i64 d', .bool x', .bool y'], .func (.func 50) #[] #[.pointer (some ⟨w.heap.size + 1 + 1 + 1 + 1, 0, none⟩), .pointer (some ⟨w.heap.size + 1 + 1 + 1 + 1 + 1, 0, none⟩)], rv q, undef, undef, undef, undef, undef, undef, undef, undef, undef], defers := [] })
    (fun q a' X Y hs hk => by obtain ⟨Bx, e1, e2, e3⟩ := hs; have e4 := (hk Bx _ e1 rfl).trans e1; exact ⟨Bx, e4, (Array.getElem?_eq_some_iff.1 e4).1, e3⟩)
    ?assign ?body ?done
  case assign =>
    rintro pre ⟨q1, q2, q3, q4⟩ X KK ⟨v, e1, e2, e3, e4⟩ hxz hKK
    simp only [rv_mk]
    gi_wp2
    exact hKK _ _ ((KeepsOthers.alloc X _).from _) (Kq.alloc (by omega) _) ⟨v, e1.alloc _, e2.on ((Below.refl _ _).alloc (Nat.le_refl _) _), e3.alloc _, e4.alloc (by omega) _⟩ (by simp; omega) ⟨X.heap.size, World.alloc_heap_new X _, by simp, rfl⟩
  case body =>
    rintro pre ⟨q1, q2, q3, q4⟩ a' X ⟨v, e1, e2, e3, e4⟩ hxz ⟨Bx, b1, b2, rfl⟩ hlt
    have hown := e2.2
    obtain ⟨⟨av, cv, rfl⟩, _⟩ := id e2
    have cO := e1.cell
    have fO := e1.frozen
    have cM := e3.cell
    have c0 : X.cell? ⟨Bx, 0, none⟩ = some (.int .i64 q1) := by unfold World.cell?; simp only []; rw [b1]; rfl
    have c1 : X.cell? ⟨Bx, 1, none⟩ = some (.int .i64 q2) := by unfold World.cell?; simp only []; rw [b1]; rfl
    have c2 : X.cell? ⟨Bx, 2, none⟩ = some (.bool q3) := by unfold World.cell?; simp only []; rw [b1]; rfl
    have c3 : X.cell? ⟨Bx, 3, none⟩ = some (.bool q4) := by unfold World.cell?; simp only []; rw [b1]; rfl
    have htest : ((pre.length : Int) == most) = false := beq_eq_false_iff_ne.2 (by omega)
    have hpl : pre.length ≤ 100000 := by omega
    have hzx := e4.size
    simp only [rv_mk]
    gi_wp2_with (gi_at_builtin; refine wpListIn_append_own_at _ rfl _ _ 42 rfl w.heap.size 23 i0 (.agg #[.int .i64 0, .int .i64 0, .bool false, .bool false]) 4 24 Tryd.underlying42 hi hi0 hi1 hi2 rfl (by decide) _ _ _ rfl (hown.alloc _) ⟨X.heap.size, 0, none⟩ 1 1 [.int .i64 q1, .int .i64 q2, .bool q3, .bool q4] rfl rfl (cells_new X _ _) (by simp [Value.oneCell']) (by unfold maxLen; omega) (by omega) (by simp; omega) ?_; intro v' w1 hown' hgrow hnil hblk; obtain ⟨g', cap', rfl⟩ := ownsRow_succ hown'; obtain ⟨hv1, hv2, hr2, hk2, hb2⟩ := e1.appended (by decide) hown e4.size (by omega) hown' hgrow; have hc1 := hv1.cell; have hf1 := hv1.frozen)
    exact ⟨hk2.from _, Kq.appended e1 e2 hgrow hblk hv2, _, hv2, RowR.of hr2 (by simp) (by rw [refs_snoc]), ((e3.alloc _).kept hgrow (e3.not_row (by decide) hown)).other (by omega) _, e4.trans hb2⟩
  case done =>
    rintro X ⟨v, e1, e2, e3, e4⟩ hdef
    have cO := e1.cell
    gi_wp2
    refine ⟨by simp, .inl ⟨_, _, rfl, run_takeDeferred hdef, ?_⟩⟩
    refine ⟨v, (by simp [results, Tryd.f29, go_sem]), v, rfl, e2.kept (fun k hk => World.putObj_heap_other (fun e => ?_)), e4.trans (belowK_b (w := w) (Nat.le_refl _) X _ _ _ (by omega) hdef rfl rfl)⟩
    obtain ⟨o, h2, h3⟩ := e2.cells hk
    rw [e, hdef] at h2; cases h2; cases h3
end Go.Proofs.YtbbeeglfgnabmaaDoor
