/- The iterator over numbers: from one to another one. -/
import Derived.Test.YtbbeeglfgnabmaaDoorBase
import Derived.RangeFuncNested
import Derived.RangeFuncLeaves
import Derived.Shelf.Abstract
import Derived.WalkKit
import Derived.OwnWalkIn
import Derived.TacticsInMore
import Derived.LoopNIn
import Derived.LoopIn
namespace Go.Proofs.YtbbeeglfgnabmaaDoor
set_option linter.all false
open Go.RowKit Go.Shelf

attribute [local go_sem] Oper.semAt_some

/-- The cell of a box is as it was. -/
def Kc (B : Nat) (X Y : World) : Prop := Y.cell? ⟨B, 0, none⟩ = X.cell? ⟨B, 0, none⟩

/-- The numbers from p on, so many. -/
def upto (p : Int) (n : Nat) : List Int := (List.range n).map fun (i : Nat) => p + (i : Int)
theorem upto_succ (p : Int) (n : Nat) : upto p (n + 1) = upto p n ++ [p + n] := by simp [upto, List.range_succ]
theorem upto_len (p : Int) (n : Nat) : (upto p n).length = n := by simp [upto]

set_option maxRecDepth 100000 in
set_option maxHeartbeats 1000000 in
theorem between1_in (F : Fence) (n : Nat) (hf : F.fn 60) (hro : F.round = none) (hn : 1 ≤ n) (l Bf Bt : Nat) (p q : Int) (hp : -1000 ≤ p ∧ p ≤ 1000) (hpq : p ≤ q) (hq : q ≤ 1000) (J Jx : List Int → World → Prop)
    (hY : ∀ pre x W, J pre W → pre.length < (q - p + 1).toNat → YieldAt F (n - 1) Tryd.prog l #[.int .i64 x] W fun e W' =>
      (e = .returned (.bool true) ∧ J (pre ++ [x]) W' ∧ Kc Bt W W') ∨ (e = .returned (.bool false) ∧ Jx (pre ++ [x]) W'))
    (W : World) (hBf : W.cell? ⟨Bf, 0, none⟩ = some (.int .i64 p)) (hBt : W.cell? ⟨Bt, 0, none⟩ = some (.int .i64 q)) (h0 : J [] W) :
    CallsIn F n Tryd.prog 60 #[.func (.yield l) #[] #[], .pointer (some ⟨Bf, 0, none⟩), .pointer (some ⟨Bt, 0, none⟩)] W fun e W' => (∃ v, e = .returned v) ∧ ((∃ ys, ys = upto p (q - p + 1).toNat ∧ J ys W') ∨ (∃ pre, True ∧ Jx pre W')) := by
  refine callsIn_of_wp Tryd.func60 rfl hf ?_ hro
  simp only [Tryd.ntmps60, List.size_toArray, List.length_cons, List.length_nil, Nat.reduceAdd, Nat.reduceSub, Array.replicate_succ, Array.replicate_zero, List.push_toArray, List.append_toArray, List.nil_append, List.cons_append]
  gi_wp2
  gi_loopw [4] (fun i wr => ∃ k : Nat, k ≤ (q - p + 1).toNat ∧ i = .int .i64 (p + k) ∧ J (upto p k) wr ∧ wr.cell? ⟨Bt, 0, none⟩ = some (.int .i64 q))
    (fun i wr => (q + 1 - intOf i).toNat)
  case atStart => exact ⟨0, Nat.zero_le _, by simp, by simpa [upto] using h0, hBt⟩
  case round =>
    obtain ⟨k, hk, rfl, hJs, hBq⟩ := hrel
    by_cases hlt : p + k ≤ q
    · obtain ⟨fn, tmps, assign, body, hy, hR⟩ := hY (upto p k) (p + k) wr hJs (by rw [upto_len]; omega)
      gi_wp2
      refine hR.mono ?_
      rintro e W3 (⟨rfl, hJ3, hk3⟩ | ⟨rfl, hJx3⟩)
      · have hq3 : W3.cell? ⟨Bt, 0, none⟩ = some (.int .i64 q) := Eq.trans hk3 hBq
        gi_wp2
        go_roundw
        case rel => exact ⟨k + 1, by omega, by go_num, by rw [upto_succ]; exact hJ3, hq3⟩
        case measure => simp [intOf]; omega
      · gi_wp2
        refine bodyPost_ret (results_none rfl _ _ _) rfl ?_
        exact ⟨⟨_, rfl⟩, .inr ⟨_, trivial, hJx3⟩⟩
    · have hkk : k = (q - p + 1).toNat := by omega
      gi_wp2
      go_end0
      exact ⟨⟨_, rfl⟩, .inl (by rw [← hkk]; exact hJs)⟩

/-- 'between' hands back a value that goes over the numbers. -/
theorem between_stops (F : Fence) (n : Nat) (hf : F.fn 60) (hro : F.round = none) (hn : 1 ≤ n) (Bf Bt : Nat) (p q : Int) (hp : -1000 ≤ p ∧ p ≤ 1000) (hpq : p ≤ q) (hq : q ≤ 1000) (w : World) (hBfl : Bf < w.heap.size) (hBtl : Bt < w.heap.size) (hBf : w.cell? ⟨Bf, 0, none⟩ = some (.int .i64 p)) (hBt : w.cell? ⟨Bt, 0, none⟩ = some (.int .i64 q)) :
    SeqStopsK F n Tryd.prog 60 #[.pointer (some ⟨Bf, 0, none⟩), .pointer (some ⟨Bt, 0, none⟩)] (fun x : Int => #[Value.int .i64 x]) (Kc Bt) (fun ys => ys = upto p (q - p + 1).toNat) (fun _ => True) (q - p + 1).toNat w := fun l J Jx W hW _ _ hY h0 =>
  between1_in F n hf hro hn l Bf Bt p q hp hpq hq J Jx hY W ((hW.cell (p := ⟨Bf, 0, none⟩) hBfl).trans hBf) ((hW.cell (p := ⟨Bt, 0, none⟩) hBtl).trans hBt) h0

set_option maxHeartbeats 1000000 in
theorem between_in (F : Fence) (n : Nat) (hf : F.fn 51) (hro : F.round = none) (p q : Int) (w : World) :
    CallsIn F n Tryd.prog 51 #[.int .i64 p, .int .i64 q] w fun e w' => e = .returned (.func (.func 60) #[] #[.pointer (some ⟨w.heap.size, 0, none⟩), .pointer (some ⟨w.heap.size + 1, 0, none⟩)]) ∧ w' = (w.alloc (.cells #[.int .i64 p] 3)).alloc (.cells #[.int .i64 q] 3) := by
  refine callsIn_of_wp Tryd.func51 rfl hf ?_ hro
  simp only [Tryd.ntmps51, List.size_toArray, List.length_cons, List.length_nil, Nat.reduceAdd, Nat.reduceSub, Array.replicate_succ, Array.replicate_zero, List.push_toArray, List.append_toArray, List.nil_append, List.cons_append]
  gi_wp2
  go_ret
  exact ⟨rfl, rfl⟩

theorem kc_t {B : Nat} {X Y Z : World} (h : Kc B X Y) (k : Kc B Y Z) : Kc B X Z := Eq.trans k h
theorem kc_b {B n : Nat} (hB : B < n) (W : World) (l : Nat) (o o' : Obj) (hl : n ≤ l) (h1 : W.heap[l]? = some o) (h2 : o.isCells = false) (h3 : o.isWalk = false) : Kc B W (W.putObj l o') :=
  World.cell?_of_block (a := ⟨B, 0, none⟩) (World.putObj_heap_other (by simp; omega))
end Go.Proofs.YtbbeeglfgnabmaaDoor
