/- Slices of uint32: what they read as; a block of the call's own that holds limbs. -/
import Derived.Test.YtcdndcbfmlnpjaaGreatDoorBase
import Derived.Test.YtcdndcbfmlnpjaaGreatDoorNa2
import Derived.Laws.CopyOwn
import Derived.OwnWalk
import Derived.Laws.Rows
namespace Go.Proofs.YtcdndcbfmlnpjaaGreatDoor
set_option linter.all false
open Go.RowKit

def u32s (l : List Nat) : List Value := l.map fun (x : Nat) => Value.int .u32 (x : Int)
theorem u32s_len (l : List Nat) : (u32s l).length = l.length := by simp [u32s]
theorem u32s_one (l : List Nat) : ∀ v ∈ u32s l, v.oneCell' = true := fun v hv => by
  obtain ⟨x, _, rfl⟩ := List.mem_map.1 hv; rfl
theorem u32s_get (l : List Nat) (k : Nat) (h : k < l.length) : (u32s l)[k]? = some (.int .u32 (l[k] : Int)) := by
  simp [u32s, List.getElem?_eq_getElem h]
theorem add_own (g o k : Nat) : (⟨g, o, none⟩ : Addr).add k = ⟨g, o + k, none⟩ := by
  unfold Addr.add
  split
  · rename_i e; subst e; rfl
  · rfl

/-- The slice reads as the list. -/
structure Sl (w : World) (a : Option Addr) (c : Nat) (l : List Nat) : Prop where
  plain : 0 < l.length → ∃ b o, a = some ⟨b, o, none⟩ ∧ b < w.heap.size ∧ ∀ k (h : k < l.length), w.cell? ⟨b, o + k, none⟩ = some (.int .u32 (l[k] : Int))
  cap : l.length ≤ c
  ok : Na.OK l

theorem Sl.below {w w' : World} {a : Option Addr} {c B : Nat} {l : List Nat} (h : Sl w a c l) (hb : Below B w w') (hB : ∀ ad, a = some ad → ad.block < B) : Sl w' a c l where
  plain := fun h0 => by
    obtain ⟨b, o, rfl, hlt, hc⟩ := h.plain h0
    have hbB : b < B := hB _ rfl
    exact ⟨b, o, rfl, Nat.lt_of_lt_of_le hlt hb.size, fun k hk => (hb.cell (p := ⟨b, o + k, none⟩) hbB).trans (hc k hk)⟩
  cap := h.cap
  ok := h.ok
theorem Sl.on {w w' : World} {a : Option Addr} {c : Nat} {l : List Nat} (h : Sl w a c l) (hb : Below w.heap.size w w') : Sl w' a c l where
  plain := fun h0 => by
    obtain ⟨b, o, rfl, hlt, hc⟩ := h.plain h0
    exact ⟨b, o, rfl, Nat.lt_of_lt_of_le hlt hb.size, fun k hk => (hb.cell (p := ⟨b, o + k, none⟩) hlt).trans (hc k hk)⟩
  cap := h.cap
  ok := h.ok
theorem Sl.take {w : World} {a : Option Addr} {c : Nat} {l : List Nat} (h : Sl w a c l) (k : Nat) : Sl w a c (l.take k) where
  plain := fun h0 => by
    rw [List.length_take] at h0
    obtain ⟨b, o, e, hlt, hc⟩ := h.plain (by omega)
    exact ⟨b, o, e, hlt, fun i hi => by
      rw [List.length_take] at hi
      rw [List.getElem_take]; exact hc i (by omega)⟩
  cap := by rw [List.length_take]; have := h.cap; omega
  ok := Na.ok_take h.ok k
theorem Sl.cut {w : World} {a : Option Addr} {c : Nat} {l : List Nat} (h : Sl w a c l) : Sl w a c (Na.cut l) := by rw [(Na.rt_le h.ok).2]; exact h.take _
theorem Sl.nil (w : World) (a : Option Addr) (c : Nat) : Sl w a c [] := ⟨fun h => absurd h (by simp), Nat.zero_le _, fun _ h => by cases h⟩
theorem Sl.lt {w : World} {a : Option Addr} {c : Nat} {l : List Nat} (h : Sl w a c l) (k : Nat) (hk : k < l.length) : l[k] < 4294967296 := h.ok _ (List.getElem_mem hk)

theorem Sl.cells {w : World} {a : Option Addr} {c : Nat} {l : List Nat} (h : Sl w a c l) (h0 : 0 < l.length) : ∃ ad, a = some ad ∧ ∀ j v, (u32s l)[j]? = some v → w.cell? (ad.add j) = some v := by
  obtain ⟨b, o, rfl, _, hc⟩ := h.plain h0
  refine ⟨_, rfl, fun j v hv => ?_⟩
  have hj : j < l.length := by have := (List.getElem?_eq_some_iff.1 hv).1; rwa [u32s_len] at this
  rw [u32s_get l j hj] at hv
  rw [add_own, hc j hj, Option.some.inj hv]
theorem splice_all {α : Type} (Z cs : List α) (h : Z.length = cs.length) : splice Z 0 cs = cs := by simp [splice, ← h]

/-- A block of the call's own holds the limbs. -/
def Blk (w : World) (g : Nat) (o : List Nat) : Prop := w.heap[g]? = some (.cells (u32s o).toArray 63 (0, 0))
theorem Blk.lt {w : World} {g : Nat} {o : List Nat} (h : Blk w g o) : g < w.heap.size := (Array.getElem?_eq_some_iff.1 h).1
theorem Blk.cell {w : World} {g : Nat} {o : List Nat} (h : Blk w g o) (k : Nat) (hk : k < o.length) : w.cell? ⟨g, k, none⟩ = some (.int .u32 (o[k] : Int)) := by
  unfold World.cell?
  simp only []
  rw [show w.heap[g]? = _ from h]
  show (u32s o).toArray[k]? = _
  rw [List.getElem?_toArray, u32s_get o k hk]
theorem Blk.frozen {w : World} {g : Nat} {o : List Nat} (h : Blk w g o) (k : Nat) : w.frozen? ⟨g, k, none⟩ = false := by
  unfold World.frozen?
  simp only []
  rw [show w.heap[g]? = _ from h]
  simp
theorem Blk.set {w : World} {g : Nat} {o : List Nat} (h : Blk w g o) (i x : Nat) : Blk (w.setCell ⟨g, i, none⟩ (.int .u32 (x : Int))) g (o.set i x) := by
  have := heap_setCell_same w g i (u32s o).toArray 63 (.int .u32 (x : Int)) h
  unfold Blk
  rw [this]
  congr 2
  apply Array.ext'
  simp [u32s, List.map_set]
theorem Blk.on {w w' : World} {g : Nat} {o : List Nat} (h : Blk w g o) (hb : Below w.heap.size w w') : Blk w' g o := (hb.block g h.lt).trans h
theorem Blk.below {w w' : World} {g B : Nat} {o : List Nat} (h : Blk w g o) (hb : Below B w w') (hg : g < B) : Blk w' g o := (hb.block g hg).trans h
theorem Blk.sl {w : World} {g : Nat} {o : List Nat} (h : Blk w g o) (hok : Na.OK o) {c : Nat} (hc : o.length ≤ c) : Sl w (some ⟨g, 0, none⟩) c o where
  plain := fun _ => ⟨g, 0, rfl, h.lt, fun k hk => by rw [Nat.zero_add]; exact h.cell k hk⟩
  cap := hc
  ok := hok
theorem Blk.made {w' : World} {base g n : Nat} (h : w'.ownsRow base 63 1 (.slice (some ⟨g, 0, none⟩) n n) n (madeCells #[Value.int .u32 0] n).toList) : Blk w' g (List.replicate n 0) := by
  rcases h.2 with ⟨e, _⟩ | ⟨g', cap, cur, e, hb, hg, h1, h2, h3, h4⟩
  · cases e
  · simp only [Value.slice.injEq, Option.some.injEq, Addr.mk.injEq] at e
    obtain ⟨⟨rfl, _⟩, _, rfl⟩ := e
    unfold Blk
    rw [hg]
    have e2 : cur.toList = (madeCells #[Value.int .u32 0] n).toList := by
      rw [← h4, List.take_of_length_le (by simp; omega)]
    congr 2
    apply Array.ext'
    rw [e2]
    simp [u32s, madeCells, Value.cells, Nat.mod_one, List.map_const']
theorem infoU32 : (Tryz.prog.info? 63).map (fun i => (i.zero, i.size, i.bytes)) = some (some (.int .u32 0), 1, 4) := by kernel_rfl

/-- The slice's cells are the call's own, to be written. -/
def Own (w : World) (B : Nat) (a : Option Addr) (n : Nat) : Prop := 0 < n → ∃ b o, a = some ⟨b, o, none⟩ ∧ B ≤ b ∧ ∀ k, k < n → w.frozen? ⟨b, o + k, none⟩ = false
theorem Own.nil (w : World) (B : Nat) (a : Option Addr) : Own w B a 0 := fun h => absurd h (by simp)
theorem Own.le {w : World} {B n m : Nat} {a : Option Addr} (h : Own w B a n) (hm : m ≤ n) : Own w B a m := fun h0 => by
  obtain ⟨b, o, e, hb, hf⟩ := h (by omega)
  exact ⟨b, o, e, hb, fun k hk => hf k (by omega)⟩
theorem Blk.own {w : World} {g B n : Nat} {o : List Nat} (h : Blk w g o) (hB : B ≤ g) : Own w B (some ⟨g, 0, none⟩) n := fun _ => ⟨g, 0, rfl, hB, fun k _ => h.frozen _⟩
/-- What a function answers with: a list of the call's own. -/
def GivesN (l : List Nat) (w : World) (e : Ending) (w' : World) : Prop := ∃ a c, e = .returned (.slice a l.length c) ∧ Sl w' a c l ∧ Own w' w.heap.size a l.length ∧ Below w.heap.size w w'
/-- .. a list of the call's own, and an error. -/
def GivesE (q : List Nat × Int) (w : World) (e : Ending) (w' : World) : Prop := ∃ a c, e = .returned (.tuple #[.slice a q.1.length c, .int .i64 q.2]) ∧ Sl w' a c q.1 ∧ Own w' w.heap.size a q.1.length ∧ Below w.heap.size w w'
/-- .. a block of its own that holds just the list. -/
def GivesB (l : List Nat) (w : World) (e : Ending) (w' : World) : Prop := ∃ g, e = .returned (.slice (some ⟨g, 0, none⟩) l.length l.length) ∧ w.heap.size ≤ g ∧ Blk w' g l ∧ Below w.heap.size w w'
end Go.Proofs.YtcdndcbfmlnpjaaGreatDoor
