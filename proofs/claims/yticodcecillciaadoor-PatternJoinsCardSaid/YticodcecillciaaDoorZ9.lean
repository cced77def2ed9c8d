/- The reader of a pattern in memory: its block, the rows that it grows, no two in one place; what a store and an append make of it. -/
import Derived.Test.YticodcecillciaaDoorZ2
import Derived.Test.YticodcecillciaaDoorZ8
import Derived.Deep.RegionHeld3
import Derived.Deep.AppendLies
import Derived.Deep.RegionLaw
namespace Go.Proofs.YticodcecillciaaDoor
set_option linter.all false
open Go.RowKit

/-- A store into a row. -/
theorem RowG.set {w : World} {base n sz g i : Nat} {T : TypeId} {v : Value} {xs : List Value} (h : RowG w base T sz v n xs) (hg : v.ownBlock = some g) (hi : i < xs.length) (u : Value) : RowG (w.setCell ⟨g, i, none⟩ u) base T sz v n (xs.set i u) := by
  refine ⟨h.1, by rw [List.length_set]; exact h.2.1, ?_⟩
  rcases h.2.2 with ⟨rfl, _⟩ | ⟨g', cap, cur, rfl, hb, hg', h1, h2, h3, h4⟩
  · cases hg
  · obtain rfl : g' = g := by simpa [Value.ownBlock] using hg
    have hl := h.2.1
    refine .inr ⟨g', cap, cur.setIfInBounds i u, rfl, hb, heap_setCell_same w g' i cur T u hg', h1, h2, by rw [Array.size_setIfInBounds]; exact h3, ?_⟩
    rw [Array.toList_setIfInBounds, List.take_set, h4]
theorem RowG.other {w : World} {base n sz : Nat} {T : TypeId} {v : Value} {xs : List Value} (h : RowG w base T sz v n xs) {a : Addr} (hne : v.ownBlock ≠ some a.block) (u : Value) : RowG (w.setCell a u) base T sz v n xs :=
  h.kept fun k hk => Below.heap_setCell w a u k (fun e => hne (by rw [hk, e]))
theorem RowG.grown {w w1 : World} {base n sz : Nat} {T : TypeId} {v : Value} {xs : List Value} {row : Option Nat} (h : RowG w base T sz v n xs) (hg : w.grownBy w1 row) (hne : ∀ k, v.ownBlock = some k → row ≠ some k) : RowG w1 base T sz v n xs :=
  h.kept fun k hk => hg.block k (h.lt hk).2 (fun e => hne k hk e.symm)

/-- No two of the blocks are one. -/
def Apt (l : List (Option Nat)) : Prop := ∀ (i j x : Nat), l[i]? = some (some x) → l[j]? = some (some x) → i = j
theorem Apt.set {l : List (Option Nat)} (h : Apt l) (i : Nat) (o : Option Nat) (ho : ∀ j x, o = some x → l[j]? = some (some x) → j = i) : Apt (l.set i o) := by
  intro a b x ha hb
  rw [List.getElem?_set] at ha hb
  by_cases e1 : i = a
  · by_cases e2 : i = b
    · omega
    · rw [if_neg e2] at hb
      rw [if_pos e1] at ha
      split at ha
      · have := ho b x (Option.some.inj ha) hb; omega
      · cases ha
  · rw [if_neg e1] at ha
    by_cases e2 : i = b
    · rw [if_pos e2] at hb
      split at hb
      · have := ho a x (Option.some.inj hb) ha; omega
      · cases hb
    · rw [if_neg e2] at hb
      exact h a b x ha hb
theorem Apt.snoc {l : List (Option Nat)} (h : Apt l) : Apt (l ++ [none]) := by
  intro a b x ha hb
  have lt : ∀ c : Nat, (l ++ [none])[c]? = some (some x) → l[c]? = some (some x) := fun c hc => by
    rw [List.getElem?_append] at hc
    split at hc
    · exact hc
    · obtain ⟨h1, h2⟩ := List.getElem?_eq_some_iff.1 hc
      simp at h2
  exact h a b x (lt a ha) (lt b hb)

/-- Where the reader's parts lie: its block; the sections' row, their places' row, each section's items. -/
structure Lay where
  R : Nat
  vS : Value
  vF : Value
  vis : List Value
def Lay.own (y : Lay) : List (Option Nat) := some y.R :: y.vS.ownBlock :: y.vF.ownBlock :: y.vis.map (·.ownBlock)
def secCells : List Value → List Pa.Sec → List Value
  | v :: vs, s :: l => v :: .bool s.grouped :: .int .i64 s.scale :: secCells vs l
  | _, _ => []
theorem secCells_len {vs : List Value} {l : List Pa.Sec} (h : vs.length = l.length) : (secCells vs l).length = l.length * 3 := by
  induction vs generalizing l with
  | nil => cases l with
    | nil => rfl
    | cons => simp at h
  | cons v vs ih => cases l with
    | nil => simp at h
    | cons s l => simp only [secCells, List.length_cons, ih (by simpa using h)]; omega
theorem secCells_get {vs : List Value} {l : List Pa.Sec} (h : vs.length = l.length) (k : Nat) (hk : k < l.length) :
    (secCells vs l)[k * 3]? = some (vs[k]'(by omega)) ∧ (secCells vs l)[k * 3 + 1]? = some (.bool l[k].grouped) ∧ (secCells vs l)[k * 3 + 2]? = some (.int .i64 l[k].scale) := by
  induction vs generalizing l k with
  | nil => simp at h; omega
  | cons v vs ih => cases l with
    | nil => simp at hk
    | cons s l =>
      cases k with
      | zero => exact ⟨rfl, rfl, rfl⟩
      | succ k =>
        have := ih (by simpa using h) k (by simpa using hk)
        rw [show (k + 1) * 3 = k * 3 + 1 + 1 + 1 by omega]
        simpa [secCells] using this
theorem secCells_snoc {vs : List Value} {l : List Pa.Sec} (h : vs.length = l.length) (v : Value) (s : Pa.Sec) : secCells (vs ++ [v]) (l ++ [s]) = secCells vs l ++ [v, .bool s.grouped, .int .i64 s.scale] := by
  induction vs generalizing l with
  | nil => cases l with
    | nil => rfl
    | cons => simp at h
  | cons u vs ih => cases l with
    | nil => simp at h
    | cons t l =>
      have := ih (l := l) (by simpa using h)
      simp [secCells, this]
theorem secCells_ext {vs : List Value} {l : List Pa.Sec} {xs : List Value} (h : vs.length = l.length) (hx : xs.length = l.length * 3)
    (hg : ∀ k (hk : k < l.length), xs[k * 3]? = some (vs[k]'(by omega)) ∧ xs[k * 3 + 1]? = some (.bool l[k].grouped) ∧ xs[k * 3 + 2]? = some (.int .i64 l[k].scale)) : xs = secCells vs l := by
  apply List.ext_getElem?
  intro i
  by_cases hi : i < l.length * 3
  · have hk : i / 3 < l.length := by omega
    obtain ⟨a1, a2, a3⟩ := hg (i / 3) hk
    obtain ⟨b1, b2, b3⟩ := secCells_get h (i / 3) hk
    have hm : i = i / 3 * 3 ∨ i = i / 3 * 3 + 1 ∨ i = i / 3 * 3 + 2 := by omega
    rcases hm with e | e | e
    · rw [e, a1, b1]
    · rw [e, a2, b2]
    · rw [e, a3, b3]
  · rw [List.getElem?_eq_none (by omega), List.getElem?_eq_none (by rw [secCells_len h]; omega)]

structure RdAt (w : World) (base : Nat) (y : Lay) (s : ByteArray) (st : Pa.St) : Prop where
  low : base ≤ y.R
  rd : Mem w y.R [.string s, .int .i64 st.pos, y.vS, y.vF, .int .i64 st.items, .bool st.opn] 69
  secs : RowG w base 32 3 y.vS st.secs.length (secCells y.vis st.secs)
  begins : RowG w base 3 1 y.vF st.begins.length (intCells st.begins)
  len : y.vis.length = st.secs.length
  its : ∀ k (h : k < y.vis.length) (h2 : k < st.secs.length), RowG w base 48 2 y.vis[k] st.secs[k].items.length (itCells st.secs[k].items)
  apt : Apt y.own

theorem RdAt.lt {w : World} {base : Nat} {y : Lay} {s : ByteArray} {st : Pa.St} (h : RdAt w base y s st) {j x : Nat} (hj : y.own[j]? = some (some x)) : base ≤ x ∧ x < w.heap.size := by
  unfold Lay.own at hj
  match j, hj with
  | 0, hj => cases hj; exact ⟨h.low, h.rd.lt⟩
  | 1, hj => exact h.secs.lt (by simpa using hj)
  | 2, hj => exact h.begins.lt (by simpa using hj)
  | k + 3, hj =>
    simp only [List.getElem?_cons_succ, List.getElem?_map] at hj
    obtain ⟨v, hv, e⟩ := Option.map_eq_some_iff.1 hj
    obtain ⟨hk, rfl⟩ := List.getElem?_eq_some_iff.1 hv
    exact (h.its k hk (by rw [← h.len]; exact hk)).lt e
theorem own_vi (y : Lay) (k : Nat) (h : k < y.vis.length) : y.own[k + 3]? = some (y.vis[k].ownBlock) := by
  unfold Lay.own
  simp [List.getElem?_eq_getElem h]
theorem RdAt.on {w w' : World} {base : Nat} {y : Lay} {s : ByteArray} {st : Pa.St} (h : RdAt w base y s st) (hb : Below w.heap.size w w') : RdAt w' base y s st :=
  ⟨h.low, h.rd.on hb, h.secs.on hb, h.begins.on hb, h.len, fun k h1 h2 => (h.its k h1 h2).on hb, h.apt⟩
theorem RdAt.neS {w : World} {base : Nat} {y : Lay} {s : ByteArray} {st : Pa.St} (h : RdAt w base y s st) : y.vS.ownBlock ≠ some y.R := fun e => by
  have := h.apt 0 1 y.R rfl (by unfold Lay.own; simp [e]); omega
theorem RdAt.neF {w : World} {base : Nat} {y : Lay} {s : ByteArray} {st : Pa.St} (h : RdAt w base y s st) : y.vF.ownBlock ≠ some y.R := fun e => by
  have := h.apt 0 2 y.R rfl (by unfold Lay.own; simp [e]); omega
theorem RdAt.neI {w : World} {base : Nat} {y : Lay} {s : ByteArray} {st : Pa.St} (h : RdAt w base y s st) (k : Nat) (hk : k < y.vis.length) : y.vis[k].ownBlock ≠ some y.R := fun e => by
  have := h.apt 0 (k + 3) y.R rfl (by rw [own_vi y k hk, e]); omega
/-- A store into the reader's own block, of a field that no row lies behind. -/
theorem RdAt.field {w : World} {base : Nat} {y : Lay} {s : ByteArray} {st : Pa.St} (h : RdAt w base y s st) (i : Nat) (u : Value) {st' : Pa.St} (hs : st'.secs = st.secs) (hb : st'.begins = st.begins)
    (hm : [Value.string s, .int .i64 st.pos, y.vS, y.vF, .int .i64 st.items, .bool st.opn].set i u = [.string s, .int .i64 st'.pos, y.vS, y.vF, .int .i64 st'.items, .bool st'.opn]) : RdAt (w.setCell ⟨y.R, i, none⟩ u) base y s st' := by
  refine ⟨h.low, by rw [← hm]; exact h.rd.set i u, ?_, ?_, by rw [hs]; exact h.len, fun k h1 h2 => ?_, h.apt⟩
  · rw [hs]; exact h.secs.other h.neS u
  · rw [hb]; exact h.begins.other h.neF u
  · have := (h.its k h1 (by rw [← hs]; exact h2)).other (a := ⟨y.R, i, none⟩) (h.neI k h1) u
    simpa only [hs] using this
theorem RdAt.pos {w : World} {base : Nat} {y : Lay} {s : ByteArray} {st : Pa.St} (h : RdAt w base y s st) (p : Nat) : RdAt (w.setCell ⟨y.R, 1, none⟩ (.int .i64 p)) base y s { st with pos := p } := h.field 1 _ rfl rfl rfl
theorem RdAt.count {w : World} {base : Nat} {y : Lay} {s : ByteArray} {st : Pa.St} (h : RdAt w base y s st) (n : Nat) : RdAt (w.setCell ⟨y.R, 4, none⟩ (.int .i64 n)) base y s { st with items := n } := h.field 4 _ rfl rfl rfl
theorem RdAt.opn {w : World} {base : Nat} {y : Lay} {s : ByteArray} {st : Pa.St} (h : RdAt w base y s st) (b : Bool) : RdAt (w.setCell ⟨y.R, 5, none⟩ (.bool b)) base y s { st with opn := b } := h.field 5 _ rfl rfl rfl
end Go.Proofs.YticodcecillciaaDoor

/- The reader of a pattern in memory: a new section, a new item, a comma; what has been read, as sections. -/
namespace Go.Proofs.YticodcecillciaaDoor
set_option linter.all false
open Go.RowKit

theorem vis_own_ne {w : World} {base : Nat} {y : Lay} {s : ByteArray} {st : Pa.St} (h : RdAt w base y s st) {i j : Nat} (hij : i ≠ j) (hi : i < y.vis.length) (hj : j < y.vis.length) {x : Nat} (hx : y.vis[i].ownBlock = some x) : y.vis[j].ownBlock ≠ some x := fun e => by
  have := h.apt (i + 3) (j + 3) x (by rw [own_vi y i hi, hx]) (by rw [own_vi y j hj, e]); omega
theorem secs_vi_ne {w : World} {base : Nat} {y : Lay} {s : ByteArray} {st : Pa.St} (h : RdAt w base y s st) {j : Nat} (hj : j < y.vis.length) {x : Nat} (hx : y.vS.ownBlock = some x) : y.vis[j].ownBlock ≠ some x := fun e => by
  have := h.apt 1 (j + 3) x (by unfold Lay.own; simp [hx]) (by rw [own_vi y j hj, e]); omega
theorem secs_f_ne {w : World} {base : Nat} {y : Lay} {s : ByteArray} {st : Pa.St} (h : RdAt w base y s st) {x : Nat} (hx : y.vS.ownBlock = some x) : y.vF.ownBlock ≠ some x := fun e => by
  have := h.apt 1 2 x (by unfold Lay.own; simp [hx]) (by unfold Lay.own; simp [e]); omega
theorem f_vi_ne {w : World} {base : Nat} {y : Lay} {s : ByteArray} {st : Pa.St} (h : RdAt w base y s st) {j : Nat} (hj : j < y.vis.length) {x : Nat} (hx : y.vis[j].ownBlock = some x) : y.vF.ownBlock ≠ some x := fun e => by
  have := h.apt (j + 3) 2 x (by rw [own_vi y j hj, hx]) (by unfold Lay.own; simp [e]); omega
theorem onLast_len (l : List Pa.Sec) (f : Pa.Sec → Pa.Sec) : (Pa.onLast l f).length = l.length := by simp [Pa.onLast]
theorem onLast_get (l : List Pa.Sec) (f : Pa.Sec → Pa.Sec) (k : Nat) (h : k < l.length) : (Pa.onLast l f)[k]'(by rw [onLast_len]; exact h) = if k = l.length - 1 then f l[k] else l[k] := by
  unfold Pa.onLast
  rw [List.getElem_modify]
  by_cases e : l.length - 1 = k
  · rw [if_pos e, if_pos e.symm]
  · rw [if_neg e, if_neg (fun h => e h.symm)]

/-- A store into a cell of the last section, that is no slice. -/
theorem RdAt.mark {w : World} {base g : Nat} {y : Lay} {s : ByteArray} {st : Pa.St} (h : RdAt w base y s st) (hg : y.vS.ownBlock = some g) (h0 : 0 < st.secs.length) (i : Nat) (u : Value) (f : Pa.Sec → Pa.Sec)
    (hf : ∀ x, (f x).items = x.items) (hu : (i = 1 ∧ ∀ k (hk : k < st.secs.length), k = st.secs.length - 1 → u = .bool (f st.secs[k]).grouped ∧ (f st.secs[k]).scale = st.secs[k].scale) ∨ (i = 2 ∧ ∀ k (hk : k < st.secs.length), k = st.secs.length - 1 → u = .int .i64 (f st.secs[k]).scale ∧ (f st.secs[k]).grouped = st.secs[k].grouped)) :
    RdAt (w.setCell ⟨g, (st.secs.length - 1) * 3 + i, none⟩ u) base y s { st with secs := Pa.onLast st.secs f } := by
  have hlen := h.len
  have hcl := secCells_len hlen
  have hi : i < 3 := by rcases hu with ⟨e, _⟩ | ⟨e, _⟩ <;> omega
  have hneR : y.R ≠ g := fun e => h.neS (by rw [hg, e])
  refine ⟨h.low, h.rd.other (by exact hneR) u, ?_, h.begins.other (secs_f_ne h hg) u, by rw [onLast_len]; exact hlen, fun k h1 h2 => ?_, h.apt⟩
  · have h1 := h.secs.set hg (i := (st.secs.length - 1) * 3 + i) (by rw [hcl]; omega) u
    refine RowG.of h1.2 (onLast_len _ _).symm ?_
    refine secCells_ext (by rw [onLast_len]; exact hlen) (by rw [List.length_set, hcl, onLast_len]) (fun k hk => ?_)
    rw [onLast_len] at hk
    obtain ⟨b1, b2, b3⟩ := secCells_get hlen k hk
    rw [onLast_get st.secs f k hk]
    simp only [List.getElem?_set, hcl]
    by_cases e : k = st.secs.length - 1
    · rcases hu with ⟨rfl, hu⟩ | ⟨rfl, hu⟩
      · rw [if_pos e, if_neg (by omega), if_pos (by omega), if_pos (by omega), if_neg (by omega)]
        obtain ⟨e1, e2⟩ := hu k hk e
        rw [e1, e2]
        exact ⟨b1, rfl, b3⟩
      · rw [if_pos e, if_neg (by omega), if_neg (by omega), if_pos (by omega), if_pos (by omega)]
        obtain ⟨e1, e2⟩ := hu k hk e
        rw [e1, e2]
        exact ⟨b1, b2, rfl⟩
    · rw [if_neg e, if_neg (by omega), if_neg (by omega), if_neg (by omega)]
      exact ⟨b1, b2, b3⟩
  · have h3 := (h.its k h1 (by rw [← hlen]; exact h1)).other (a := ⟨g, (st.secs.length - 1) * 3 + i, none⟩) (secs_vi_ne h h1 hg) u
    have e : ((Pa.onLast st.secs f)[k]'h2).items = (st.secs[k]'(by rw [← hlen]; exact h1)).items := by
      rw [onLast_get st.secs f k (by rw [← hlen]; exact h1)]
      split
      · exact hf _
      · rfl
    simp only [e]
    exact h3

/-- An item behind the last section's: appended, and the slice stored. -/
theorem RdAt.item {w w1 : World} {base g : Nat} {y : Lay} {s : ByteArray} {st : Pa.St} {tmp : Obj} (h : RdAt w base y s st) (hg : y.vS.ownBlock = some g) (h0 : 0 < st.secs.length) (x : Pa.It) (v' : Value)
    (hgrow : (w.alloc tmp).grownBy w1 (y.vis[st.secs.length - 1]'(by rw [h.len]; omega)).ownBlock)
    (hown : v'.ownBlock = (y.vis[st.secs.length - 1]'(by rw [h.len]; omega)).ownBlock ∨ v'.ownBlock = some (w.alloc tmp).heap.size)
    (hrow : RowG w1 base 48 2 v' ((st.secs[st.secs.length - 1]'(by omega)).items.length + 1) (itCells ((st.secs[st.secs.length - 1]'(by omega)).items ++ [x]))) :
    RdAt (w1.setCell ⟨g, (st.secs.length - 1) * 3, none⟩ v') base { y with vis := y.vis.set (st.secs.length - 1) v' } s { st with secs := Pa.onLast st.secs fun z => { z with items := z.items ++ [x] } } := by
  have hlen := h.len
  have hcl := secCells_len hlen
  have hL : st.secs.length - 1 < y.vis.length := by omega
  have hA := h.on ((Below.refl _ w).alloc (Nat.le_refl _) tmp)
  have hneR : y.R ≠ g := fun e => h.neS (by rw [hg, e])
  have hsz : (w.alloc tmp).heap.size = w.heap.size + 1 := World.size_alloc _ _
  have nR : (y.vis[st.secs.length - 1]'hL).ownBlock ≠ some y.R := h.neI _ hL
  have nG : (y.vis[st.secs.length - 1]'hL).ownBlock ≠ some g := secs_vi_ne h hL hg
  have hgl := (h.secs.lt hg).2
  have newG : v'.ownBlock ≠ some g := fun e => by
    rcases hown with e2 | e2
    · exact nG (e2.symm.trans e)
    · rw [e2] at e; have := Option.some.inj e; omega
  refine ⟨h.low, ?_, ?_, ?_, ?_, fun k h1 h2 => ?_, ?_⟩
  · exact (hA.rd.grown hgrow nR).other (by exact hneR) v'
  · have h1 := (hA.secs.grown hgrow (fun k hk => by rw [hg] at hk; cases hk; exact nG)).set hg (i := (st.secs.length - 1) * 3) (by rw [hcl]; omega) v'
    refine RowG.of h1.2 (onLast_len _ _).symm ?_
    refine secCells_ext (by rw [onLast_len, List.length_set]; exact hlen) (by rw [List.length_set, hcl, onLast_len]) (fun k hk => ?_)
    rw [onLast_len] at hk
    obtain ⟨b1, b2, b3⟩ := secCells_get hlen k hk
    rw [onLast_get st.secs _ k hk]
    simp only [List.getElem?_set, List.getElem_set, hcl]
    by_cases e : k = st.secs.length - 1
    · rw [if_pos e, if_pos (by omega), if_pos (by omega), if_pos e.symm, if_neg (by omega), if_neg (by omega)]
      exact ⟨rfl, b2, b3⟩
    · rw [if_neg e, if_neg (by omega), if_neg (fun h => e h.symm), if_neg (by omega), if_neg (by omega)]
      exact ⟨b1, b2, b3⟩
  · exact (hA.begins.grown hgrow (fun k hk e => f_vi_ne h hL e hk)).other (secs_f_ne h hg) v'
  · rw [onLast_len, List.length_set]; exact hlen
  · have h1' : k < y.vis.length := by simpa using h1
    have hk : k < st.secs.length := by rw [← hlen]; exact h1'
    by_cases e : k = st.secs.length - 1
    · subst e
      have e1 : ((Pa.onLast st.secs fun z => { z with items := z.items ++ [x] })[st.secs.length - 1]'h2).items = (st.secs[st.secs.length - 1]'hk).items ++ [x] := by
        rw [onLast_get st.secs _ _ hk, if_pos rfl]
      have e2 : (y.vis.set (st.secs.length - 1) v')[st.secs.length - 1]'h1 = v' := by simp
      simp only [e1, e2]
      exact RowG.of (hrow.other newG v').2 (by simp) rfl
    · have e1 : ((Pa.onLast st.secs fun z => { z with items := z.items ++ [x] })[k]'h2) = st.secs[k]'hk := by
        rw [onLast_get st.secs _ _ hk, if_neg e]
      have e2 : (y.vis.set (st.secs.length - 1) v')[k]'h1 = y.vis[k]'h1' := by rw [List.getElem_set, if_neg (fun h => e h.symm)]
      simp only [e1, e2]
      exact ((hA.its k h1' hk).grown hgrow (fun j hj e3 => vis_own_ne h (i := k) (j := st.secs.length - 1) e h1' hL hj e3)).other (secs_vi_ne h h1' hg) v'
  · have e : ({ y with vis := y.vis.set (st.secs.length - 1) v' } : Lay).own = y.own.set (st.secs.length - 1 + 3) v'.ownBlock := by
      unfold Lay.own; simp
    rw [e]
    refine h.apt.set _ _ (fun j z hz hj => ?_)
    rcases hown with e2 | e2
    · exact h.apt j (st.secs.length - 1 + 3) z hj (by rw [own_vi y _ hL, ← e2, hz])
    · have := (h.lt hj).2
      rw [e2] at hz; have := Option.some.inj hz; omega

/-- A new section: appended, and the slice stored. -/
theorem RdAt.section {w w1 : World} {base : Nat} {y : Lay} {s : ByteArray} {st : Pa.St} {tmp : Obj} (h : RdAt w base y s st) (v' : Value)
    (hgrow : (w.alloc tmp).grownBy w1 y.vS.ownBlock)
    (hown : v'.ownBlock = y.vS.ownBlock ∨ v'.ownBlock = some (w.alloc tmp).heap.size)
    (hrow : RowG w1 base 32 3 v' (st.secs.length + 1) (secCells y.vis st.secs ++ [.slice none 0 0, .bool false, .int .i64 0])) :
    RdAt (w1.setCell ⟨y.R, 2, none⟩ v') base { y with vS := v', vis := y.vis ++ [.slice none 0 0] } s { st with secs := st.secs ++ [⟨[], false, 0⟩] } := by
  have hlen := h.len
  have hA := h.on ((Below.refl _ w).alloc (Nat.le_refl _) tmp)
  have hsz : (w.alloc tmp).heap.size = w.heap.size + 1 := World.size_alloc _ _
  have nS : y.vS.ownBlock ≠ some y.R := h.neS
  have hRl := h.rd.lt
  have newR : v'.ownBlock ≠ some y.R := fun e => by
    rcases hown with e2 | e2
    · exact nS (e2.symm.trans e)
    · rw [e2] at e; have := Option.some.inj e; omega
  refine ⟨h.low, ?_, ?_, ?_, by simp [hlen], fun k h1 h2 => ?_, ?_⟩
  · have := (hA.rd.grown hgrow nS).set 2 v'
    exact this
  · refine RowG.of (hrow.other newR v').2 (by simp) ?_
    rw [secCells_snoc hlen]
  · exact (hA.begins.grown hgrow (fun k hk e => secs_f_ne h e hk)).other h.neF v'
  · by_cases e : k < y.vis.length
    · have hk : k < st.secs.length := by rw [← hlen]; exact e
      have e1 : (st.secs ++ [⟨[], false, 0⟩])[k]'h2 = st.secs[k]'hk := List.getElem_append_left hk
      have e2 : (y.vis ++ [.slice none 0 0])[k]'h1 = y.vis[k]'e := List.getElem_append_left e
      simp only [e1, e2]
      exact ((hA.its k e hk).grown hgrow (fun j hj e3 => secs_vi_ne h e e3 hj)).other (h.neI k e) v'
    · have hk : k = y.vis.length := by simp at h1; omega
      have e1 : (st.secs ++ [⟨[], false, 0⟩])[k]'h2 = ⟨[], false, 0⟩ := by
        rw [List.getElem_append_right (by omega)]; simp
      have e2 : (y.vis ++ [.slice none 0 0])[k]'h1 = .slice none 0 0 := by
        rw [List.getElem_append_right (by omega)]; simp
      simp only [e1, e2]
      exact RowG.nil _ _ _ _
  · have e : ({ y with vS := v', vis := y.vis ++ [.slice none 0 0] } : Lay).own = (y.own.set 1 v'.ownBlock) ++ [none] := by
      unfold Lay.own; simp [Value.ownBlock]
    rw [e]
    refine Apt.snoc (h.apt.set _ _ (fun j z hz hj => ?_))
    rcases hown with e2 | e2
    · exact h.apt j 1 z hj (by unfold Lay.own; simp [← e2, hz])
    · have := (h.lt hj).2
      rw [e2] at hz; have := Option.some.inj hz; omega

/-- A new place: appended, and the slice stored. -/
theorem RdAt.place {w w1 : World} {base : Nat} {y : Lay} {s : ByteArray} {st : Pa.St} {tmp : Obj} (h : RdAt w base y s st) (v' : Value) (p : Int)
    (hgrow : (w.alloc tmp).grownBy w1 y.vF.ownBlock)
    (hown : v'.ownBlock = y.vF.ownBlock ∨ v'.ownBlock = some (w.alloc tmp).heap.size)
    (hrow : RowG w1 base 3 1 v' (st.begins.length + 1) (intCells (st.begins ++ [p]))) :
    RdAt (w1.setCell ⟨y.R, 3, none⟩ v') base { y with vF := v' } s { st with begins := st.begins ++ [p] } := by
  have hA := h.on ((Below.refl _ w).alloc (Nat.le_refl _) tmp)
  have hsz : (w.alloc tmp).heap.size = w.heap.size + 1 := World.size_alloc _ _
  have nF : y.vF.ownBlock ≠ some y.R := h.neF
  have hRl := h.rd.lt
  have newR : v'.ownBlock ≠ some y.R := fun e => by
    rcases hown with e2 | e2
    · exact nF (e2.symm.trans e)
    · rw [e2] at e; have := Option.some.inj e; omega
  refine ⟨h.low, ?_, ?_, RowG.of (hrow.other newR v').2 (by simp) rfl, h.len, fun k h1 h2 => ?_, ?_⟩
  · have := (hA.rd.grown hgrow nF).set 3 v'
    exact this
  · exact (hA.secs.grown hgrow (fun k hk e => secs_f_ne h hk e)).other h.neS v'
  · exact ((hA.its k h1 h2).grown hgrow (fun j hj e3 => f_vi_ne h h1 hj e3)).other (h.neI k h1) v'
  · have e : ({ y with vF := v' } : Lay).own = y.own.set 2 v'.ownBlock := by
      unfold Lay.own; simp
    rw [e]
    refine h.apt.set _ _ (fun j z hz hj => ?_)
    rcases hown with e2 | e2
    · exact h.apt j 2 z hj (by unfold Lay.own; simp [← e2, hz])
    · have := (h.lt hj).2
      rw [e2] at hz; have := Option.some.inj hz; omega

theorem RowG.its {w : World} {base : Nat} {v : Value} {l : List Pa.It} (h : RowG w base 48 2 v l.length (itCells l)) : ItsAt w w.heap.size v l := by
  by_cases h0 : 0 < l.length
  · obtain ⟨g, c, rfl, _, hg, hc, hh, _⟩ := h.get h0
    refine ⟨_, c, rfl, hc, fun _ => ⟨g, 0, rfl, hg, fun k hk => ?_⟩⟩
    obtain ⟨a1, a2⟩ := itCells_get l k hk
    rw [Nat.zero_add]
    exact ⟨hh _ _ a1, hh _ _ a2⟩
  · obtain ⟨⟨a, c, rfl⟩, _⟩ := h
    have e1 : l = [] := List.length_eq_zero_iff.1 (by omega)
    subst e1
    exact ⟨a, c, rfl, Nat.zero_le _, fun h => absurd h h0⟩
/-- What has been read. -/
theorem RdAt.read {w : World} {base : Nat} {y : Lay} {s : ByteArray} {st : Pa.St} (h : RdAt w base y s st) : SecsAt w w.heap.size y.vS st.secs := by
  by_cases h0 : 0 < st.secs.length
  · obtain ⟨g, c, e, _, hg, hc, hh, _⟩ := h.secs.get h0
    refine ⟨_, c, e, hc, fun _ => ⟨g, 0, rfl, hg, fun k hk => ?_⟩⟩
    obtain ⟨a1, a2, a3⟩ := secCells_get h.len k hk
    rw [Nat.zero_add]
    exact ⟨_, (h.its k (by rw [h.len]; exact hk) hk).its, hh _ _ a1, hh _ _ a2, hh _ _ a3⟩
  · obtain ⟨⟨a, c, e⟩, _⟩ := h.secs
    refine ⟨a, c, e, by omega, fun h => absurd h h0⟩
end Go.Proofs.YticodcecillciaaDoor

/- Patterns in the program: the reader's last section; a new section. -/
namespace Go.Proofs.YticodcecillciaaDoor
set_option linter.all false
open Go.RowKit

set_option maxRecDepth 100000 in
set_option maxHeartbeats 1000000 in
theorem rd_section_any (R G m c : Nat) (w : World) (h : w.cell? ⟨R, 2, none⟩ = some (.slice (some ⟨G, 0, none⟩) (m + 1) c)) (hm : m ≤ 1000) :
    Calls Tryd.prog 72 #[.pointer (some ⟨R, 0, none⟩)] w (RetB (.pointer (some ⟨G, m * 3, none⟩)) w) := by
  have i0 : (0 : Int) ≤ (m : Int) := by omega
  have i1 : (m : Int) < (m : Int) + 1 := by omega
  have i2 : (m : Int) ≤ 1000 := by omega
  go_enter Tryd.func72, Tryd.ntmps72
  go_wp2_with fail
  go_quiet (fail)
  go_wp2
  go_ret
  exact RetB.of rfl (by (repeat (first | exact Below.refl _ _ | assumption | refine Below.setCell ?_ (by first | omega | (simp <;> omega)) _ | refine Below.alloc ?_ (by first | omega | (simp <;> omega)) _ | refine Below.drew ?_ | refine below_drewN' ?_ _)))

theorem infoSec : (Tryd.prog.info? 32).map (fun i => (i.zero, i.size, i.bytes)) = some (some (.agg #[.slice none 0 0, .bool false, .int .i64 0]), 3, 40) := by kernel_rfl
theorem infoItem : (Tryd.prog.info? 48).map (fun i => (i.zero, i.size, i.bytes)) = some (some (.agg #[.int .i64 0, .string ⟨#[]⟩]), 2, 24) := by kernel_rfl

theorem grown_undrew {w w' : World} {row : Option Nat} (h : w.drew.grownBy w' row) : w.grownBy w' row := ⟨h.os, h.tape, h.output, h.size, h.block⟩

/-- What a step of the reader leaves: the reader's state, in memory. -/
def RdOk (w : World) (base R : Nat) (s : ByteArray) (st : Pa.St) (e : Ending) (w' : World) : Prop := ∃ y', e = .returned (.tuple #[]) ∧ y'.R = R ∧ RdAt w' base y' s st ∧ Below base w w'

set_option maxRecDepth 100000 in
set_option maxHeartbeats 4000000 in
theorem rd_begin_ok (y : Lay) (s : ByteArray) (st : Pa.St) (base : Nat) (w : World) (h : RdAt w base y s st) (hb : base ≤ w.heap.size) (hl : st.secs.length < 4) (hbl : st.begins.length ≤ 4) (hp : st.pos ≤ 1000000) :
    Calls Tryd.prog 36 #[.pointer (some ⟨y.R, 0, none⟩)] w (RdOk w base y.R s { st with secs := st.secs ++ [⟨[], false, 0⟩], begins := st.begins ++ [(st.pos : Int)], opn := false }) := by
  obtain ⟨i0, hI⟩ := info_parts infoSec
  obtain ⟨hi, hi0, hi1, hi2⟩ := hI
  obtain ⟨j0, hJ⟩ := info_parts infoInt
  obtain ⟨hj, hj0, hj1, hj2⟩ := hJ
  obtain ⟨R, vS, vF, vis⟩ := y
  have r1 := h.rd.get 1 rfl
  have r2 := h.rd.get 2 rfl
  have r3 := h.rd.get 3 rfl
  have fr := h.rd.frozen
  have hRl := h.rd.lt
  simp only [] at r1 r2 r3 fr hRl ⊢
  obtain ⟨⟨aS, cS, rfl⟩, _⟩ := id h.secs
  obtain ⟨⟨aF, cF, rfl⟩, _⟩ := id h.begins
  have hown := h.secs.2
  have hownF := h.begins.2
  obtain ⟨n, hn⟩ : ∃ n, n = st.secs.length := ⟨_, rfl⟩
  obtain ⟨q, hq⟩ : ∃ n, n = st.begins.length := ⟨_, rfl⟩
  obtain ⟨xs, hxs⟩ : ∃ xs, xs = secCells vis st.secs := ⟨_, rfl⟩
  obtain ⟨p, hpp⟩ : ∃ p, p = st.pos := ⟨_, rfl⟩
  simp only [] at hown hownF
  rw [← hn] at hown hl r2
  rw [← hq] at hownF hbl r3
  rw [← hxs] at hown
  rw [← hpp] at r1 hp
  have hn4 : (n : Int) < 4 := by omega
  have hn4' : ((n : Int) == 4) = false := beq_eq_false_iff_ne.2 (by omega)
  have HH := Lib.hid h; have HN := Lib.hid hn; have HQ := Lib.hid hq; have HX := Lib.hid hxs; have HPP := Lib.hid hpp
  clear h hn hq hxs hpp
  go_enter Tryd.func36, Tryd.ntmps36
  go_wp2_with (at_builtin; refine wpList_append_lies _ rfl _ _ 22 rfl base 32 i0 (.agg #[.slice none 0 0, .bool false, .int .i64 0]) 3 40 Tryd.underlying22 hi hi0 hi1 hi2 rfl (by decide) _ _ _ rfl (hown.alloc _) ⟨w.heap.size, 0, none⟩ 1 1 [.slice none 0 0, .bool false, .int .i64 0] rfl rfl (cell_newG w [.slice none 0 0, .bool false, .int .i64 0] _) (by simp [Value.oneCell']) (by decide) (by unfold maxLen; omega) (by omega) (by simp; omega) (w.heap.size + 1) (by simp) ?_; intro g' cap' w1 hown1 hgrow hat hlt; have nS := HH.out.neS; have hA := HH.out.on ((Below.refl _ w).alloc (Nat.le_refl _) (Obj.cells #[Value.slice none 0 0, Value.bool false, Value.int IntKind.i64 0] 32)); have q2 := (hA.rd.grown hgrow (by rw [HN.out]; exact nS)).get 2 rfl; have fq := (hA.rd.grown hgrow (by rw [HN.out]; exact nS)).frozen)
  have hat2 : (Value.slice aS n cS).ownBlock = some g' ∨ g' = w.heap.size + 1 := hat
  have hgrow2 : (w.alloc (Obj.cells #[Value.slice none 0 0, Value.bool false, Value.int IntKind.i64 0] 32)).grownBy w1 (Value.slice aS n cS).ownBlock := hgrow
  have hR2 := HH.out.section (.slice (some ⟨g', 0, none⟩) (n + 1) cap') (by rw [← HN.out]; exact hgrow2)
    (by rcases hat2 with e | e
        · left; rw [← HN.out, e]; rfl
        · right; rw [World.size_alloc, ← e]; rfl)
    (RowG.of hown1 (by rw [HN.out]) (by rw [HX.out]))
  have hBX : Below base w (w1.setCell ⟨R, 2, none⟩ (.slice (some ⟨g', 0, none⟩) (n + 1) cap')) := (((Below.refl base w).alloc hb _).grown hgrow2 (by rw [World.size_alloc]; omega) (fun k e => (HH.out.secs.lt (by rw [← HN.out]; exact e)).1)).setCell (p := ⟨R, 2, none⟩) HH.out.low _
  obtain ⟨X, hX⟩ : ∃ X, X = w1.setCell ⟨R, 2, none⟩ (.slice (some ⟨g', 0, none⟩) (n + 1) cap') := ⟨_, rfl⟩
  simp only [] at hR2
  rw [← hX] at hR2 hBX ⊢
  clear hX hgrow hgrow2 hat hat2 hown1 hlt nS hA q2 fq r1 r2 r3 fr hRl
  have r1 := hR2.rd.get 1 rfl
  have r3 := hR2.rd.get 3 rfl
  have fr := hR2.rd.frozen 3
  have hXb := hBX.size
  have hown2 := hR2.begins.2
  have hRl := hR2.rd.lt
  simp only [] at r1 r3 fr hown2 hRl
  rw [← HPP.out] at r1
  rw [← HQ.out] at r3 hown2
  have H2 := Lib.hid hR2; have HBX := Lib.hid hBX
  clear hR2 hBX
  go_region_law (first | (refine step_append_lies _ rfl _ _ 67 rfl base 3 j0 (.int .i64 0) 1 8 Tryd.underlying67 hj hj0 hj1 hj2 rfl (by decide) _ _ _ rfl ((hown2.alloc _).drew) ⟨X.heap.size, 0, none⟩ 1 1 [.int .i64 p] (by rfl) (by rfl) (World.news_of_block (cs := #[.int .i64 p]) (t := 3) (fr := (0, 0)) (heap_alloc_new X _)) (by simp [Value.oneCell']) (by decide) (by unfold maxLen; omega) (by omega) (by simp; omega) (X.heap.size + 1) (by simp) ?_; intro g2 cap2 w2 hown3 hgrow hat hlt; have nF := H2.out.neF; have hM := ((H2.out.rd.alloc _).drew).grown hgrow (by rw [HQ.out]; exact nF); have q3 := hM.get 3 rfl; have q5 := hM.get 5 rfl; have fq := hM.frozen))
  all_goals
    have hat2 : (Value.slice aF q cF).ownBlock = some g2 ∨ g2 = X.heap.size + 1 := hat
    have hgrow2 : (X.alloc (Obj.cells #[Value.int IntKind.i64 p] 3)).grownBy w2 (Value.slice aF q cF).ownBlock := grown_undrew hgrow
    have hR3 := H2.out.place (.slice (some ⟨g2, 0, none⟩) (q + 1) cap2) (p : Int) (by rw [← HQ.out]; exact hgrow2)
      (by rcases hat2 with e | e
          · left; rw [← HQ.out, e]; rfl
          · right; rw [World.size_alloc, ← e]; rfl)
      (RowG.of hown3 (by rw [HQ.out]) (by simp [intCells]))
    have hBY : Below base w (w2.setCell ⟨R, 3, none⟩ (.slice (some ⟨g2, 0, none⟩) (q + 1) cap2)) := ((HBX.out.alloc (by omega) _).grown hgrow2 (by rw [World.size_alloc]; omega) (fun k e => (H2.out.begins.lt (by rw [← HQ.out]; exact e)).1)).setCell (p := ⟨R, 3, none⟩) H2.out.low _
    simp only [] at hR3
    rw [HPP.out] at hR3
    have HR3 := Lib.hid hR3; have HBY := Lib.hid hBY
    clear hR3 hBY hgrow hgrow2 hat hat2
    go_wp2
    refine bodyPost_end (results_none rfl _ _ _) rfl ?_
    exact ⟨_, rfl, rfl, HR3.out.opn false, HBY.out.setCell (p := ⟨R, 5, none⟩) H2.out.low _⟩
end Go.Proofs.YticodcecillciaaDoor

/- Patterns in the program: the reader gives up with a panic: too many sections, too many items. -/
namespace Go.Proofs.YticodcecillciaaDoor
set_option linter.all false
open Go.RowKit

theorem RowG.at' {w : World} {base n sz g c : Nat} {T : TypeId} {xs : List Value} (h : RowG w base T sz (.slice (some ⟨g, 0, none⟩) n c) n xs) (h0 : 0 < n) : (∀ (i : Nat) (u : Value), xs[i]? = some u → w.cell? ⟨g, i, none⟩ = some u) ∧ ∀ i, w.frozen? ⟨g, i, none⟩ = false := by
  obtain ⟨g', c', e, _, _, _, h1, h2⟩ := h.get h0
  cases e
  exact ⟨h1, h2⟩

/-- The reader gives up. -/
def RdErr (w : World) (base : Nat) (c p : Int) (e : Ending) (w' : World) : Prop :=
  e = .panicked [{ v := .iface 71 (.agg #[.int .i64 c, .int .i64 p]), recovered := false }] ∧ Below base w w'

set_option maxRecDepth 100000 in
set_option maxHeartbeats 1000000 in
theorem rd_begin_err (y : Lay) (s : ByteArray) (st : Pa.St) (base : Nat) (w : World) (h : RdAt w base y s st) (hl : st.secs.length = 4) (hp : st.pos ≤ 1000000) :
    Calls Tryd.prog 36 #[.pointer (some ⟨y.R, 0, none⟩)] w (RdErr w base 5 ((st.pos : Int) - 1)) := by
  obtain ⟨R, vS, vF, vis⟩ := y
  have r1 := h.rd.get 1 rfl
  have r2 := h.rd.get 2 rfl
  simp only [] at r1 r2 ⊢
  obtain ⟨⟨aS, cS, rfl⟩, _⟩ := id h.secs
  rw [hl] at r2
  obtain ⟨p, hpp⟩ : ∃ p, p = st.pos := ⟨_, rfl⟩
  rw [← hpp] at r1 hp ⊢
  clear h hpp hl
  have i0 : (p : Int) ≤ 1000000 := by omega
  go_enter Tryd.func36, Tryd.ntmps36
  go_wp2_with fail
  exact ⟨rfl, rfl, Below.refl _ _⟩

set_option maxRecDepth 100000 in
set_option maxHeartbeats 1000000 in
theorem rd_put_err (y : Lay) (s : ByteArray) (st : Pa.St) (base : Nat) (k p : Int) (t : ByteArray) (w : World) (h : RdAt w base y s st) (hl : st.items = 100) :
    Calls Tryd.prog 54 #[.pointer (some ⟨y.R, 0, none⟩), .int .i64 k, .string t, .int .i64 p] w (RdErr w base 5 p) := by
  obtain ⟨R, vS, vF, vis⟩ := y
  have r4 := h.rd.get 4 rfl
  simp only [] at r4 ⊢
  rw [hl] at r4
  replace r4 : w.cell? ⟨R, 4, none⟩ = some (.int .i64 100) := r4
  clear h hl
  go_enter Tryd.func54, Tryd.ntmps54
  go_wp2_with fail
  exact ⟨rfl, rfl, Below.refl _ _⟩

set_option maxRecDepth 100000 in
set_option maxHeartbeats 4000000 in
theorem rd_put_ok (y : Lay) (s : ByteArray) (st st' : Pa.St) (base : Nat) (k p : Int) (t : ByteArray) (w : World) (h : RdAt w base y s st) (hb : base ≤ w.heap.size) (h0 : 0 < st.secs.length) (h4 : st.secs.length ≤ 4) (hi1 : st.items ≤ 100)
    (hli : (st.secs[st.secs.length - 1]'(by omega)).items.length ≤ st.items) (hput : Pa.put k t p st = .ok st') :
    Calls Tryd.prog 54 #[.pointer (some ⟨y.R, 0, none⟩), .int .i64 k, .string t, .int .i64 p] w (RdOk w base y.R s st') := by
  unfold Pa.put at hput
  split at hput
  · cases hput
  rename_i hne
  have hn : st.items < 100 := by omega
  injection hput with hput
  rw [getElem!_pos st.secs (st.secs.length - 1) (by omega)] at hput
  obtain ⟨i0, hI⟩ := info_parts infoItem
  obtain ⟨hi, hi0, hi1', hi2⟩ := hI
  obtain ⟨N, hNN⟩ : ∃ N, N = st.items := ⟨_, rfl⟩
  have hrc := h.count (st.items + 1)
  rw [show ((st.items + 1 : Nat) : Int) = (N : Int) + 1 by rw [hNN]; rfl] at hrc
  obtain ⟨R, vS, vF, vis⟩ := y
  have hvl : vis.length = st.secs.length := h.len
  obtain ⟨G, cS, rfl, _, hGl, _, _, _⟩ := h.secs.get h0
  have hL : st.secs.length - 1 < vis.length := by omega
  have r4 := h.rd.get 4 rfl
  have r2 := h.rd.get 2 rfl
  have fr := h.rd.frozen
  have nGR : ¬ G = R := fun e => h.neS (by rw [e]; rfl)
  have nRG : ¬ R = G := fun e => nGR e.symm
  simp only [] at r4 r2 fr hrc ⊢
  obtain ⟨n, hnn⟩ : ∃ n, st.secs.length = n + 1 := ⟨st.secs.length - 1, by omega⟩
  have hn1 : st.secs.length - 1 = n := by omega
  obtain ⟨W2, hW2⟩ : ∃ W2, W2 = w.setCell ⟨R, 4, none⟩ (.int .i64 ((N : Int) + 1)) := ⟨_, rfl⟩
  rw [← hW2] at hrc
  have hr2 := hrc.its (st.secs.length - 1) hL (by show _ < st.secs.length; omega)
  have hc2 := hrc.secs.at' h0
  have s2 := hrc.rd.get 2 rfl
  have hRl2 := hrc.rd.lt
  have hGl2 : G < W2.heap.size := (hrc.secs.lt (show (Value.slice (some ⟨G, 0, none⟩) st.secs.length cS).ownBlock = some G from rfl)).2
  simp only [] at hr2 hc2 s2 hRl2 hGl2
  have hc3 := hc2.1 _ _ (secCells_get (l := st.secs) hvl (st.secs.length - 1) (by omega)).1
  obtain ⟨vi, hvi⟩ : ∃ vi, vi = vis[st.secs.length - 1]'hL := ⟨_, rfl⟩
  obtain ⟨L, hLL⟩ : ∃ L, L = (st.secs[st.secs.length - 1]'(by omega)).items := ⟨_, rfl⟩
  rw [← hvi, ← hLL] at hr2
  rw [← hvi] at hc3
  rw [← hLL] at hli hput
  obtain ⟨⟨ai, ci, rfl⟩, _⟩ := id hr2
  obtain ⟨m, hm⟩ : ∃ m, m = L.length := ⟨_, rfl⟩
  rw [← hm] at hr2 hli hc3
  have hown := hr2.2
  have fg2 := hc2.2
  rw [hn1] at hc3
  rw [hnn] at r2 s2
  rw [← hNN] at r4 hli hn
  have hsz2 : W2.heap.size = w.heap.size := by rw [hW2]; simp
  have hsec := fun (W : World) (hW : W.cell? ⟨R, 2, none⟩ = some (.slice (some ⟨G, 0, none⟩) (n + 1) cS)) => rd_section_any R G n cS W hW (by omega)
  have HS := Lib.hid hsec; have HRC := Lib.hid hrc; have HNN := Lib.hid hNN; have HM := Lib.hid hm; have HVI := Lib.hid hvi; have HLL := Lib.hid hLL; have HN1 := Lib.hid hn1; have HN2 := Lib.hid hnn; have HPUT := Lib.hid hput; have HW2 := Lib.hid hW2
  have HB2 : Hid (Below base w W2) := Lib.hid (by rw [hW2]; exact (Below.refl base w).setCell (p := ⟨R, 4, none⟩) h.low _)
  have hb2 : base ≤ W2.heap.size := by omega
  have HNI := Lib.hid (h.neI _ hL); have HH0 := Lib.hid h0
  have nVG : (Value.slice ai m ci).ownBlock ≠ some G := by rw [HM.out, HVI.out]; exact secs_vi_ne HRC.out hL rfl
  have nVR : (Value.slice ai m ci).ownBlock ≠ some R := by rw [HM.out, HVI.out]; exact HRC.out.neI _ hL
  have HL := Lib.hid hL
  have hN4 : ((N : Int) == 100) = false := beq_eq_false_iff_ne.2 (by omega)
  clear hsec hrc hNN hvi hLL hput h hr2 hc2 hne hGl hsz2 hW2 hm
  go_enter Tryd.func54, Tryd.ntmps54
  go_wp2_with (first
    | (rw [← HW2.out])
    | (go_at_call 72; (with_reducible refine (HS.out _ s2).mono ?_); rintro e w1 ⟨rfl, hb_w1⟩; have hB_w1 : Below (W2).heap.size (W2) w1 := Below.trans (by (repeat (first | exact Below.refl _ _ | assumption | refine Below.setCell ?_ (by first | omega | (simp <;> omega)) _ | refine Below.alloc ?_ (by first | omega | (simp <;> omega)) _ | refine Below.drew ?_ | refine below_drewN' ?_ _))) (hb_w1.mono (by first | omega | (simp <;> omega))); obtain ⟨hc_w1, hf_w1⟩ := bcell hb_w1; have hz_w1 := hb_w1.size; (try simp only [size_drew', size_drewN', World.size_alloc, World.size_setCell] at hz_w1); have hR1 := HRC.out.on hB_w1; have hown1 := (RowG.on (⟨⟨ai, ci, rfl⟩, hown⟩ : RowG W2 base 48 2 (.slice ai m ci) m (itCells L)) hB_w1).2; have HR1 := Lib.hid hR1; clear hR1)
    | (at_builtin; refine wpList_append_lies _ rfl _ _ 30 rfl base 48 i0 (.agg #[.int .i64 0, .string ⟨#[]⟩]) 2 24 Tryd.underlying30 hi hi0 hi1' hi2 rfl (by decide) _ _ _ rfl (hown1.alloc _) ⟨w1.heap.size, 0, none⟩ 1 1 [.int .i64 k, .string t] rfl rfl (cell_newG w1 [.int .i64 k, .string t] _) (by simp [Value.oneCell']) (by decide) (by unfold maxLen; omega) (by omega) (by simp; omega) (w1.heap.size + 1) (by simp) ?_; intro g' cap' w3 hown3 hgrow hat hlt; have cG := ((HR1.out.secs.on ((Below.refl _ _).alloc (Nat.le_refl _) _)).grown hgrow (fun k hk => by cases hk; exact nVG)).at' HH0.out; have q1 := cG.1 (n * 3) (vis[st.secs.length - 1]'HL.out) (by rw [← HN1.out]; exact (secCells_get (l := st.secs) hvl (st.secs.length - 1) (by omega)).1); have fq := cG.2; clear cG))
  have hgrow2 : (w1.alloc (Obj.cells #[.int .i64 k, .string t] 48)).grownBy w3 (vis[st.secs.length - 1]'HL.out).ownBlock := by rw [← HVI.out, ← HM.out]; exact hgrow
  have hown2 : (Value.slice (some ⟨g', 0, none⟩) (m + 1) cap').ownBlock = (vis[st.secs.length - 1]'HL.out).ownBlock ∨ (Value.slice (some ⟨g', 0, none⟩) (m + 1) cap').ownBlock = some (w1.alloc (Obj.cells #[.int .i64 k, .string t] 48)).heap.size := by
    have hat2 : (Value.slice ai m ci).ownBlock = some g' ∨ g' = w1.heap.size + 1 := hat
    rw [← HVI.out, ← HM.out, World.size_alloc]
    rcases hat2 with e | e
    · left; rw [e]; rfl
    · right; rw [← e]; rfl
  have hrow2 : RowG w3 base 48 2 (.slice (some ⟨g', 0, none⟩) (m + 1) cap') ((st.secs[st.secs.length - 1]'(by omega)).items.length + 1) (itCells ((st.secs[st.secs.length - 1]'(by omega)).items ++ [⟨k, t⟩])) := by
    rw [← HLL.out, ← HM.out, itCells_snoc]
    exact RowG.of hown3 rfl rfl
  have hI := HR1.out.item rfl HH0.out ⟨k, t⟩ _ hgrow2 hown2 hrow2
  have hB1 : Below base w w1 := HB2.out.trans (hB_w1.mono hb2)
  have hb1 : base ≤ w1.heap.size := by have := hB_w1.size; omega
  have hBX : Below base w (w3.setCell ⟨G, n * 3, none⟩ (.slice (some ⟨g', 0, none⟩) (m + 1) cap')) := ((hB1.alloc hb1 _).grown hgrow2 (by rw [World.size_alloc]; omega) (fun k e => (HR1.out.its _ HL.out (by show _ < st.secs.length; omega)).lt e |>.1)).setCell (p := ⟨G, n * 3, none⟩) (HR1.out.secs.lt (show (Value.slice (some ⟨G, 0, none⟩) st.secs.length cS).ownBlock = some G from rfl)).1 _
  simp only [] at hI
  rw [HN1.out] at hI
  obtain ⟨X, hX⟩ : ∃ X, X = w3.setCell ⟨G, n * 3, none⟩ (.slice (some ⟨g', 0, none⟩) (m + 1) cap') := ⟨_, rfl⟩
  rw [← hX] at hI hBX ⊢
  clear hX hgrow hgrow2 hown2 hrow2 hat hown3 hown1 hB1 hlt
  have x5 := hI.rd.get 5 rfl
  have xf := hI.rd.frozen 5
  simp only [] at x5 xf
  have hnl : n < (Pa.onLast st.secs fun z => { z with items := z.items ++ [⟨k, t⟩] }).length := by rw [onLast_len, HN2.out]; omega
  have hIts := (hI.its n (by simp; rw [hvl, HN2.out]; omega) hnl).its
  have hS : RowG X base 32 3 (.slice (some ⟨G, 0, none⟩) st.secs.length cS) st.secs.length (secCells (vis.set n (.slice (some ⟨g', 0, none⟩) (m + 1) cap')) (Pa.onLast st.secs fun z => { z with items := z.items ++ [⟨k, t⟩] })) := RowG.of hI.secs.2 (onLast_len _ _) rfl
  have hsc := (hS.at' HH0.out).1
  obtain ⟨y0, y1, y2⟩ := secCells_get (vs := vis.set n (.slice (some ⟨g', 0, none⟩) (m + 1) cap')) (l := Pa.onLast st.secs fun z => { z with items := z.items ++ [⟨k, t⟩] }) (by simp [onLast_len, hvl]) n hnl
  have x0 := hsc _ _ y0
  have x1 := hsc _ _ y1
  have x2 := hsc _ _ y2
  have hlast : ((Pa.onLast st.secs fun z => { z with items := z.items ++ [⟨k, t⟩] })[n]'hnl).items = L ++ [⟨k, t⟩] := by
    rw [onLast_get st.secs _ n (by rw [HN2.out]; omega), if_pos HN1.out.symm, HLL.out]
    simp only [HN1.out]
  simp only [List.getElem_set_self] at x0 hIts
  generalize ((Pa.onLast st.secs fun z => { z with items := z.items ++ [⟨k, t⟩] })[n]'hnl).grouped = gg at x1
  generalize ((Pa.onLast st.secs fun z => { z with items := z.items ++ [⟨k, t⟩] })[n]'hnl).scale = ss at x2
  rw [hlast] at hIts
  have HI := Lib.hid hI; have HBX := Lib.hid hBX
  have hXb : w.heap.size ≤ X.heap.size := hBX.size
  have lowR : base ≤ R := HI.out.low
  have HRX : R < X.heap.size := hI.rd.lt
  have HGX : G < X.heap.size := (hI.secs.lt (show (Value.slice (some ⟨G, 0, none⟩) st.secs.length cS).ownBlock = some G from rfl)).2
  clear hI hBX hS hsc y0 y1 y2 hlast hB_w1 hb_w1 hc_w1 hf_w1 hz_w1 HB2 HNI q1 fq
  by_cases hk : k = 2
  · subst hk
    have hh := fun (W : World) (hW : Below X.heap.size X W) => pa_head_any (.slice (some ⟨g', 0, none⟩) (m + 1) cap') (⟨L ++ [⟨2, t⟩], gg, ss⟩ : Pa.Sec) X.heap.size W (hIts.below hW (Nat.le_refl _)) hW.size (by show (L ++ [(⟨2, t⟩ : Pa.It)]).length ≤ _; rw [List.length_append]; have := HM.out; simp; omega)
    unfold secV at hh
    simp only [] at hh
    unfold HeadR at hh
    have hHle := cutAt_le [3, 5, 6] (L ++ [(⟨2, t⟩ : Pa.It)])
    obtain ⟨H, hH⟩ : ∃ H, H = Pa.headN (L ++ [(⟨2, t⟩ : Pa.It)]) := ⟨_, rfl⟩
    have hHle' : H ≤ (L ++ [(⟨2, t⟩ : Pa.It)]).length := by rw [hH]; exact hHle
    rw [← hH] at hh
    have HHD := Lib.hid hh; have HHH := Lib.hid hH; have HLE := Lib.hid hHle'
    clear hh hH hHle hHle' hIts
    by_cases hE : H = m + 1
    · have HE := Lib.hid hE
      have hE0 := hE
      subst hE0
      have hst : st' = { st with items := st.items + 1, secs := Pa.onLast st.secs fun z => { z with items := z.items ++ [⟨2, t⟩] }, opn := true } := by
        rw [← HPUT.out, ← HHH.out, ← HM.out]
        have : (decide ((2 : Int) = 2) && decide (m + 1 = m + 1)) = true := by simp
        rw [this]
      have HST := Lib.hid hst; clear hst
      go_region_held3 (fun w' => w'.cell? ⟨G, n * 3, none⟩ = some (.slice (some ⟨g', 0, none⟩) (m + 1) cap') ∧ w'.cell? ⟨G, n * 3 + 1, none⟩ = some (.bool gg) ∧ w'.cell? ⟨G, n * 3 + 2, none⟩ = some (.int .i64 ss)) (first | go_keep | (refine ⟨?_, ?_, ?_⟩ <;> (rw [hcG]; assumption)) | (refine ⟨?_, ?_, ?_⟩ <;> (first | (go_simp; done) | (simp [go_sem, *]; done))))
        (first | (go_at_call 23; (with_reducible refine (HHD.out _ (by (repeat (first | exact Below.refl _ _ | assumption | refine Below.setCell ?_ (by first | omega | (simp <;> omega)) _ | refine Below.alloc ?_ (by first | omega | (simp <;> omega)) _ | refine Below.drew ?_ | refine below_drewN' ?_ _)))).mono ?_); rintro e w5 ⟨v1, rfl, h1, hb_w5⟩; have hcX := fun o => (bcell hb_w5).1 R o (by (try simp only [size_drew', size_drewN', World.size_alloc]); exact HRX); have hcG := fun o => (bcell hb_w5).1 G o (by (try simp only [size_drew', size_drewN', World.size_alloc]); exact HGX); have hfX := fun o => (bcell hb_w5).2 R o (by (try simp only [size_drew', size_drewN', World.size_alloc]); exact HRX); have hB5 : Below X.heap.size X w5 := Below.trans (by (repeat (first | exact Below.refl _ _ | assumption | refine Below.setCell ?_ (by first | omega | (simp <;> omega)) _ | refine Below.alloc ?_ (by first | omega | (simp <;> omega)) _ | refine Below.drew ?_ | refine below_drewN' ?_ _))) (hb_w5.mono (by simp)); obtain ⟨a1, c1, rfl, hd, hg⟩ := h1.taken HLE.out; clear h1 hd hg))
      all_goals
        (try go_wp2)
        refine bodyPost_end (results_none rfl _ _ _) rfl ?_
        rw [HST.out]
        refine ⟨_, rfl, ?_, (HI.out.on hB5).opn true, (HBX.out.trans (hB5.mono (Nat.le_trans hb hXb))).setCell (p := ⟨R, 5, none⟩) lowR _⟩
        rfl
    · have HE := Lib.hid hE
      have hE1 : ((H : Int) == (m : Int) + 1) = false := beq_eq_false_iff_ne.2 (by omega)
      have hst : st' = { st with items := st.items + 1, secs := Pa.onLast st.secs fun z => { z with items := z.items ++ [⟨2, t⟩] }, opn := false } := by
        rw [← HPUT.out, ← HHH.out, ← HM.out]
        have : (decide ((2 : Int) = 2) && decide (H = m + 1)) = false := by rw [decide_eq_true rfl, Bool.true_and]; exact decide_eq_false HE.out
        rw [this]
      have HST := Lib.hid hst; clear hst
      go_region_held3 (fun w' => w'.cell? ⟨G, n * 3, none⟩ = some (.slice (some ⟨g', 0, none⟩) (m + 1) cap') ∧ w'.cell? ⟨G, n * 3 + 1, none⟩ = some (.bool gg) ∧ w'.cell? ⟨G, n * 3 + 2, none⟩ = some (.int .i64 ss)) (first | go_keep | (refine ⟨?_, ?_, ?_⟩ <;> (rw [hcG]; assumption)) | (refine ⟨?_, ?_, ?_⟩ <;> (first | (go_simp; done) | (simp [go_sem, *]; done))))
        (first | (go_at_call 23; (with_reducible refine (HHD.out _ (by (repeat (first | exact Below.refl _ _ | assumption | refine Below.setCell ?_ (by first | omega | (simp <;> omega)) _ | refine Below.alloc ?_ (by first | omega | (simp <;> omega)) _ | refine Below.drew ?_ | refine below_drewN' ?_ _)))).mono ?_); rintro e w5 ⟨v1, rfl, h1, hb_w5⟩; have hcX := fun o => (bcell hb_w5).1 R o (by (try simp only [size_drew', size_drewN', World.size_alloc]); exact HRX); have hcG := fun o => (bcell hb_w5).1 G o (by (try simp only [size_drew', size_drewN', World.size_alloc]); exact HGX); have hfX := fun o => (bcell hb_w5).2 R o (by (try simp only [size_drew', size_drewN', World.size_alloc]); exact HRX); have hB5 : Below X.heap.size X w5 := Below.trans (by (repeat (first | exact Below.refl _ _ | assumption | refine Below.setCell ?_ (by first | omega | (simp <;> omega)) _ | refine Below.alloc ?_ (by first | omega | (simp <;> omega)) _ | refine Below.drew ?_ | refine below_drewN' ?_ _))) (hb_w5.mono (by simp)); obtain ⟨a1, c1, rfl, hd, hg⟩ := h1.taken HLE.out; clear h1 hd hg))
      all_goals
        (try go_wp2)
        refine bodyPost_end (results_none rfl _ _ _) rfl ?_
        rw [HST.out]
        refine ⟨_, rfl, ?_, (HI.out.on hB5).opn false, (HBX.out.trans (hB5.mono (Nat.le_trans hb hXb))).setCell (p := ⟨R, 5, none⟩) lowR _⟩
        rfl
  · have hk2 : (k == 2) = false := beq_eq_false_iff_ne.2 hk
    have hst : st' = { st with items := st.items + 1, secs := Pa.onLast st.secs fun z => { z with items := z.items ++ [⟨k, t⟩] }, opn := false } := by
      rw [← HPUT.out, decide_eq_false hk, Bool.false_and]
    have HST := Lib.hid hst
    clear hst hk hIts
    go_region
    all_goals
      (try go_wp2)
      refine bodyPost_end (results_none rfl _ _ _) rfl ?_
      rw [HST.out]
      refine ⟨_, rfl, ?_, (HI.out.on ((Below.refl _ _).drew)).opn false, (HBX.out.drew).setCell (p := ⟨R, 5, none⟩) lowR _⟩
      rfl
end Go.Proofs.YticodcecillciaaDoor

/- Patterns in the program: the reader cuts a rune off. -/
namespace Go.Proofs.YticodcecillciaaDoor
set_option linter.all false
open Go.RowKit

set_option maxRecDepth 100000 in
set_option maxHeartbeats 4000000 in
theorem rd_rune_err (y : Lay) (s : ByteArray) (st : Pa.St) (base : Nat) (p : Int) (w : World) (h : RdAt w base y s st) (hb : base ≤ w.heap.size) (hp : st.pos ≤ s.size) (hs : s.size ≤ 1000000) (hu : U8 w)
    (hr : (Lib.decodeGo (s.extract st.pos s.size)).2 = 0 ∨ ((Lib.decodeGo (s.extract st.pos s.size)).1 = 65533 ∧ (Lib.decodeGo (s.extract st.pos s.size)).2 = 1)) :
    Calls Tryd.prog 55 #[.pointer (some ⟨y.R, 0, none⟩), .int .i64 p] w (RdErr w base 12 p) := by
  obtain ⟨R, vS, vF, vis⟩ := y
  have r0 := h.rd.get 0 rfl
  have r1 := h.rd.get 1 rfl
  have hRl := h.rd.lt
  simp only [] at r0 r1 hRl ⊢
  have hc := fun W (hW : U8 W) => decode_call (s.extract st.pos s.size) W hW
  have hsl : ∀ W : World, (Instr.slice 9 (.string s) (some (.int .i64 (st.pos : Int))) none none).run Tryd.prog W = .ok (.string (s.extract st.pos s.size)) W := fun W => by
    rw [run_slice_string_from_if W _ s .i64 _ Tryd.underlying9, if_pos (by omega), Int.toNat_natCast]
  obtain ⟨S1, hS1⟩ : ∃ S1, S1 = s.extract st.pos s.size := ⟨_, rfl⟩
  rw [← hS1] at hc hsl hr
  obtain ⟨D1, hD1⟩ : ∃ D : Int, D = ((Lib.decodeGo S1).1 : Nat) := ⟨_, rfl⟩
  obtain ⟨D2, hD2⟩ : ∃ D : Int, D = ((Lib.decodeGo S1).2 : Nat) := ⟨_, rfl⟩
  rw [← hD1, ← hD2] at hc
  have hr2 : D2 = 0 ∨ (D1 = 65533 ∧ D2 = 1) := by
    rcases hr with e | ⟨e1, e2⟩
    · left; rw [hD2, e]; rfl
    · right; exact ⟨by rw [hD1, e1]; rfl, by rw [hD2, e2]; rfl⟩
  obtain ⟨P, hP⟩ : ∃ P : Int, P = (st.pos : Int) := ⟨_, rfl⟩
  rw [← hP] at r1 hsl
  have HC := Lib.hid hc; have HU := Lib.hid hu
  clear hc hu hr hS1 hD1 hD2 hP h hp
  have key : ∀ (d1 d2 : Int), D1 = d1 → D2 = d2 → (d2 = 0 ∨ (d1 = 65533 ∧ d2 = 1)) → Calls Tryd.prog 55 #[.pointer (some ⟨R, 0, none⟩), .int .i64 p] w (RdErr w base 12 p) := by
    intro d1 d2 e1 e2 hd
    subst e1 e2
    rcases hd with rfl | ⟨rfl, rfl⟩
    · go_enter Tryd.func55, Tryd.ntmps55
      go_wp2_with fail
      go_region_held3 (fun w' => w'.cell? ⟨R, 0, none⟩ = some (.string s) ∧ w'.cell? ⟨R, 1, none⟩ = some (.int .i64 P)) (first | go_keep | (refine ⟨?_, ?_⟩ <;> (rw [hcX]; assumption)) | (refine ⟨?_, ?_⟩ <;> (first | (go_simp; done) | (simp [go_sem, *]; done))))
        (first | (go_at_call 58; (with_reducible refine (HC.out _ (HU.out.on (by (repeat (first | exact Below.refl _ _ | assumption | refine Below.setCell ?_ (by first | omega | (simp <;> omega)) _ | refine Below.alloc ?_ (by first | omega | (simp <;> omega)) _ | refine Below.drew ?_ | refine below_drewN' ?_ _))))).mono ?_); rintro e w1 ⟨rfl, hb_w1⟩; have hcX := fun o => (bcell hb_w1).1 R o (by (try simp only [size_drew', size_drewN', World.size_alloc]); exact hRl); have hB1 : Below w.heap.size w w1 := Below.trans (by (repeat (first | exact Below.refl _ _ | assumption | refine Below.setCell ?_ (by first | omega | (simp <;> omega)) _ | refine Below.alloc ?_ (by first | omega | (simp <;> omega)) _ | refine Below.drew ?_ | refine below_drewN' ?_ _))) (hb_w1.mono (by simp))))
      all_goals
        (try go_wp2)
        exact ⟨rfl, rfl, hB1.mono hb⟩
    · go_enter Tryd.func55, Tryd.ntmps55
      go_wp2_with fail
      go_region_held3 (fun w' => w'.cell? ⟨R, 0, none⟩ = some (.string s) ∧ w'.cell? ⟨R, 1, none⟩ = some (.int .i64 P)) (first | go_keep | (refine ⟨?_, ?_⟩ <;> (rw [hcX]; assumption)) | (refine ⟨?_, ?_⟩ <;> (first | (go_simp; done) | (simp [go_sem, *]; done))))
        (first | (go_at_call 58; (with_reducible refine (HC.out _ (HU.out.on (by (repeat (first | exact Below.refl _ _ | assumption | refine Below.setCell ?_ (by first | omega | (simp <;> omega)) _ | refine Below.alloc ?_ (by first | omega | (simp <;> omega)) _ | refine Below.drew ?_ | refine below_drewN' ?_ _))))).mono ?_); rintro e w1 ⟨rfl, hb_w1⟩; have hcX := fun o => (bcell hb_w1).1 R o (by (try simp only [size_drew', size_drewN', World.size_alloc]); exact hRl); have hB1 : Below w.heap.size w w1 := Below.trans (by (repeat (first | exact Below.refl _ _ | assumption | refine Below.setCell ?_ (by first | omega | (simp <;> omega)) _ | refine Below.alloc ?_ (by first | omega | (simp <;> omega)) _ | refine Below.drew ?_ | refine below_drewN' ?_ _))) (hb_w1.mono (by simp))))
      all_goals
        (try go_wp2)
        exact ⟨rfl, rfl, hB1.mono hb⟩
  exact key D1 D2 rfl rfl hr2

/-- What the reader's rune leaves: the text, the state behind it. -/
def RuneOk (w : World) (base R : Nat) (s : ByteArray) (t : ByteArray) (st : Pa.St) (e : Ending) (w' : World) : Prop := ∃ y', e = .returned (.string t) ∧ y'.R = R ∧ RdAt w' base y' s st ∧ Below base w w'

set_option maxRecDepth 100000 in
set_option maxHeartbeats 4000000 in
theorem rd_rune_ok (y : Lay) (s : ByteArray) (st : Pa.St) (base : Nat) (p : Int) (w : World) (h : RdAt w base y s st) (hb : base ≤ w.heap.size) (hp : st.pos ≤ s.size) (hs : s.size ≤ 1000000) (hu : U8 w)
    (hr : ¬ ((Lib.decodeGo (s.extract st.pos s.size)).2 = 0 ∨ ((Lib.decodeGo (s.extract st.pos s.size)).1 = 65533 ∧ (Lib.decodeGo (s.extract st.pos s.size)).2 = 1)))
    (hd : st.pos + (Lib.decodeGo (s.extract st.pos s.size)).2 ≤ s.size) :
    Calls Tryd.prog 55 #[.pointer (some ⟨y.R, 0, none⟩), .int .i64 p] w
      (RuneOk w base y.R s (s.extract st.pos (st.pos + (Lib.decodeGo (s.extract st.pos s.size)).2)) { st with pos := st.pos + (Lib.decodeGo (s.extract st.pos s.size)).2 }) := by
  have hc := fun W (hW : U8 W) => decode_call (s.extract st.pos s.size) W hW
  have hsl : ∀ W : World, (Instr.slice 9 (.string s) (some (.int .i64 (st.pos : Int))) none none).run Tryd.prog W = .ok (.string (s.extract st.pos s.size)) W := fun W => by
    rw [run_slice_string_from_if W _ s .i64 _ Tryd.underlying9, if_pos (by omega), Int.toNat_natCast]
  obtain ⟨S1, hS1⟩ : ∃ S1, S1 = s.extract st.pos s.size := ⟨_, rfl⟩
  rw [← hS1] at hc hsl hr hd ⊢
  obtain ⟨d1, hd1⟩ : ∃ d, d = (Lib.decodeGo S1).1 := ⟨_, rfl⟩
  obtain ⟨d2, hd2⟩ : ∃ d, d = (Lib.decodeGo S1).2 := ⟨_, rfl⟩
  rw [← hd1, ← hd2] at hc hr
  rw [← hd2] at hd ⊢
  have hs2 : ∀ W : World, (Instr.slice 9 (.string s) (some (.int .i64 (st.pos : Int))) (some (.int .i64 ((st.pos + d2 : Nat) : Int))) none).run Tryd.prog W = .ok (.string (s.extract st.pos (st.pos + d2))) W := fun W => by
    rw [run_slice_string_if W _ s .i64 .i64 _ _ Tryd.underlying9, if_pos (by omega), if_pos (by omega), Int.toNat_natCast, Int.toNat_natCast]
  obtain ⟨T, hT⟩ : ∃ T, T = s.extract st.pos (st.pos + d2) := ⟨_, rfl⟩
  rw [← hT] at hs2 ⊢
  have hpo := fun (W : World) (hW : Below w.heap.size w W) => (h.on hW).pos (st.pos + d2)
  obtain ⟨R, vS, vF, vis⟩ := y
  have r0 := h.rd.get 0 rfl
  have r1 := h.rd.get 1 rfl
  have fr := h.rd.frozen
  have hRl := h.rd.lt
  have lowR := h.low
  simp only [] at r0 r1 hRl fr hpo lowR ⊢
  obtain ⟨D1, hD1⟩ : ∃ D : Int, D = (d1 : Int) := ⟨_, rfl⟩
  obtain ⟨D2, hD2⟩ : ∃ D : Int, D = (d2 : Int) := ⟨_, rfl⟩
  obtain ⟨P, hP⟩ : ∃ P : Int, P = (st.pos : Int) := ⟨_, rfl⟩
  obtain ⟨Q, hQ⟩ : ∃ P : Int, P = ((st.pos + d2 : Nat) : Int) := ⟨_, rfl⟩
  rw [← hD1, ← hD2] at hc
  rw [← hP] at r1 hsl hs2
  rw [← hQ] at hs2 hpo
  have e1 : P + D2 = Q := by omega
  have e2 : Q - D2 = P := by omega
  have b1 : 0 ≤ P ∧ P ≤ 1000000 := by omega
  have b2 : 0 ≤ D2 ∧ D2 ≤ 1000000 := by omega
  have b3 : 0 ≤ Q ∧ Q ≤ 1000000 := by omega
  obtain ⟨b1, b1'⟩ := b1
  obtain ⟨b2, b2'⟩ := b2
  obtain ⟨b3, b3'⟩ := b3
  have n0 : (D2 == 0) = false := beq_eq_false_iff_ne.2 (by omega)
  have HC := Lib.hid hc; have HU := Lib.hid hu; have HPO := Lib.hid hpo
  have hcase : (D1 == 65533) = false ∨ (D1 = 65533 ∧ (D2 == 1) = false) := by
    by_cases e : d1 = 65533
    · right; exact ⟨by omega, beq_eq_false_iff_ne.2 (by omega)⟩
    · left; exact beq_eq_false_iff_ne.2 (by omega)
  clear hc hu hr hS1 hd1 hd2 hD1 hD2 hP hQ h hp hT hd hpo hs
  rcases hcase with m1 | ⟨m1, m2⟩
  all_goals
    (try subst m1)
    go_enter Tryd.func55, Tryd.ntmps55
    go_wp2_with fail
    go_region_held3 (fun w' => w'.cell? ⟨R, 0, none⟩ = some (.string s) ∧ w'.cell? ⟨R, 1, none⟩ = some (.int .i64 P)) (first | go_keep | (refine ⟨?_, ?_⟩ <;> (rw [hcX]; assumption)) | (refine ⟨?_, ?_⟩ <;> (first | (go_simp; done) | (simp [go_sem, *]; done))))
      (first | (go_at_call 58; (with_reducible refine (HC.out _ (HU.out.on (by (repeat (first | exact Below.refl _ _ | assumption | refine Below.setCell ?_ (by first | omega | (simp <;> omega)) _ | refine Below.alloc ?_ (by first | omega | (simp <;> omega)) _ | refine Below.drew ?_ | refine below_drewN' ?_ _))))).mono ?_); rintro e w1 ⟨rfl, hb_w1⟩; have hcX := fun o => (bcell hb_w1).1 R o (by (try simp only [size_drew', size_drewN', World.size_alloc]); exact hRl); have hfX := fun o => (bcell hb_w1).2 R o (by (try simp only [size_drew', size_drewN', World.size_alloc]); exact hRl); have hB1 : Below w.heap.size w w1 := Below.trans (by (repeat (first | exact Below.refl _ _ | assumption | refine Below.setCell ?_ (by first | omega | (simp <;> omega)) _ | refine Below.alloc ?_ (by first | omega | (simp <;> omega)) _ | refine Below.drew ?_ | refine below_drewN' ?_ _))) (hb_w1.mono (by simp))))
    all_goals
      (try go_wp2)
      (try go_quiet (fail))
      (try go_wp2)
      go_ret
      refine ⟨_, rfl, ?_, (HPO.out _ hB1).on (below_drewN' (Below.refl _ _) _), below_drewN' ((hB1.mono hb).setCell (p := ⟨R, 1, none⟩) lowR _) _⟩
      rfl
end Go.Proofs.YticodcecillciaaDoor
