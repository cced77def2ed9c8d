/- A world in which every listed package-level variable holds what its initialiser lays: the witness of this seat's rows. -/
import Derived.Test.YticodcecillciaaDoorRows
import Derived.WalkKit
import Derived.ProofKit
import Derived.Deep.DeepHandedRow
import Derived.Deep.DeepWitnessRowRef
import Derived.Lib.LaidTab
import Derived.Test.YticodcecillciaaDoorProg
import Derived.WalkSpells
import Derived.WalkLawsBesides
import Derived.Lib.Hide
import Derived.Shelf.Unicode.DecodeSlow
import Derived.Lib.ValidU
import Derived.Lib.Bytealg
import Derived.Lib.Join
import Derived.Lib.Strings
import Derived.OwnWalk
import Derived.Laws.Rows
import Derived.Maps.AppendAt
import Derived.Shelf.Strings.Builder1
import Derived.Shelf.Strings.Builder2
import Derived.Shelf.Strings.OnBuilder
import Derived.Shelf.Small.Strs
import Derived.Shelf.Strings.BuilderF
import Derived.Shelf.Strings.Search1
import Derived.Shelf.Strings.Search2
import Derived.Shelf.Strings.Search3
import Derived.Shelf.LaysM
import Derived.Shelf.Strings.Shaped
import Derived.Shelf.Strings.Prefix
import Derived.Shelf.Bits.Mul64
import Derived.Shelf.Strings.Repeat
import Derived.Shelf.Unicode.DecodeAny
import Derived.Shelf.Unicode.ValidAny
import Derived.Shelf.Slices.Turned
import Derived.Deep.QuietTactic
import Derived.BigQuiet
import Derived.IntWalk
namespace Go.Proofs.YticodcecillciaaDoor
set_option linter.all false
open Go.ChangeShapes Go.WideShapes Go.ChangeAt Go.RowKit

noncomputable def low : Nat := (World.holding Tryd.prog default ⟨#[], #[], []⟩).heap.size

/-- What a variable's block holds instead. -/
def setVar (g : Nat) (cs : Array Value) (heap : Array Obj) : Array Obj := heap.modify g fun
  | .cells _ t frozen => .cells cs t frozen
  | o => o

noncomputable def laidWorld (os : Os) : World :=
  let w0 := World.holding Tryd.prog os ⟨#[], #[], []⟩
  { w0 with heap := (setVar 0 #[.int .u8 240, .int .u8 240, .int .u8 240, .int .u8 240, .int .u8 240, .int .u8 240, .int .u8 240, .int .u8 240, .int .u8 240, .int .u8 240, .int .u8 240, .int .u8 240, .int .u8 240, .int .u8 240, .int .u8 240, .int .u8 240, .int .u8 240, .int .u8 240, .int .u8 240, .int .u8 240, .int .u8 240, .int .u8 240, .int .u8 240, .int .u8 240, .int .u8 240, .int .u8 240, .int .u8 240, .int .u8 240, .int .u8 240, .int .u8 240, .int .u8 240, .int .u8 240, .int .u8 240, .int .u8 240, .int .u8 240, .int .u8 240, .int .u8 240, .int .u8 240, .int .u8 240, .int .u8 240, .int .u8 240, .int .u8 240, .int .u8 240, .int .u8 240, .int .u8 240, .int .u8 240, .int .u8 240, .int .u8 240, .int .u8 240, .int .u8 240, .int .u8 240, .int .u8 240, .int .u8 240, .int .u8 240, .int .u8 240, .int .u8 240, .int .u8 240, .int .u8 240, .int .u8 240, .int .u8 240, .int .u8 240, .int .u8 240, .int .u8 240, .int .u8 240, .int .u8 240, .int .u8 240, .int .u8 240, .int .u8 240, .int .u8 240, .int .u8 240, .int .u8 240, .int .u8 240, .int .u8 240, .int .u8 240, .int .u8 240, .int .u8 240, .int .u8 240, .int .u8 240, .int .u8 240, .int .u8 240, .int .u8 240, .int .u8 240, .int .u8 240, .int .u8 240, .int .u8 240, .int .u8 240, .int .u8 240, .int .u8 240, .int .u8 240, .int .u8 240, .int .u8 240, .int .u8 240, .int .u8 240, .int .u8 240, .int .u8 240, .int .u8 240, .int .u8 240, .int .u8 240, .int .u8 240, .int .u8 240, .int .u8 240, .int .u8 240, .int .u8 240, .int .u8 240, .int .u8 240, .int .u8 240, .int .u8 240, .int .u8 240, .int .u8 240, .int .u8 240, .int .u8 240, .int .u8 240, .int .u8 240, .int .u8 240, .int .u8 240, .int .u8 240, .int .u8 240, .int .u8 240, .int .u8 240, .int .u8 240, .int .u8 240, .int .u8 240, .int .u8 240, .int .u8 240, .int .u8 240, .int .u8 240, .int .u8 240, .int .u8 240, .int .u8 241, .int .u8 241, .int .u8 241, .int .u8 241, .int .u8 241, .int .u8 241, .int .u8 241, .int .u8 241, .int .u8 241, .int .u8 241, .int .u8 241, .int .u8 241, .int .u8 241, .int .u8 241, .int .u8 241, .int .u8 241, .int .u8 241, .int .u8 241, .int .u8 241, .int .u8 241, .int .u8 241, .int .u8 241, .int .u8 241, .int .u8 241, .int .u8 241, .int .u8 241, .int .u8 241, .int .u8 241, .int .u8 241, .int .u8 241, .int .u8 241, .int .u8 241, .int .u8 241, .int .u8 241, .int .u8 241, .int .u8 241, .int .u8 241, .int .u8 241, .int .u8 241, .int .u8 241, .int .u8 241, .int .u8 241, .int .u8 241, .int .u8 241, .int .u8 241, .int .u8 241, .int .u8 241, .int .u8 241, .int .u8 241, .int .u8 241, .int .u8 241, .int .u8 241, .int .u8 241, .int .u8 241, .int .u8 241, .int .u8 241, .int .u8 241, .int .u8 241, .int .u8 241, .int .u8 241, .int .u8 241, .int .u8 241, .int .u8 241, .int .u8 241, .int .u8 241, .int .u8 241, .int .u8 2, .int .u8 2, .int .u8 2, .int .u8 2, .int .u8 2, .int .u8 2, .int .u8 2, .int .u8 2, .int .u8 2, .int .u8 2, .int .u8 2, .int .u8 2, .int .u8 2, .int .u8 2, .int .u8 2, .int .u8 2, .int .u8 2, .int .u8 2, .int .u8 2, .int .u8 2, .int .u8 2, .int .u8 2, .int .u8 2, .int .u8 2, .int .u8 2, .int .u8 2, .int .u8 2, .int .u8 2, .int .u8 2, .int .u8 2, .int .u8 19, .int .u8 3, .int .u8 3, .int .u8 3, .int .u8 3, .int .u8 3, .int .u8 3, .int .u8 3, .int .u8 3, .int .u8 3, .int .u8 3, .int .u8 3, .int .u8 3, .int .u8 35, .int .u8 3, .int .u8 3, .int .u8 52, .int .u8 4, .int .u8 4, .int .u8 4, .int .u8 68, .int .u8 241, .int .u8 241, .int .u8 241, .int .u8 241, .int .u8 241, .int .u8 241, .int .u8 241, .int .u8 241, .int .u8 241, .int .u8 241, .int .u8 241] (setVar 1 #[.int .u8 128, .int .u8 191, .int .u8 160, .int .u8 191, .int .u8 128, .int .u8 159, .int .u8 144, .int .u8 191, .int .u8 128, .int .u8 143, .int .u8 0, .int .u8 0, .int .u8 0, .int .u8 0, .int .u8 0, .int .u8 0, .int .u8 0, .int .u8 0, .int .u8 0, .int .u8 0, .int .u8 0, .int .u8 0, .int .u8 0, .int .u8 0, .int .u8 0, .int .u8 0, .int .u8 0, .int .u8 0, .int .u8 0, .int .u8 0, .int .u8 0, .int .u8 0] w0.heap)) }

end Go.Proofs.YticodcecillciaaDoor

/- Small lemmas that all walks of this seat use: what a call returns, over a world below which nothing has turned. -/
namespace Go.Proofs.YticodcecillciaaDoor
set_option linter.all false
open Go.RowKit

/-- A call returns v; what lay in memory stays. -/
def RetB (v : Value) (w : World) (e : Ending) (w' : World) : Prop := e = .returned v ∧ Below w.heap.size w w'

theorem RetB.of {v v' : Value} {w w' : World} (h : v' = v) (hb : Below w.heap.size w w') : RetB v w (.returned v') w' := ⟨by rw [h], hb⟩

/-- A call returns v; the world is the same. -/
def Ret0 (v : Value) (w : World) (e : Ending) (w' : World) : Prop := e = .returned v ∧ w = w'

theorem Ret0.of {v v' : Value} {w : World} (h : v' = v) : Ret0 v w (.returned v') w := ⟨by rw [h], rfl⟩

theorem bs_getElem? (s : ByteArray) (k : Nat) (h : k < s.size) : s.data.toList[k]? = some s[k] := by
  simp [ByteArray.getElem_eq_getElem_data, h]
theorem bs_length (s : ByteArray) : s.data.toList.length = s.size := by simp
theorem all_take_snoc (s : ByteArray) (k : Nat) (h : k < s.size) (p : UInt8 → Bool) : (s.data.toList.take (k + 1)).all p = ((s.data.toList.take k).all p && p s[k]) := by
  rw [List.take_add_one, bs_getElem? s k h]; simp

theorem all_drop_cons (s : ByteArray) (k : Nat) (h : k < s.size) (p : UInt8 → Bool) : (s.data.toList.drop k).all p = (p s[k] && (s.data.toList.drop (k + 1)).all p) := by
  have hk : k < s.data.toList.length := by simpa using h
  rw [List.drop_eq_getElem_cons hk, List.all_cons]
  have := bs_getElem? s k h
  rw [List.getElem?_eq_getElem hk] at this
  rw [Option.some.inj this]

theorem toList_data (s : ByteArray) : s.toList = s.data.toList := ByteArray.toList_eq s
theorem pos_of_isEmpty {s : ByteArray} (h : s.toList.isEmpty = false) : 0 < s.size := by
  rw [toList_data] at h
  have : s.data.toList ≠ [] := by intro e; rw [e] at h; cases h
  have := List.length_pos_iff.2 this
  simp at this; omega
theorem zero_of_isEmpty {s : ByteArray} (h : s.toList.isEmpty = true) : s.size = 0 := by
  rw [toList_data, List.isEmpty_iff] at h
  have := congrArg List.length h
  simpa using this
theorem isEmpty_of_pos {s : ByteArray} (h : 0 < s.size) : s.toList.isEmpty = false := by
  rw [toList_data]
  cases e : s.data.toList with
  | nil => have h2 := congrArg List.length e; simp only [Array.length_toList, List.length_nil] at h2; exact absurd h (by rw [ByteArray.size, h2]; omega)
  | cons => rfl
theorem isEmpty_of_zero {s : ByteArray} (h : s.size = 0) : s.toList.isEmpty = true := by
  rw [toList_data, List.isEmpty_iff]; exact List.length_eq_zero_iff.1 (by simpa using h)

theorem size_mk (l : List UInt8) : (⟨l.toArray⟩ : ByteArray).size = l.length := by simp [ByteArray.size]

theorem size_drew' (w : World) : w.drew.heap.size = w.heap.size := rfl
theorem size_drewN' (w : World) (n : Nat) : (w.drewN n).heap.size = w.heap.size := rfl

theorem below_drewN' {B : Nat} {a w : World} (h : Below B a w) (n : Nat) : Below B a (w.drewN n) := h.trans ⟨rfl, rfl, rfl, Nat.le_refl _, fun _ _ => rfl⟩

theorem bcell {W w1 : World} (hb : Below W.heap.size W w1) : (∀ b o, b < W.heap.size → w1.cell? ⟨b, o, none⟩ = W.cell? ⟨b, o, none⟩) ∧ (∀ b o, b < W.heap.size → w1.frozen? ⟨b, o, none⟩ = W.frozen? ⟨b, o, none⟩) :=
  ⟨fun b o h => hb.cell (p := ⟨b, o, none⟩) h, fun b o h => hb.frozen (p := ⟨b, o, none⟩) h⟩

/-! Short names, for the merged texts of a claim (gen/bundle.py with SHORT). -/
theorem zD (w : World) : w.drew.heap.size = w.heap.size := rfl
theorem zN (w : World) (n : Nat) : (w.drewN n).heap.size = w.heap.size := rfl
theorem zA (w : World) (o : Obj) : (w.alloc o).heap.size = w.heap.size + 1 := World.size_alloc w o
theorem zS (w : World) (a : Addr) (v : Value) : (w.setCell a v).heap.size = w.heap.size := World.size_setCell w a v
theorem bR (B : Nat) (w : World) : Below B w w := Below.refl B w
theorem own6 {W w1 : World} (hb : Below W.heap.size W w1) (b : Nat) (h : b < W.heap.size) : b < w1.heap.size ∧ b ≤ w1.heap.size ∧ ¬ b = w1.heap.size ∧ ¬ w1.heap.size = b ∧ (∀ o, w1.cell? ⟨b, o, none⟩ = W.cell? ⟨b, o, none⟩) ∧ (∀ o, w1.frozen? ⟨b, o, none⟩ = W.frozen? ⟨b, o, none⟩) := by
  have hs := hb.size
  exact ⟨by omega, by omega, by omega, by omega, fun o => hb.cell (p := ⟨b, o, none⟩) h, fun o => hb.frozen (p := ⟨b, o, none⟩) h⟩

theorem bsize {W w1 : World} (hb : Below W.heap.size W w1) : W.heap.size ≤ w1.heap.size := hb.size

end Go.Proofs.YticodcecillciaaDoor

/- Plain Lean: patterns (chapter 13): items, sections, shapes; how a text is read as a pattern; how a pattern is written. -/
namespace Go.Proofs.YticodcecillciaaDoor.Pa
set_option linter.all false

structure It where
  kind : Int
  text : ByteArray
deriving DecidableEq, Inhabited

structure Sec where
  items : List It
  grouped : Bool
  scale : Int
deriving DecidableEq, Inhabited

def ba (l : List UInt8) : ByteArray := ⟨l.toArray⟩
/-- A literal's text is one rune. -/
def lit (t : ByteArray) : Bool := decide ((Lib.decodeGo t).2 = t.size) && (decide (0 < (Lib.decodeGo t).2) && (!decide ((Lib.decodeGo t).1 = 65533) || decide ((Lib.decodeGo t).2 = 3)))
def rightI (x : It) : Bool :=
  if x.kind = 1 then lit x.text
  else if x.kind = 2 then decide (x.text = ba [48]) || (decide (x.text = ba [35]) || decide (x.text = ba [63]))
  else if x.kind = 5 then decide (x.text = ba [43]) || decide (x.text = ba [45])
  else decide (1 ≤ x.kind) && (decide (x.kind ≤ 9) && decide (x.text.size = 0))

/-- How many items of a kind; where the first one of some kinds stands. -/
def cnt (k : Int) (l : List It) : Nat := l.countP fun x => decide (x.kind = k)
def cutAt (ks : List Int) (l : List It) : Nat := l.findIdx fun x => ks.contains x.kind
def headN (l : List It) : Nat := cutAt [3, 5, 6] l
/-- Do two whole digits stand beside one another there? -/
def twoAt (l : List It) (i : Nat) : Bool := decide (i + 1 < headN l) && (decide (l[i]!.kind = 2) && decide (l[i + 1]!.kind = 2))
def pair (l : List It) : Int := match (List.range l.length).find? (twoAt l) with
  | some i => (i : Int)
  | none => -1
/-- The last whole digit; -1: there is none. -/
def lastN (l : List It) : Nat → Int
  | 0 => -1
  | n + 1 => if l[n]!.kind = 2 then (n : Int) else lastN l n
def last (l : List It) : Int := lastN l (headN l)

/-- The shape that a section's items have. -/
def frac (l : List It) : Int :=
  let k := cutAt [6] l
  if 0 < k ∧ l[k - 1]!.kind = 2 ∧ cnt 2 (l.take k) ≤ 30 ∧ 1 ≤ cnt 2 (l.drop k) ∧ cnt 2 (l.drop k) ≤ 4 then 4 else 0
def numb (l : List It) : Int :=
  let a := l.take (cutAt [5] l)
  let z := l.drop (cutAt [5] l)
  if 30 < cnt 2 (a.take (cutAt [3] a)) ∨ 30 < cnt 2 (a.drop (cutAt [3] a)) then 0
  else if z.length = 0 then 2
  else if cutAt [3] z = z.length ∧ 0 < cnt 2 a ∧ 1 ≤ cnt 2 z ∧ cnt 2 z ≤ 4 then 3 else 0
def shape0 (l : List It) : Int :=
  let number := cnt 2 l + cnt 3 l + cnt 4 l + cnt 5 l + cnt 6 l
  if 0 < cnt 7 l + cnt 8 l ∧ 0 < number then 0
  else if cnt 7 l = 1 ∧ cnt 8 l = 0 then 5
  else if cnt 7 l = 0 ∧ 0 < cnt 8 l ∧ cnt 9 l = 0 then 6
  else if cnt 7 l = 0 ∧ cnt 8 l = 0 ∧ number = 0 then 1
  else if cnt 6 l = 1 ∧ cnt 3 l + cnt 4 l + cnt 5 l = 0 then frac l
  else if cnt 6 l = 0 ∧ 0 < cnt 2 l ∧ cnt 3 l ≤ 1 ∧ cnt 4 l ≤ 1 ∧ cnt 5 l ≤ 1 ∧ cnt 7 l = 0 then numb l
  else 0
def shape (s : Sec) : Int :=
  if s.items.all rightI then
    if shape0 s.items = 2 then
      if 0 ≤ s.scale ∧ s.scale ≤ 9 ∧ (0 < cnt 2 (s.items.take (headN s.items)) ∨ s.scale = 0) ∧ (s.grouped = false ∨ 0 ≤ pair s.items) then 2 else 0
    else if s.grouped = false ∧ s.scale = 0 then shape0 s.items else 0
  else 0

/-- Is that section of a pattern wrong? Which is the first one? -/
def bad (l : List Sec) (i : Nat) : Bool :=
  if shape l[i]! = 0 then true
  else if shape l[i]! = 1 then false
  else if shape l[i]! = 6 then decide (i < 3) && decide (1 < l.length)
  else decide (i = 3)
def wrong (l : List Sec) : Int := match (List.range l.length).find? (bad l) with
  | some i => (i : Int)
  | none => -1
def total (l : List Sec) : Nat := (l.map fun s => s.items.length).sum
def right (l : List Sec) : Bool := decide (1 ≤ l.length) && (decide (l.length ≤ 4) && (decide (total l ≤ 100) && decide (wrong l < 0)))

/-- The reader: where it stands, the sections so far, where each begins, how many items, may a comma follow? -/
structure St where
  pos : Nat
  secs : List Sec
  begins : List Int
  items : Nat
  opn : Bool
deriving DecidableEq
abbrev M (α : Type) := Except (Int × Int) α

def ch (s : ByteArray) (i : Nat) : Nat := if h : i < s.size then s[i].toNat else 0
def onLast (l : List Sec) (f : Sec → Sec) : List Sec := l.modify (l.length - 1) f

def beg (st : St) : M St :=
  if st.secs.length = 4 then .error (5, (st.pos : Int) - 1)
  else .ok { st with secs := st.secs ++ [⟨[], false, 0⟩], begins := st.begins ++ [(st.pos : Int)], opn := false }
def put (k : Int) (t : ByteArray) (p : Int) (st : St) : M St :=
  if st.items = 100 then .error (5, p)
  else .ok { st with items := st.items + 1, secs := onLast st.secs fun s => { s with items := s.items ++ [⟨k, t⟩] },
                     opn := decide (k = 2) && decide (headN (st.secs[st.secs.length - 1]!.items ++ [⟨k, t⟩]) = st.secs[st.secs.length - 1]!.items.length + 1) }
def rune (s : ByteArray) (p : Int) (st : St) : M (ByteArray × St) :=
  let r := Lib.decodeGo (s.extract st.pos s.size)
  if r.2 = 0 ∨ (r.1 = 65533 ∧ r.2 = 1) then .error (12, p)
  else .ok (s.extract st.pos (st.pos + r.2), { st with pos := st.pos + r.2 })
def isDigit (c : Nat) : Bool := c == 48 || (c == 35 || c == 63)
def comma (s : ByteArray) (p : Nat) (st : St) : M St :=
  let next := decide (st.pos < s.size) && isDigit (ch s st.pos)
  if st.opn = false ∨ (next = true ∧ ch s (p - 1) = 44) then .error (12, (p : Int))
  else if next then .ok { st with secs := onLast st.secs fun x => { x with grouped := true } }
  else .ok { st with secs := onLast st.secs fun x => { x with scale := x.scale + 1 } }
def quoted (s : ByteArray) (p : Nat) (stop : Nat) : Nat → St → M St
  | 0, st => .ok st
  | f + 1, st => if st.pos < stop then (rune s p st).bind fun x => (put 1 x.1 st.pos x.2).bind (quoted s p stop f) else .ok st
def isBare (c : Nat) : Bool := c == 32 || (c == 45 || (c == 43 || (c == 40 || (c == 41 || c == 58))))
def single (c : Nat) : Int := if c = 46 then 3 else if c = 37 then 4 else if c = 47 then 6 else if c = 64 then 8 else if c = 36 then 9 else 0
def general : ByteArray := ba [71, 101, 110, 101, 114, 97, 108]
def other (s : ByteArray) (c p : Nat) (st : St) : M St :=
  if isBare c then put 1 (s.extract p (p + 1)) p st
  else if 0 < single c then put (single c) (ba []) p st
  else if Lib.hasPrefix (s.extract p s.size).data.toList general.data.toList then put 7 (ba []) p { st with pos := p + 7 }
  else if (c = 69 ∨ c = 101) ∧ p + 1 < s.size ∧ (ch s (p + 1) = 43 ∨ ch s (p + 1) = 45) then put 5 (s.extract (p + 1) (p + 2)) p { st with pos := p + 2 }
  else .error (12, (p : Int))
def one (s : ByteArray) (st : St) : M St :=
  let p := st.pos
  let c := ch s p
  let st1 : St := { st with pos := p + 1 }
  if c = 59 then beg st1
  else if c = 34 then
    let n := Lib.indexByte (s.extract (p + 1) s.size).data.toList 34
    if n < 0 ∨ Lib.validD (s.extract (p + 1) (p + 1 + n.toNat)).data.toList = false then .error (12, (p : Int))
    else (quoted s p (p + 1 + n.toNat) (n.toNat + 1) { st1 with opn := false }).bind fun x => .ok { x with pos := x.pos + 1 }
  else if c = 92 then (rune s p st1).bind fun x => put 1 x.1 p x.2
  else if c = 95 then (rune s p st1).bind fun x => put 1 (ba [32]) p x.2
  else if c = 44 then comma s p st1
  else if isDigit c then put 2 (s.extract p (p + 1)) p st1
  else other s c p st1
def loop (s : ByteArray) : Nat → St → M St
  | 0, st => .ok st
  | f + 1, st => if st.pos < s.size then (one s st).bind (loop s f) else .ok st
def st0 : St := ⟨0, [], [], 0, false⟩
def fin (st : St) : M St := if 0 ≤ wrong st.secs then .error (12, st.begins[(wrong st.secs).toNat]!) else .ok st
def run (s : ByteArray) : M St := (beg st0).bind fun a => (loop s (s.size + 1) a).bind fin
def parse (s : ByteArray) : List Sec × Int × Int :=
  if 1000 < s.size then ([], 4, 0)
  else match run s with
    | .ok st => (st.secs, 0, 0)
    | .error (e, p) => ([], e, p)

/-- An item's text; a section's; a pattern's. -/
def bareTexts : List (List UInt8) := [[32], [45], [43], [40], [41], [58]]
def sign (x : It) : List UInt8 :=
  if x.kind = 1 then (if bareTexts.contains x.text.data.toList then x.text.data.toList else 92 :: x.text.data.toList)
  else if x.kind = 5 then 69 :: x.text.data.toList
  else if x.kind = 7 then general.data.toList
  else if x.kind = 3 then [46] else if x.kind = 4 then [37] else if x.kind = 6 then [47] else if x.kind = 8 then [64] else if x.kind = 9 then [36]
  else x.text.data.toList
def printAt (s : Sec) (i : Nat) : List UInt8 :=
  sign s.items[i]! ++ ((if s.grouped = true ∧ pair s.items = i then [44] else []) ++ (if last s.items = i then List.replicate s.scale.toNat 44 else []))
def printS (s : Sec) : List UInt8 := (List.range s.items.length).flatMap (printAt s)
def print (l : List Sec) : List UInt8 := if right l then Lib.join (l.map printS) [59] else []
end Go.Proofs.YticodcecillciaaDoor.Pa

/- Patterns in memory: rows of items, rows of sections; the library's tables for runes. -/
namespace Go.Proofs.YticodcecillciaaDoor
set_option linter.all false
open Go.RowKit

def itCells (l : List Pa.It) : List Value := l.flatMap fun x => [.int .i64 x.kind, .string x.text]
theorem itCells_cons (x : Pa.It) (l : List Pa.It) : itCells (x :: l) = .int .i64 x.kind :: .string x.text :: itCells l := rfl
theorem itCells_snoc (l : List Pa.It) (x : Pa.It) : itCells (l ++ [x]) = itCells l ++ [.int .i64 x.kind, .string x.text] := by simp [itCells]
theorem itCells_len (l : List Pa.It) : (itCells l).length = l.length * 2 := by
  induction l with
  | nil => rfl
  | cons x l ih => rw [itCells_cons]; simp only [List.length_cons, ih]; omega
theorem itCells_get (l : List Pa.It) (k : Nat) (h : k < l.length) : (itCells l)[k * 2]? = some (.int .i64 l[k].kind) ∧ (itCells l)[k * 2 + 1]? = some (.string l[k].text) := by
  induction l generalizing k with
  | nil => simp at h
  | cons x l ih =>
    rw [itCells_cons]
    cases k with
    | zero => simp
    | succ k =>
      have := ih k (by simpa using h)
      rw [show (k + 1) * 2 = k * 2 + 1 + 1 by omega]
      simpa using this

/-- The slice reads as the items; its cells lie below B. -/
def ItsAt (w : World) (B : Nat) (v : Value) (l : List Pa.It) : Prop :=
  ∃ a c, v = .slice a l.length c ∧ l.length ≤ c ∧ (0 < l.length → ∃ b o, a = some ⟨b, o, none⟩ ∧ b < B ∧ ∀ k (h : k < l.length), w.cell? ⟨b, o + k * 2, none⟩ = some (.int .i64 l[k].kind) ∧ w.cell? ⟨b, o + k * 2 + 1, none⟩ = some (.string l[k].text))
theorem ItsAt.below {w w' : World} {B C : Nat} {v : Value} {l : List Pa.It} (h : ItsAt w B v l) (hb : Below C w w') (hC : B ≤ C) : ItsAt w' B v l := by
  obtain ⟨a, c, e, hc, h⟩ := h
  refine ⟨a, c, e, hc, fun h0 => ?_⟩
  obtain ⟨b, o, e2, hlt, h⟩ := h h0
  exact ⟨b, o, e2, hlt, fun k hk => ⟨(hb.cell (p := ⟨b, o + k * 2, none⟩) (Nat.lt_of_lt_of_le hlt hC)).trans (h k hk).1, (hb.cell (p := ⟨b, o + k * 2 + 1, none⟩) (Nat.lt_of_lt_of_le hlt hC)).trans (h k hk).2⟩⟩
theorem ItsAt.mono {w : World} {B C : Nat} {v : Value} {l : List Pa.It} (h : ItsAt w B v l) (hC : B ≤ C) : ItsAt w C v l := by
  obtain ⟨a, c, e, hc, h⟩ := h
  refine ⟨a, c, e, hc, fun h0 => ?_⟩
  obtain ⟨b, o, e2, hlt, h⟩ := h h0
  exact ⟨b, o, e2, Nat.lt_of_lt_of_le hlt hC, h⟩
theorem ItsAt.nil (w : World) (B : Nat) : ItsAt w B (.slice none 0 0) [] := ⟨none, 0, rfl, Nat.le_refl _, fun h => absurd h (by simp)⟩
/-- The items ahead of a place, and those from it on. -/
theorem ItsAt.take {w : World} {B : Nat} {a : Option Addr} {n c k : Nat} {l : List Pa.It} (h : ItsAt w B (.slice a n c) l) (hk : k ≤ l.length) : ItsAt w B (.slice a k c) (l.take k) := by
  obtain ⟨a', c', e, hc, h⟩ := h
  cases e
  refine ⟨a, c, by rw [List.length_take, Nat.min_eq_left hk], by rw [List.length_take]; omega, fun h0 => ?_⟩
  rw [List.length_take] at h0
  obtain ⟨b, o, e2, hlt, h⟩ := h (by omega)
  exact ⟨b, o, e2, hlt, fun i hi => by rw [List.length_take] at hi; rw [List.getElem_take]; exact h i (by omega)⟩
theorem ItsAt.drop {w : World} {B : Nat} {a : Option Addr} {n c k : Nat} {l : List Pa.It} (h : ItsAt w B (.slice a n c) l) (hk : k ≤ l.length) : ItsAt w B (sliced a k n c 2) (l.drop k) := by
  obtain ⟨a', c', e, hc, h⟩ := h
  cases e
  unfold sliced
  refine ⟨_, _, by rw [List.length_drop], by rw [List.length_drop]; omega, fun h0 => ?_⟩
  rw [List.length_drop] at h0
  obtain ⟨b, o, e2, hlt, hh⟩ := h (by omega)
  subst e2
  refine ⟨b, o + k * 2, ?_, hlt, fun i hi => ?_⟩
  · rw [if_neg (by omega)]
    show some (Addr.add _ _) = _
    unfold Addr.add
    split
    · rename_i e; rw [e, Nat.add_zero]
    · rfl
  · rw [List.length_drop] at hi
    rw [List.getElem_drop]
    have := hh (k + i) (by omega)
    rw [show o + k * 2 + i * 2 = o + (k + i) * 2 by omega]; exact this
theorem ItsAt.form {w : World} {B : Nat} {v : Value} {l : List Pa.It} (h : ItsAt w B v l) : ∃ a c, v = .slice a l.length c ∧ l.length ≤ c := by
  obtain ⟨a, c, e, hc, _⟩ := h; exact ⟨a, c, e, hc⟩
theorem ItsAt.get {w : World} {B : Nat} {v : Value} {l : List Pa.It} (h : ItsAt w B v l) (h0 : 0 < l.length) : ∃ b o c, v = .slice (some ⟨b, o, none⟩) l.length c ∧ l.length ≤ c ∧ b < B ∧ ∀ k (h : k < l.length), w.cell? ⟨b, o + k * 2, none⟩ = some (.int .i64 l[k].kind) ∧ w.cell? ⟨b, o + k * 2 + 1, none⟩ = some (.string l[k].text) := by
  obtain ⟨a, c, rfl, hc, h⟩ := h
  obtain ⟨b, o, rfl, hlt, h⟩ := h h0
  exact ⟨b, o, c, rfl, hc, hlt, h⟩

def secV (vi : Value) (s : Pa.Sec) : Value := .agg #[vi, .bool s.grouped, .int .i64 s.scale]
/-- A section's value. -/
def SecAt (w : World) (B : Nat) (v : Value) (s : Pa.Sec) : Prop := ∃ vi, v = secV vi s ∧ ItsAt w B vi s.items
/-- The slice reads as the sections. -/
def SecsAt (w : World) (B : Nat) (v : Value) (l : List Pa.Sec) : Prop :=
  ∃ a c, v = .slice a l.length c ∧ l.length ≤ c ∧ (0 < l.length → ∃ b o, a = some ⟨b, o, none⟩ ∧ b < B ∧ ∀ k (h : k < l.length), ∃ vi, ItsAt w B vi l[k].items ∧
    w.cell? ⟨b, o + k * 3, none⟩ = some vi ∧ w.cell? ⟨b, o + k * 3 + 1, none⟩ = some (.bool l[k].grouped) ∧ w.cell? ⟨b, o + k * 3 + 2, none⟩ = some (.int .i64 l[k].scale))
theorem SecsAt.below {w w' : World} {B C : Nat} {v : Value} {l : List Pa.Sec} (h : SecsAt w B v l) (hb : Below C w w') (hC : B ≤ C) : SecsAt w' B v l := by
  obtain ⟨a, c, e, hc, h⟩ := h
  refine ⟨a, c, e, hc, fun h0 => ?_⟩
  obtain ⟨b, o, e2, hlt, h⟩ := h h0
  have hl : b < C := Nat.lt_of_lt_of_le hlt hC
  refine ⟨b, o, e2, hlt, fun k hk => ?_⟩
  obtain ⟨vi, h1, h2, h3, h4⟩ := h k hk
  exact ⟨vi, h1.below hb hC, (hb.cell (p := ⟨b, o + k * 3, none⟩) hl).trans h2, (hb.cell (p := ⟨b, o + k * 3 + 1, none⟩) hl).trans h3, (hb.cell (p := ⟨b, o + k * 3 + 2, none⟩) hl).trans h4⟩
theorem SecsAt.mono {w : World} {B C : Nat} {v : Value} {l : List Pa.Sec} (h : SecsAt w B v l) (hC : B ≤ C) : SecsAt w C v l := by
  obtain ⟨a, c, e, hc, h⟩ := h
  refine ⟨a, c, e, hc, fun h0 => ?_⟩
  obtain ⟨b, o, e2, hlt, h⟩ := h h0
  refine ⟨b, o, e2, Nat.lt_of_lt_of_le hlt hC, fun k hk => ?_⟩
  obtain ⟨vi, h1, h2⟩ := h k hk
  exact ⟨vi, h1.mono hC, h2⟩
theorem SecsAt.form {w : World} {B : Nat} {v : Value} {l : List Pa.Sec} (h : SecsAt w B v l) : ∃ a c, v = .slice a l.length c ∧ l.length ≤ c := by
  obtain ⟨a, c, e, hc, _⟩ := h; exact ⟨a, c, e, hc⟩
theorem SecsAt.get {w : World} {B : Nat} {v : Value} {l : List Pa.Sec} (h : SecsAt w B v l) (h0 : 0 < l.length) : ∃ b o c, v = .slice (some ⟨b, o, none⟩) l.length c ∧ l.length ≤ c ∧ b < B ∧ ∀ k (h : k < l.length), ∃ vi, ItsAt w B vi l[k].items ∧
    w.cell? ⟨b, o + k * 3, none⟩ = some vi ∧ w.cell? ⟨b, o + k * 3 + 1, none⟩ = some (.bool l[k].grouped) ∧ w.cell? ⟨b, o + k * 3 + 2, none⟩ = some (.int .i64 l[k].scale) := by
  obtain ⟨a, c, rfl, hc, h⟩ := h
  obtain ⟨b, o, rfl, hlt, h⟩ := h h0
  exact ⟨b, o, c, rfl, hc, hlt, h⟩
end Go.Proofs.YticodcecillciaaDoor

/-
  DERIVED: THE SHELF's CONTRACTS AT THIS DUMP, IN PLAIN WORDS (tools/lay-plain.mjs out of 'TrydShelf.lean', which tools/lay-shelf.mjs wrote): THE SAME DECLARATIONS UNDER THE SAME NAMES: 'import', 'namespace', 'open', 'def', 'theorem' AND NOTHING ELSE: no command of the shelf's: FOR A HAND-IN. Each laying: the table of numbers ('.._ren') and one theorem, a field a fact of the dump's own or the kernel's comparison; each contract: ONE APPLICATION.
-/
namespace Go.Proofs
set_option linter.all false
open Go.Shelf
def Tryd.lays156_ren : Go.Shelf.Ren := ⟨fun | 156 => 32 | 165 => 49 | 166 => 50 | 169 => 51 | 240 => 68 | 241 => 69 | 276 => 80 | 277 => 81 | n => n, fun | 31 => 62 | 9 => 9 | 3 => 3 | 4 => 4 | 0 => 0 | 20 => 20 | 72 => 86 | 76 => 90 | 70 => 83 | 37 => 84 | 75 => 89 | 127 => 107 | 164 => 124 | 5 => 5 | 80 => 63 | n => n, fun | n => n⟩
theorem Tryd.lays156 : Go.Proofs.Lays.n156 Tryd.prog Tryd.lays156_ren := {
  mixed := by kernel_rfl
  f156 := Tryd.func32.trans (congrArg some (by kernel_rfl))
  f165 := Tryd.func49.trans (congrArg some (by kernel_rfl))
  f166 := Tryd.func50.trans (congrArg some (by kernel_rfl))
  f169 := Tryd.func51.trans (congrArg some (by kernel_rfl))
  f240 := Tryd.func68.trans (congrArg some (by kernel_rfl))
  f241 := Tryd.func69.trans (congrArg some (by kernel_rfl))
  f276 := Tryd.func80.trans (congrArg some (by kernel_rfl))
  f277 := Tryd.func81.trans (congrArg some (by kernel_rfl))
  t0 := Tryd.underlying0
  a0 := Tryd.isAgg0
  z0 := Tryd.sizeOf0
  v0 := Tryd.zeroValue0
  t3 := Tryd.underlying3
  a3 := Tryd.isAgg3
  z3 := Tryd.sizeOf3
  v3 := Tryd.zeroValue3
  t4 := Tryd.underlying4
  a4 := Tryd.isAgg4
  z4 := Tryd.sizeOf4
  v4 := Tryd.zeroValue4
  t9 := Tryd.underlying9
  a9 := Tryd.isAgg9
  z9 := Tryd.sizeOf9
  v9 := Tryd.zeroValue9
  t20 := Tryd.underlying20
  a20 := Tryd.isAgg20
  z20 := Tryd.sizeOf20
  v20 := Tryd.zeroValue20
  t31 := Tryd.underlying62
  a31 := Tryd.isAgg62
  z31 := Tryd.sizeOf62
  v31 := Tryd.zeroValue62
  t37 := Tryd.underlying84
  a37 := Tryd.isAgg84
  z37 := Tryd.sizeOf84
  v37 := Tryd.zeroValue84
  t70 := Tryd.underlying83
  a70 := Tryd.isAgg83
  z70 := Tryd.sizeOf83
  v70 := Tryd.zeroValue83
  t72 := Tryd.underlying86
  a72 := Tryd.isAgg86
  z72 := Tryd.sizeOf86
  v72 := Tryd.zeroValue86
  t75 := Tryd.underlying89
  a75 := Tryd.isAgg89
  z75 := Tryd.sizeOf89
  v75 := Tryd.zeroValue89
  t76 := Tryd.underlying90
  a76 := Tryd.isAgg90
  z76 := Tryd.sizeOf90
  v76 := Tryd.zeroValue90
  t127 := Tryd.underlying107
  a127 := Tryd.isAgg107
  z127 := Tryd.sizeOf107
  v127 := Tryd.zeroValue107
  t164 := Tryd.underlying124
  a164 := Tryd.isAgg124
  z164 := Tryd.sizeOf124
  v164 := Tryd.zeroValue124 }
theorem Tryd.Builder_Extra_156 : Builder.Extra Tryd.prog Tryd.lays156_ren := {
  sizeBuilder := by kernel_rfl
  liesBuilder := by kernel_rfl
  t5 := Tryd.underlying5
  a5 := Tryd.isAgg5
  z5 := Tryd.sizeOf5
  v5 := Tryd.zeroValue5
  infoByte := by kernel_rfl
  cellsByte := by kernel_rfl
  sizeByte := by kernel_rfl
  neB5 := by decide }
open Go.RowKit in
/-- No element: the empty string; the world is as it was. (Whatever the slice's address and capacity: a nil slice too.) (LAID: no walk: one application.) -/
theorem Tryd.strings_Join_none (a : Option Addr) (c : Nat) (sep : ByteArray) (w : World) :
    Calls Tryd.prog 32 #[.slice a 0 c, .string sep] w fun e w' => e = .returned (.string ⟨#[]⟩) ∧ w' = w := Any.strings_Join_none Tryd.lays156 Tryd.Builder_Extra_156 a c sep w
open Go.RowKit in
/-- strings.Join: "Join concatenates the elements of its first argument to create a single string. The separator string sep is placed between elements in the resulting string.": HOWEVER MANY ELEMENTS. Below the heap's end the world is as it was. (LAID: no walk: one application.) -/
theorem Tryd.strings_Join (bk o c : Nat) (xs : List ByteArray) (sep : ByteArray) (w : World) (hcells : ∀ (j : Nat) x, xs[j]? = some x → w.cell? ⟨bk, o + j, none⟩ = some (.string x)) (hbk : bk < w.heap.size) (hN : xs.length ≤ 140737488355328) (hcap : xs.length ≤ c) (hlen : (Lib.join (xs.map (·.data.toList)) sep.data.toList).length ≤ 140737488355328) :
    Calls Tryd.prog 32 #[.slice (some ⟨bk, o, none⟩) xs.length c, .string sep] w fun e w' => e = .returned (.string ⟨(Lib.join (xs.map (·.data.toList)) sep.data.toList).toArray⟩) ∧ Below w.heap.size w w' := Any.strings_Join Tryd.lays156 Tryd.Builder_Extra_156 bk o c xs sep w hcells hbk hN hcap hlen
def Tryd.lays137_ren : Go.Shelf.Ren := ⟨fun | 137 => 52 | 217 => 70 | 266 => 82 | n => n, fun | 9 => 9 | 5 => 5 | 3 => 3 | n => n, fun | n => n⟩
theorem Tryd.lays137 : Go.Proofs.Lays.n137 Tryd.prog Tryd.lays137_ren := {
  mixed := by kernel_rfl
  f137 := Tryd.func52.trans (congrArg some (by kernel_rfl))
  f217 := Tryd.func70.trans (congrArg some (by kernel_rfl))
  f266 := Tryd.func82.trans (congrArg some (by kernel_rfl))
  t3 := Tryd.underlying3
  a3 := Tryd.isAgg3
  z3 := Tryd.sizeOf3
  v3 := Tryd.zeroValue3
  t5 := Tryd.underlying5
  a5 := Tryd.isAgg5
  z5 := Tryd.sizeOf5
  v5 := Tryd.zeroValue5
  t9 := Tryd.underlying9
  a9 := Tryd.isAgg9
  z9 := Tryd.sizeOf9
  v9 := Tryd.zeroValue9 }
open Go.RowKit in
/-- strings.IndexByte: "IndexByte returns the index of the first instance of c in s, or -1 if c is not present in s.": IT RETURNS 'Lib.indexByte s c'; the world is as it was. (LAID: no walk: one application.) -/
theorem Tryd.strings_IndexByte (s : ByteArray) (c : Int) (w : World) :
    Calls Tryd.prog 52 #[.string s, .int .u8 c] w fun e w' => e = .returned (.int .i64 (Lib.indexByte s.data.toList c.toNat.toUInt8)) ∧ w' = w := Any.strings_IndexByte Tryd.lays137 s c w
def Tryd.lays144_ren : Go.Shelf.Ren := ⟨fun | 144 => 64 | 143 => 76 | 219 => 83 | 217 => 70 | 225 => 84 | 224 => 85 | 267 => 86 | 266 => 82 | 314 => 87 | n => n, fun | 9 => 9 | 4 => 4 | 3 => 3 | 5 => 5 | 46 => 104 | 146 => 119 | 51 => 118 | n => n, fun | 1 => 2 | n => n⟩
theorem Tryd.lays144 : Go.Proofs.Lays.n144 Tryd.prog Tryd.lays144_ren := {
  mixed := by kernel_rfl
  f143 := Tryd.func76.trans (congrArg some (by kernel_rfl))
  f144 := Tryd.func64.trans (congrArg some (by kernel_rfl))
  f217 := Tryd.func70.trans (congrArg some (by kernel_rfl))
  f219 := Tryd.func83.trans (congrArg some (by kernel_rfl))
  f224 := Tryd.func85.trans (congrArg some (by kernel_rfl))
  f225 := Tryd.func84.trans (congrArg some (by kernel_rfl))
  f266 := Tryd.func82.trans (congrArg some (by kernel_rfl))
  f267 := Tryd.func86.trans (congrArg some (by kernel_rfl))
  f314 := Tryd.func87.trans (congrArg some (by kernel_rfl))
  t3 := Tryd.underlying3
  a3 := Tryd.isAgg3
  z3 := Tryd.sizeOf3
  v3 := Tryd.zeroValue3
  t4 := Tryd.underlying4
  a4 := Tryd.isAgg4
  z4 := Tryd.sizeOf4
  v4 := Tryd.zeroValue4
  t5 := Tryd.underlying5
  a5 := Tryd.isAgg5
  z5 := Tryd.sizeOf5
  v5 := Tryd.zeroValue5
  t9 := Tryd.underlying9
  a9 := Tryd.isAgg9
  z9 := Tryd.sizeOf9
  v9 := Tryd.zeroValue9
  t46 := Tryd.underlying104
  a46 := Tryd.isAgg104
  z46 := Tryd.sizeOf104
  v46 := Tryd.zeroValue104
  t51 := Tryd.underlying118
  a51 := Tryd.isAgg118
  z51 := Tryd.sizeOf118
  v51 := Tryd.zeroValue118
  t146 := Tryd.underlying119
  a146 := Tryd.isAgg119
  z146 := Tryd.sizeOf119
  v146 := Tryd.zeroValue119
  g1 := by kernel_rfl }
open Go.RowKit Go.Lib in
/-- strings.Contains: "Contains reports whether substr is within s.": IT RETURNS 'Lib.contains s substr'; the world is as it was. (LAID: no walk: one application.) -/
theorem Tryd.strings_Contains (s sub : ByteArray) (m : Int) (w : World) (hs : s.size < 4294967281) (hm : w.cell? ⟨2, 0, none⟩ = some (.int .i64 m)) :
    Calls Tryd.prog 64 #[.string s, .string sub] w fun e w' => e = .returned (.bool (Lib.contains s.data.toList sub.data.toList)) ∧ w' = w := Any.strings_Contains Tryd.lays144 s sub m w hs hm
def Tryd.laysM144_ren : Go.Shelf.Ren := ⟨fun | 144 => 64 | 143 => 76 | 219 => 83 | 217 => 70 | 225 => 84 | 224 => 85 | 267 => 86 | 266 => 82 | 314 => 87 | n => n, fun | 9 => 9 | 4 => 4 | 3 => 3 | 5 => 5 | 46 => 104 | 146 => 119 | 51 => 118 | n => n, fun | 1 => 2 | n => n⟩
theorem Tryd.laysM144 : Go.Proofs.LaysM.n144 Tryd.prog Tryd.laysM144_ren := {
  mixed := by kernel_rfl
  f143 := Tryd.func76.trans (congrArg some (by kernel_rfl))
  f144 := Tryd.func64.trans (congrArg some (by kernel_rfl))
  f217 := Tryd.func70.trans (congrArg some (by kernel_rfl))
  f219 := Tryd.func83.trans (congrArg some (by kernel_rfl))
  f224 := Tryd.func85.trans (congrArg some (by kernel_rfl))
  f225 := Tryd.func84.trans (congrArg some (by kernel_rfl))
  f266 := Tryd.func82.trans (congrArg some (by kernel_rfl))
  f267 := Tryd.func86.trans (congrArg some (by kernel_rfl))
  f314 := Tryd.func87.trans (congrArg some (by kernel_rfl))
  t3 := Tryd.underlying3
  a3 := Tryd.isAgg3
  z3 := Tryd.sizeOf3
  v3 := Tryd.zeroValue3
  t4 := Tryd.underlying4
  a4 := Tryd.isAgg4
  z4 := Tryd.sizeOf4
  v4 := Tryd.zeroValue4
  t5 := Tryd.underlying5
  a5 := Tryd.isAgg5
  z5 := Tryd.sizeOf5
  v5 := Tryd.zeroValue5
  t9 := Tryd.underlying9
  a9 := Tryd.isAgg9
  z9 := Tryd.sizeOf9
  v9 := Tryd.zeroValue9
  t46 := Tryd.underlying104
  a46 := Tryd.isAgg104
  z46 := Tryd.sizeOf104
  v46 := Tryd.zeroValue104
  t51 := Tryd.underlying118
  a51 := Tryd.isAgg118
  z51 := Tryd.sizeOf118
  v51 := Tryd.zeroValue118
  t146 := Tryd.underlying119
  a146 := Tryd.isAgg119
  z146 := Tryd.sizeOf119
  v146 := Tryd.zeroValue119
  g1 := by kernel_rfl
  i3 := by kernel_rfl
  i4 := by kernel_rfl
  i5 := by kernel_rfl
  i9 := by kernel_rfl
  i46 := by kernel_rfl
  i51 := by kernel_rfl
  i146 := by kernel_rfl
  m1 := by kernel_rfl
  s1_3 := fun w h => Go.Proofs.cell_of_shapedOpen_int (zero := #[.int .i64 0]) (t := 3) h (of_decide_eq_true (by kernel_rfl)) (by kernel_rfl) rfl (by kernel_rfl) (by kernel_rfl) Tryd.underlying3 }
open Go.RowKit Go.Lib in
theorem Tryd.strings_Contains_shaped (s sub : ByteArray) (w : World) (h : w.ShapedOpen Tryd.prog) (hs : s.size < 4294967281) :
    Calls Tryd.prog 64 #[.string s, .string sub] w fun e w' => e = .returned (.bool (Lib.contains s.data.toList sub.data.toList)) ∧ w' = w := Any.strings_Contains_shaped Tryd.laysM144 s sub w h hs
def Tryd.lays99_ren : Go.Shelf.Ren := ⟨fun | 99 => 66 | 206 => 79 | n => n, fun | 9 => 9 | 4 => 4 | 3 => 3 | n => n, fun | n => n⟩
theorem Tryd.lays99 : Go.Proofs.Lays.n99 Tryd.prog Tryd.lays99_ren := {
  mixed := by kernel_rfl
  f99 := Tryd.func66.trans (congrArg some (by kernel_rfl))
  f206 := Tryd.func79.trans (congrArg some (by kernel_rfl))
  t3 := Tryd.underlying3
  a3 := Tryd.isAgg3
  z3 := Tryd.sizeOf3
  v3 := Tryd.zeroValue3
  t4 := Tryd.underlying4
  a4 := Tryd.isAgg4
  z4 := Tryd.sizeOf4
  v4 := Tryd.zeroValue4
  t9 := Tryd.underlying9
  a9 := Tryd.isAgg9
  z9 := Tryd.sizeOf9
  v9 := Tryd.zeroValue9 }
open Go.RowKit Go.Lib in
/-- strings.HasPrefix: "HasPrefix reports whether the string s begins with prefix.": IT RETURNS 'Lib.hasPrefix s prefix'; the world is as it was. (LAID: no walk: one application.) -/
theorem Tryd.strings_HasPrefix (s p : ByteArray) (w : World) :
    Calls Tryd.prog 66 #[.string s, .string p] w fun e w' => e = .returned (.bool (Lib.hasPrefix s.data.toList p.data.toList)) ∧ w' = w := Any.strings_HasPrefix Tryd.lays99 s p w
def Tryd.lays264_ren : Go.Shelf.Ren := ⟨fun | 264 => 78 | n => n, fun | 53 => 121 | 46 => 104 | n => n, fun | n => n⟩
theorem Tryd.lays264 : Go.Proofs.Lays.n264 Tryd.prog Tryd.lays264_ren := {
  mixed := by kernel_rfl
  f264 := Tryd.func78.trans (congrArg some (by kernel_rfl))
  t46 := Tryd.underlying104
  a46 := Tryd.isAgg104
  z46 := Tryd.sizeOf104
  v46 := Tryd.zeroValue104
  t53 := Tryd.underlying121
  a53 := Tryd.isAgg121
  z53 := Tryd.sizeOf121
  v53 := Tryd.zeroValue121 }
open Go.RowKit Go.Lib in
theorem Tryd.bits_Mul64 (x y : Nat) (hx : x < 18446744073709551616) (hy : y < 18446744073709551616) (w : World) :
    Calls Tryd.prog 78 #[.int .u64 x, .int .u64 y] w fun e w' => e = .returned (.tuple #[.int .u64 ((x * y / 18446744073709551616 : Nat) : Int), .int .u64 ((x * y % 18446744073709551616 : Nat) : Int)]) ∧ w' = w := Any.bits_Mul64 Tryd.lays264 x y hx hy w
def Tryd.lays105_ren : Go.Shelf.Ren := ⟨fun | 105 => 48 | 212 => 65 | 99 => 66 | 165 => 49 | 166 => 50 | 170 => 67 | 169 => 51 | 263 => 77 | 264 => 78 | 206 => 79 | 240 => 68 | 241 => 69 | 276 => 80 | 277 => 81 | n => n, fun | 9 => 9 | 3 => 3 | 4 => 4 | 20 => 20 | 0 => 0 | 46 => 104 | 109 => 105 | 5 => 5 | 72 => 86 | 76 => 90 | 51 => 118 | 146 => 119 | 53 => 121 | 148 => 122 | 70 => 83 | 37 => 84 | 75 => 89 | 127 => 107 | 164 => 124 | 80 => 63 | n => n, fun | n => n⟩
theorem Tryd.lays105 : Go.Proofs.Lays.n105 Tryd.prog Tryd.lays105_ren := {
  mixed := by kernel_rfl
  f99 := Tryd.func66.trans (congrArg some (by kernel_rfl))
  f105 := Tryd.func48.trans (congrArg some (by kernel_rfl))
  f165 := Tryd.func49.trans (congrArg some (by kernel_rfl))
  f166 := Tryd.func50.trans (congrArg some (by kernel_rfl))
  f169 := Tryd.func51.trans (congrArg some (by kernel_rfl))
  f170 := Tryd.func67.trans (congrArg some (by kernel_rfl))
  f206 := Tryd.func79.trans (congrArg some (by kernel_rfl))
  f212 := Tryd.func65.trans (congrArg some (by kernel_rfl))
  f240 := Tryd.func68.trans (congrArg some (by kernel_rfl))
  f241 := Tryd.func69.trans (congrArg some (by kernel_rfl))
  f263 := Tryd.func77.trans (congrArg some (by kernel_rfl))
  f264 := Tryd.func78.trans (congrArg some (by kernel_rfl))
  f276 := Tryd.func80.trans (congrArg some (by kernel_rfl))
  f277 := Tryd.func81.trans (congrArg some (by kernel_rfl))
  t0 := Tryd.underlying0
  a0 := Tryd.isAgg0
  z0 := Tryd.sizeOf0
  v0 := Tryd.zeroValue0
  t3 := Tryd.underlying3
  a3 := Tryd.isAgg3
  z3 := Tryd.sizeOf3
  v3 := Tryd.zeroValue3
  t4 := Tryd.underlying4
  a4 := Tryd.isAgg4
  z4 := Tryd.sizeOf4
  v4 := Tryd.zeroValue4
  t5 := Tryd.underlying5
  a5 := Tryd.isAgg5
  z5 := Tryd.sizeOf5
  v5 := Tryd.zeroValue5
  t9 := Tryd.underlying9
  a9 := Tryd.isAgg9
  z9 := Tryd.sizeOf9
  v9 := Tryd.zeroValue9
  t20 := Tryd.underlying20
  a20 := Tryd.isAgg20
  z20 := Tryd.sizeOf20
  v20 := Tryd.zeroValue20
  t37 := Tryd.underlying84
  a37 := Tryd.isAgg84
  z37 := Tryd.sizeOf84
  v37 := Tryd.zeroValue84
  t46 := Tryd.underlying104
  a46 := Tryd.isAgg104
  z46 := Tryd.sizeOf104
  v46 := Tryd.zeroValue104
  t51 := Tryd.underlying118
  a51 := Tryd.isAgg118
  z51 := Tryd.sizeOf118
  v51 := Tryd.zeroValue118
  t53 := Tryd.underlying121
  a53 := Tryd.isAgg121
  z53 := Tryd.sizeOf121
  v53 := Tryd.zeroValue121
  t70 := Tryd.underlying83
  a70 := Tryd.isAgg83
  z70 := Tryd.sizeOf83
  v70 := Tryd.zeroValue83
  t72 := Tryd.underlying86
  a72 := Tryd.isAgg86
  z72 := Tryd.sizeOf86
  v72 := Tryd.zeroValue86
  t75 := Tryd.underlying89
  a75 := Tryd.isAgg89
  z75 := Tryd.sizeOf89
  v75 := Tryd.zeroValue89
  t76 := Tryd.underlying90
  a76 := Tryd.isAgg90
  z76 := Tryd.sizeOf90
  v76 := Tryd.zeroValue90
  t109 := Tryd.underlying105
  a109 := Tryd.isAgg105
  z109 := Tryd.sizeOf105
  v109 := Tryd.zeroValue105
  t127 := Tryd.underlying107
  a127 := Tryd.isAgg107
  z127 := Tryd.sizeOf107
  v127 := Tryd.zeroValue107
  t146 := Tryd.underlying119
  a146 := Tryd.isAgg119
  z146 := Tryd.sizeOf119
  v146 := Tryd.zeroValue119
  t148 := Tryd.underlying122
  a148 := Tryd.isAgg122
  z148 := Tryd.sizeOf122
  v148 := Tryd.zeroValue122
  t164 := Tryd.underlying124
  a164 := Tryd.isAgg124
  z164 := Tryd.sizeOf124
  v164 := Tryd.zeroValue124 }
theorem Tryd.Builder_Extra_105 : Builder.Extra Tryd.prog Tryd.lays105_ren := {
  sizeBuilder := by kernel_rfl
  liesBuilder := by kernel_rfl
  t5 := Tryd.underlying5
  a5 := Tryd.isAgg5
  z5 := Tryd.sizeOf5
  v5 := Tryd.zeroValue5
  infoByte := by kernel_rfl
  cellsByte := by kernel_rfl
  sizeByte := by kernel_rfl
  neB5 := by decide }
open Go.RowKit Go.Lib in
/-- **strings.Repeat: count ≥ 0, the result within one allocation: count copies of s.** (LAID: no walk: one application.) -/
theorem Tryd.strings_Repeat (s : ByteArray) (c : Nat) (w : World) (hc : c ≤ 9223372036854775807) (hlen : s.size * c ≤ 140737488355328) :
    Calls Tryd.prog 48 #[.string s, .int .i64 c] w fun e w' => e = .returned (.string ⟨(Lib.repeatL s.data.toList c).toArray⟩) ∧ Below w.heap.size w w' := Any.strings_Repeat Tryd.lays105 Tryd.Builder_Extra_105 s c w hc hlen
def Tryd.lays197_ren : Go.Shelf.Ren := ⟨fun | 197 => 58 | 260 => 74 | n => n, fun | 9 => 9 | 21 => 21 | 3 => 3 | 4 => 4 | 5 => 5 | 105 => 97 | 119 => 109 | 0 => 0 | 46 => 104 | 139 => 112 | 138 => 111 | n => n, fun | 3 => 0 | 4 => 1 | n => n⟩
theorem Tryd.lays197 : Go.Proofs.Lays.n197 Tryd.prog Tryd.lays197_ren := {
  mixed := by kernel_rfl
  f197 := Tryd.func58.trans (congrArg some (by kernel_rfl))
  f260 := Tryd.func74.trans (congrArg some (by kernel_rfl))
  t0 := Tryd.underlying0
  a0 := Tryd.isAgg0
  z0 := Tryd.sizeOf0
  v0 := Tryd.zeroValue0
  t3 := Tryd.underlying3
  a3 := Tryd.isAgg3
  z3 := Tryd.sizeOf3
  v3 := Tryd.zeroValue3
  t4 := Tryd.underlying4
  a4 := Tryd.isAgg4
  z4 := Tryd.sizeOf4
  v4 := Tryd.zeroValue4
  t5 := Tryd.underlying5
  a5 := Tryd.isAgg5
  z5 := Tryd.sizeOf5
  v5 := Tryd.zeroValue5
  t9 := Tryd.underlying9
  a9 := Tryd.isAgg9
  z9 := Tryd.sizeOf9
  v9 := Tryd.zeroValue9
  t21 := Tryd.underlying21
  a21 := Tryd.isAgg21
  z21 := Tryd.sizeOf21
  v21 := Tryd.zeroValue21
  t46 := Tryd.underlying104
  a46 := Tryd.isAgg104
  z46 := Tryd.sizeOf104
  v46 := Tryd.zeroValue104
  t105 := Tryd.underlying97
  a105 := Tryd.isAgg97
  z105 := Tryd.sizeOf97
  v105 := Tryd.zeroValue97
  t119 := Tryd.underlying109
  a119 := Tryd.isAgg109
  z119 := Tryd.sizeOf109
  t138 := Tryd.underlying111
  a138 := Tryd.isAgg111
  z138 := Tryd.sizeOf111
  v138 := Tryd.zeroValue111
  t139 := Tryd.underlying112
  a139 := Tryd.isAgg112
  z139 := Tryd.sizeOf112
  v139 := Tryd.zeroValue112
  g3 := by kernel_rfl
  g4 := by kernel_rfl }
open Go.RowKit Go.Lib in
/-- **unicode/utf8.DecodeRuneInString AT EVERY STRING.** (LAID: no walk: one application.) -/
theorem Tryd.utf8_DecodeRuneInString (s : ByteArray) (w : World) (hT : Lib.Utf8Tabs 0 1 w) :
    Calls Tryd.prog 58 #[.string s] w fun e w' => e = .returned (.tuple #[.int .i32 (Lib.decodeGo s).1, .int .i64 (Lib.decodeGo s).2]) ∧ Below w.heap.size w w' := Any.utf8_DecodeRuneInString Tryd.lays197 s w hT
def Tryd.lays107_ren : Go.Shelf.Ren := ⟨fun | 107 => 61 | 108 => 75 | n => n, fun | 28 => 67 | 3 => 3 | 4 => 4 | 0 => 0 | n => n, fun | n => n⟩
theorem Tryd.lays107 : Go.Proofs.Lays.n107 Tryd.prog Tryd.lays107_ren := {
  mixed := by kernel_rfl
  f107 := Tryd.func61.trans (congrArg some (by kernel_rfl))
  f108 := Tryd.func75.trans (congrArg some (by kernel_rfl))
  t0 := Tryd.underlying0
  a0 := Tryd.isAgg0
  z0 := Tryd.sizeOf0
  v0 := Tryd.zeroValue0
  t3 := Tryd.underlying3
  a3 := Tryd.isAgg3
  z3 := Tryd.sizeOf3
  v3 := Tryd.zeroValue3
  t4 := Tryd.underlying4
  a4 := Tryd.isAgg4
  z4 := Tryd.sizeOf4
  v4 := Tryd.zeroValue4
  t28 := Tryd.underlying67
  a28 := Tryd.isAgg67
  z28 := Tryd.sizeOf67
  v28 := Tryd.zeroValue67 }
open Go.Lib in
/-- slices.Contains at []int: "Contains reports whether v is present in s.": IT RETURNS 'elements.contains v'; the world is as it was. ITS CALLEE slices.Index IS MET BY ITS OWN CONTRACT OFF THE SHELF (lay that first): no loop is walked here. (LAID: no walk: one application.) -/
theorem Tryd.slices_Contains_int (b off n c : Nat) (zs : List Int) (x : Int) (w : World) (hz : n ≤ zs.length) (hbig : n ≤ 9223372036854775807) (hc : ∀ j, j < zs.length → w.cell? ⟨b, off + j, none⟩ = some (.int .i64 (zs.getD j 0))) :
    Calls Tryd.prog 61 #[.slice (some ⟨b, off, none⟩) n c, .int .i64 x] w fun e w' => e = .returned (.bool ((zs.take n).contains x)) ∧ w' = w := Any.slices_Contains_int Tryd.lays107 b off n c zs x w hz hbig hc
open Go.Lib in
/-- The same at a slice of length 0, a nil one too. (LAID: no walk: one application.) -/
theorem Tryd.slices_Contains_int_empty (a : Option Addr) (c : Nat) (x : Int) (w : World) :
    Calls Tryd.prog 61 #[.slice a 0 c, .int .i64 x] w fun e w' => e = .returned (.bool false) ∧ w' = w := Any.slices_Contains_int_empty Tryd.lays107 a c x w
def Tryd.laysValid_ren : Go.Shelf.Ren := ⟨fun | 196 => 53 | 259 => 71 | n => n, fun | 9 => 9 | 4 => 4 | 3 => 3 | 5 => 5 | 12 => 12 | 119 => 109 | 0 => 0 | 46 => 104 | 139 => 112 | 138 => 111 | 53 => 121 | n => n, fun | 3 => 0 | 4 => 1 | n => n⟩
theorem Tryd.laysValid : Go.Proofs.Lays.n196 Tryd.prog Tryd.laysValid_ren := {
  mixed := by kernel_rfl
  f196 := Tryd.func53.trans (congrArg some (by kernel_rfl))
  f259 := Tryd.func71.trans (congrArg some (by kernel_rfl))
  t0 := Tryd.underlying0
  a0 := Tryd.isAgg0
  z0 := Tryd.sizeOf0
  v0 := Tryd.zeroValue0
  t3 := Tryd.underlying3
  a3 := Tryd.isAgg3
  z3 := Tryd.sizeOf3
  v3 := Tryd.zeroValue3
  t4 := Tryd.underlying4
  a4 := Tryd.isAgg4
  z4 := Tryd.sizeOf4
  v4 := Tryd.zeroValue4
  t5 := Tryd.underlying5
  a5 := Tryd.isAgg5
  z5 := Tryd.sizeOf5
  v5 := Tryd.zeroValue5
  t9 := Tryd.underlying9
  a9 := Tryd.isAgg9
  z9 := Tryd.sizeOf9
  v9 := Tryd.zeroValue9
  t12 := Tryd.underlying12
  a12 := Tryd.isAgg12
  z12 := Tryd.sizeOf12
  v12 := Tryd.zeroValue12
  t46 := Tryd.underlying104
  a46 := Tryd.isAgg104
  z46 := Tryd.sizeOf104
  v46 := Tryd.zeroValue104
  t53 := Tryd.underlying121
  a53 := Tryd.isAgg121
  z53 := Tryd.sizeOf121
  v53 := Tryd.zeroValue121
  t119 := Tryd.underlying109
  a119 := Tryd.isAgg109
  z119 := Tryd.sizeOf109
  t138 := Tryd.underlying111
  a138 := Tryd.isAgg111
  z138 := Tryd.sizeOf111
  v138 := Tryd.zeroValue111
  t139 := Tryd.underlying112
  a139 := Tryd.isAgg112
  z139 := Tryd.sizeOf112
  v139 := Tryd.zeroValue112
  g3 := by kernel_rfl
  g4 := by kernel_rfl }
open Go.RowKit Go.Lib in
/-- unicode/utf8.ValidString. (LAID: no walk: one application.) -/
theorem Tryd.utf8_ValidString (s : ByteArray) (w : World) (hs : s.size ≤ 9223372036854775807) (hT : Lib.Utf8Tabs 0 1 w) :
    Calls Tryd.prog 53 #[.string s] w fun e w' => e = .returned (.bool (Lib.validD s.data.toList)) ∧ Below w.heap.size w w' := Any.utf8_ValidString Tryd.laysValid s w hs hT

end Go.Proofs

/- Patterns in the program: is an item right? -/
namespace Go.Proofs.YticodcecillciaaDoor
set_option linter.all false
open Go.RowKit

/-- The library's tables for runes are laid. -/
def U8 (w : World) : Prop := Lib.Utf8Tabs 0 1 w ∧ 0 < w.heap.size ∧ 1 < w.heap.size
theorem U8.below {w w' : World} {B : Nat} (h : U8 w) (hb : Below B w w') (hB : w.heap.size ≤ B) : U8 w' := by
  obtain ⟨⟨h1, h2⟩, l1, l2⟩ := h
  have hs := hb.size
  refine ⟨⟨fun c hc => (hb.cell (p := ⟨0, c, none⟩) (Nat.lt_of_lt_of_le l1 hB)).trans (h1 c hc), fun i hi => ⟨(hb.cell (p := ⟨1, 2 * i, none⟩) (Nat.lt_of_lt_of_le l2 hB)).trans (h2 i hi).1, (hb.cell (p := ⟨1, 2 * i + 1, none⟩) (Nat.lt_of_lt_of_le l2 hB)).trans (h2 i hi).2⟩⟩, by omega, by omega⟩
theorem U8.on {w w' : World} (h : U8 w) (hb : Below w.heap.size w w') : U8 w' := h.below hb (Nat.le_refl _)

def itV (x : Pa.It) : Value := .agg #[.int .i64 x.kind, .string x.text]

theorem ba_dec (t : ByteArray) (l : List UInt8) : decide (t = Pa.ba l) = decide (t.toList = l) := by
  rw [toList_data]
  by_cases h : t = Pa.ba l
  · rw [decide_eq_true h, h]; simp [Pa.ba]
  · rw [decide_eq_false h]
    symm
    rw [decide_eq_false_iff_not]
    intro e
    apply h
    cases t; simp [Pa.ba] at e ⊢; rw [← e]

theorem decode_call (s : ByteArray) (w : World) (hu : U8 w) : Calls Tryd.prog 58 #[.string s] w (RetB (.tuple #[.int .i32 ((Lib.decodeGo s).1 : Nat), .int .i64 ((Lib.decodeGo s).2 : Nat)]) w) :=
  Tryd.utf8_DecodeRuneInString s w hu.1

set_option maxRecDepth 100000 in
set_option maxHeartbeats 2000000 in
theorem pa_right_any (x : Pa.It) (w : World) (hu : U8 w) : Calls Tryd.prog 38 #[itV x] w (RetB (.bool (Pa.rightI x)) w) := by
  obtain ⟨k, t⟩ := x
  have hd := fun w1 (h : U8 w1) => decode_call t w1 h
  obtain ⟨R, hR⟩ : ∃ R, R = (Lib.decodeGo t).1 := ⟨_, rfl⟩
  obtain ⟨K, hK⟩ : ∃ K, K = (Lib.decodeGo t).2 := ⟨_, rfl⟩
  rw [← hR, ← hK] at hd
  have hr : Pa.rightI ⟨k, t⟩ = if k = 1 then decide (K = t.size) && (decide (0 < K) && (!decide (R = 65533) || decide (K = 3))) else if k = 2 then decide (t = Pa.ba [48]) || (decide (t = Pa.ba [35]) || decide (t = Pa.ba [63])) else if k = 5 then decide (t = Pa.ba [43]) || decide (t = Pa.ba [45]) else decide (1 ≤ k) && (decide (k ≤ 9) && decide (t.size = 0)) := by
    rw [hR, hK]; rfl
  obtain ⟨r, hrr⟩ : ∃ r, r = Pa.rightI ⟨k, t⟩ := ⟨_, rfl⟩
  rw [← hrr] at hr ⊢
  clear hrr hR hK
  unfold itV
  have HD := Lib.hid hd
  have HU := Lib.hid hu
  have HR := Lib.hid hr
  clear hd hu hr
  by_cases h1 : k = 1
  · subst h1
    have hr := HR.out
    rw [if_pos rfl] at hr
    obtain ⟨b1, hb1⟩ : ∃ b, ((K : Int) == (t.size : Int)) = b := ⟨_, rfl⟩
    obtain ⟨b2, e2⟩ : ∃ b, decide (0 < K) = b := ⟨_, rfl⟩
    obtain ⟨b3, hb3⟩ : ∃ b, ((R : Int) == 65533) = b := ⟨_, rfl⟩
    obtain ⟨b4, hb4⟩ : ∃ b, ((K : Int) == 3) = b := ⟨_, rfl⟩
    have e1 : decide (K = t.size) = b1 := by rw [← hb1, Bool.eq_iff_iff]; simp; omega
    have e3 : decide (R = 65533) = b3 := by rw [← hb3, Bool.eq_iff_iff]; simp; omega
    have e4 : decide (K = 3) = b4 := by rw [← hb4, Bool.eq_iff_iff]; simp; omega
    rw [e1, e2, e3, e4] at hr
    have hb3' : ((R : Int) != 65533) = !b3 := by rw [bne, hb3]
    clear HR e1 e3 e4
    have HR := Lib.hid hr; clear hr
    cases b1 <;> cases b2 <;> cases b3 <;> cases b4 <;>
      (first | (replace e2 := of_decide_eq_false e2) | (replace e2 := of_decide_eq_true e2)) <;>
      (go_enter Tryd.func38, Tryd.ntmps38
       go_wp2_with (go_at_call 58; (with_reducible refine (HD.out _ (HU.out.on (by (repeat (first | exact Below.refl _ _ | assumption | refine Below.setCell ?_ (by first | omega | (simp <;> omega)) _ | refine Below.alloc ?_ (by first | omega | (simp <;> omega)) _ | refine Below.drew ?_ | refine below_drewN' ?_ _))))).mono ?_); rintro e w1 ⟨rfl, hb_w1⟩; have hB_w1 : Below (w).heap.size (w) w1 := Below.trans (by (repeat (first | exact Below.refl _ _ | assumption | refine Below.setCell ?_ (by first | omega | (simp <;> omega)) _ | refine Below.alloc ?_ (by first | omega | (simp <;> omega)) _ | refine Below.drew ?_ | refine below_drewN' ?_ _))) (hb_w1.mono (by first | omega | (simp <;> omega))); obtain ⟨hc_w1, hf_w1⟩ := bcell hb_w1; have hz_w1 := hb_w1.size; (try simp only [size_drew', size_drewN', World.size_alloc, World.size_setCell] at hz_w1); have hl0_w1 : w.heap.size < w1.heap.size := (by omega); have hm0_w1 : w.heap.size ≤ w1.heap.size := (by omega); have hn0_w1 : ¬ w.heap.size = w1.heap.size := (by omega); have hq0_w1 : ¬ w1.heap.size = w.heap.size := (by omega); have hr0_w1 := fun o => hc_w1 (w.heap.size) o (by (try simp only [size_drew', size_drewN', World.size_alloc, World.size_setCell]); omega); have hg0_w1 := fun o => hf_w1 (w.heap.size) o (by (try simp only [size_drew', size_drewN', World.size_alloc, World.size_setCell]); omega))
       (refine bodyPost_ret (v := .bool r) (by (simp [results, Tryd.results38, go_sem, HR.out]; done)) rfl (RetB.of rfl (by (repeat (first | exact Below.refl _ _ | assumption | refine Below.setCell ?_ (by first | omega | (simp <;> omega)) _ | refine Below.alloc ?_ (by first | omega | (simp <;> omega)) _ | refine Below.drew ?_ | refine below_drewN' ?_ _))))))
  · have h1' : (k == 1) = false := beq_eq_false_iff_ne.2 h1
    have hr := HR.out
    rw [if_neg h1] at hr
    clear HR HD HU
    by_cases h2 : k = 2
    · subst h2
      rw [if_pos rfl] at hr
      rw [ba_dec, ba_dec, ba_dec] at hr
      obtain ⟨b1, q1⟩ : ∃ b, decide (t.toList = [48]) = b := ⟨_, rfl⟩
      obtain ⟨b2, q2⟩ : ∃ b, decide (t.toList = [35]) = b := ⟨_, rfl⟩
      obtain ⟨b3, q3⟩ : ∃ b, decide (t.toList = [63]) = b := ⟨_, rfl⟩
      rw [q1, q2, q3] at hr
      have HR := Lib.hid hr; clear hr
      cases b1 <;> cases b2 <;> cases b3 <;>
        (first | (replace q1 := of_decide_eq_false q1) | (replace q1 := of_decide_eq_true q1)) <;>
        (first | (replace q2 := of_decide_eq_false q2) | (replace q2 := of_decide_eq_true q2)) <;>
        (first | (replace q3 := of_decide_eq_false q3) | (replace q3 := of_decide_eq_true q3)) <;>
        (first | (exfalso; rw [q1] at q2; cases q2; done) | (exfalso; rw [q1] at q3; cases q3; done) | (exfalso; rw [q2] at q3; cases q3; done) | skip) <;>
        (go_enter Tryd.func38, Tryd.ntmps38
         go_wp2_with fail
         (refine bodyPost_ret (v := .bool r) (by (simp [results, Tryd.results38, go_sem, HR.out, q1, q2, q3]; done)) rfl (RetB.of rfl (by (repeat (first | exact Below.refl _ _ | assumption | refine Below.setCell ?_ (by first | omega | (simp <;> omega)) _ | refine Below.alloc ?_ (by first | omega | (simp <;> omega)) _ | refine Below.drew ?_ | refine below_drewN' ?_ _))))))
    · have h2' : (k == 2) = false := beq_eq_false_iff_ne.2 h2
      rw [if_neg h2] at hr
      by_cases h5 : k = 5
      · subst h5
        rw [if_pos rfl] at hr
        rw [ba_dec, ba_dec] at hr
        obtain ⟨b1, q1⟩ : ∃ b, decide (t.toList = [43]) = b := ⟨_, rfl⟩
        obtain ⟨b2, q2⟩ : ∃ b, decide (t.toList = [45]) = b := ⟨_, rfl⟩
        rw [q1, q2] at hr
        have HR := Lib.hid hr; clear hr
        cases b1 <;> cases b2 <;>
          (first | (replace q1 := of_decide_eq_false q1) | (replace q1 := of_decide_eq_true q1)) <;>
          (first | (replace q2 := of_decide_eq_false q2) | (replace q2 := of_decide_eq_true q2)) <;>
          (first | (exfalso; rw [q1] at q2; cases q2; done) | skip) <;>
          (go_enter Tryd.func38, Tryd.ntmps38
           go_wp2_with fail
           (refine bodyPost_ret (v := .bool r) (by (simp [results, Tryd.results38, go_sem, HR.out, q1, q2]; done)) rfl (RetB.of rfl (by (repeat (first | exact Below.refl _ _ | assumption | refine Below.setCell ?_ (by first | omega | (simp <;> omega)) _ | refine Below.alloc ?_ (by first | omega | (simp <;> omega)) _ | refine Below.drew ?_ | refine below_drewN' ?_ _))))))
      · have h5' : (k == 5) = false := beq_eq_false_iff_ne.2 h5
        rw [if_neg h5] at hr
        clear h1 h2 h5
        have q3 : decide (t.toList = []) = decide (t.size = 0) := by
          by_cases h : t.size = 0
          · rw [decide_eq_true h, decide_eq_true (List.isEmpty_iff.1 (isEmpty_of_zero h))]
          · rw [decide_eq_false h, decide_eq_false (fun e => by have := isEmpty_of_pos (s := t) (by omega); rw [e] at this; cases this)]
        obtain ⟨b1, hb1⟩ : ∃ b, decide (1 ≤ k) = b := ⟨_, rfl⟩
        obtain ⟨b2, hb2⟩ : ∃ b, decide (k ≤ 9) = b := ⟨_, rfl⟩
        obtain ⟨b3, hb3⟩ : ∃ b, decide (t.size = 0) = b := ⟨_, rfl⟩
        rw [hb1, hb2, hb3] at hr
        rw [hb3] at q3
        clear hb3
        have HR := Lib.hid hr; clear hr
        cases b1 <;> cases b2 <;> cases b3 <;>
          (first | (replace q3 := of_decide_eq_false q3) | (replace q3 := of_decide_eq_true q3)) <;>
          (go_enter Tryd.func38, Tryd.ntmps38
           go_wp2_with fail
           (refine bodyPost_ret (v := .bool r) (by (simp [results, Tryd.results38, go_sem, HR.out, hb1, hb2, q3]; done)) rfl (RetB.of rfl (by (repeat (first | exact Below.refl _ _ | assumption | refine Below.setCell ?_ (by first | omega | (simp <;> omega)) _ | refine Below.alloc ?_ (by first | omega | (simp <;> omega)) _ | refine Below.drew ?_ | refine below_drewN' ?_ _))))))
end Go.Proofs.YticodcecillciaaDoor

/- Patterns in the program: items are counted, cut, looked through for two digits side by side. -/
namespace Go.Proofs.YticodcecillciaaDoor
set_option linter.all false
open Go.RowKit

theorem cnt_take (q : Int) (l : List Pa.It) (k : Nat) (h : k < l.length) : Pa.cnt q (l.take (k + 1)) = Pa.cnt q (l.take k) + if l[k].kind = q then 1 else 0 := by
  unfold Pa.cnt
  rw [List.take_succ_eq_append_getElem h, List.countP_append]
  by_cases e : l[k].kind = q <;> simp [e]
theorem cnt_le (q : Int) (l : List Pa.It) : Pa.cnt q l ≤ l.length := List.countP_le_length

set_option maxRecDepth 100000 in
set_option maxHeartbeats 2000000 in
theorem pa_digits_any (v : Value) (l : List Pa.It) (B : Nat) (w : World) (h : ItsAt w B v l) (hB : B ≤ w.heap.size) (hl : l.length ≤ 1000000) : Calls Tryd.prog 22 #[v] w (RetB (.int .i64 (Pa.cnt 2 l : Nat)) w) := by
  obtain ⟨r, hr⟩ : ∃ r, r = Pa.cnt 2 l := ⟨_, rfl⟩
  rw [← hr]
  by_cases h0 : 0 < l.length
  · obtain ⟨b, o, c, rfl, hc, hb, hh⟩ := h.get h0
    obtain ⟨n, hn⟩ : ∃ n, n = l.length := ⟨_, rfl⟩
    rw [← hn] at hl ⊢
    have hbw : b < w.heap.size := by omega
    have HH := Lib.hid hh; have HN := Lib.hid hn; have HR := Lib.hid hr
    clear hh hn hr h h0 hc hb
    go_enter Tryd.func22, Tryd.ntmps22
    go_wp2_with fail
    go_loopw [3, 8] (fun s i wr => ∃ k : Nat, k ≤ n ∧ i = .int .i64 k ∧ s = .int .i64 (Pa.cnt 2 (l.take k) : Nat) ∧ Below w.heap.size w wr) (fun _ i _ => n - (intOf i).toNat)
    case atStart => exact ⟨0, Nat.zero_le _, rfl, rfl, Below.refl _ _⟩
    case round =>
      obtain ⟨k, hk, rfl, rfl, hbr⟩ := hrel
      have hzr := hbr.size
      by_cases hlt : k < n
      · have hkl : k < l.length := by rw [← HN.out]; exact hlt
        obtain ⟨c0, c1⟩ := HH.out k hkl
        replace c0 := (hbr.cell (p := ⟨b, o + k * 2, none⟩) hbw).trans c0
        replace c1 := (hbr.cell (p := ⟨b, o + k * 2 + 1, none⟩) hbw).trans c1
        have hct := cnt_take 2 l k hkl
        have hcl : Pa.cnt 2 (l.take k) ≤ k := Nat.le_trans (cnt_le 2 _) (by rw [List.length_take]; omega)
        obtain ⟨q, hq⟩ : ∃ q, q = l[k].kind := ⟨_, rfl⟩
        obtain ⟨m, hm⟩ : ∃ m, m = Pa.cnt 2 (l.take k) := ⟨_, rfl⟩
        rw [← hq] at c0 hct
        rw [← hm] at hct hcl ⊢
        clear hq hm
        have i1 : (k : Int) < (n : Int) := by omega
        by_cases he : q = 2
        · subst he
          rw [if_pos rfl] at hct
          have HCT := Lib.hid hct; clear hct
          go_wp2
          go_roundw
          case rel => exact ⟨k + 1, by omega, by go_num, by rw [HCT.out]; go_num, by (repeat (first | exact Below.refl _ _ | assumption | refine Below.setCell ?_ (by first | omega | (simp <;> omega)) _ | refine Below.alloc ?_ (by first | omega | (simp <;> omega)) _ | refine Below.drew ?_ | refine below_drewN' ?_ _))⟩
          case measure => simp [intOf]; omega
        · rw [if_neg he] at hct
          have HCT := Lib.hid hct; clear hct
          have he' : (q == 2) = false := beq_eq_false_iff_ne.2 he
          clear he
          go_wp2
          go_roundw
          case rel => exact ⟨k + 1, by omega, by go_num, by rw [HCT.out]; rfl, by (repeat (first | exact Below.refl _ _ | assumption | refine Below.setCell ?_ (by first | omega | (simp <;> omega)) _ | refine Below.alloc ?_ (by first | omega | (simp <;> omega)) _ | refine Below.drew ?_ | refine below_drewN' ?_ _))⟩
          case measure => simp [intOf]; omega
      · have hkk : k = n := by omega
        subst hkk
        rw [List.take_of_length_le (by rw [← HN.out]; exact Nat.le_refl _), ← HR.out]
        go_wp2
        go_ret
        exact RetB.of rfl hbr
  · have e1 : l = [] := List.length_eq_zero_iff.1 (by omega)
    subst e1
    obtain ⟨a, c, rfl, _⟩ := h.form
    obtain rfl : r = 0 := hr
    clear h h0
    simp only [List.length_nil]
    go_enter Tryd.func22, Tryd.ntmps22
    go_wp2_with fail
    go_loopw [3, 8] (fun s i wr => i = .int .i64 0 ∧ s = .int .i64 0 ∧ Below w.heap.size w wr) (fun _ i _ => 0)
    case atStart => exact ⟨rfl, rfl, Below.refl _ _⟩
    case round =>
      obtain ⟨rfl, rfl, hbw⟩ := hrel
      go_wp2
      go_ret
      exact RetB.of rfl hbw
end Go.Proofs.YticodcecillciaaDoor

/- Patterns in the program: items are cut ahead of the first one of some kinds. -/
namespace Go.Proofs.YticodcecillciaaDoor
set_option linter.all false
open Go.RowKit

/-- A row of ints at a place, in a block that lies below B. -/
def IntsAt (w : World) (B : Nat) (v : Value) (l : List Int) : Prop :=
  ∃ b c, v = .slice (some ⟨b, 0, none⟩) l.length c ∧ b < B ∧ ∀ j, j < l.length → w.cell? ⟨b, j, none⟩ = some (.int .i64 (l.getD j 0))

theorem contains_call (b : Nat) (c : Nat) (l : List Int) (x : Int) (w : World) (hl : l.length ≤ 100) (h : ∀ j, j < l.length → w.cell? ⟨b, j, none⟩ = some (.int .i64 (l.getD j 0))) :
    Calls Tryd.prog 61 #[.slice (some ⟨b, 0, none⟩) l.length c, .int .i64 x] w (Ret0 (.bool (l.contains x)) w) := by
  have := Tryd.slices_Contains_int b 0 l.length c l x w (Nat.le_refl _) (by omega) (fun j hj => by rw [Nat.zero_add]; exact h j hj)
  rw [List.take_length] at this
  exact this.mono fun e w' ⟨he, hw⟩ => ⟨he, hw.symm⟩

/-- Is an item of one of the kinds? -/
theorem pa_cut1_any (x : Pa.It) (p b c : Nat) (l : List Int) (w : World) (hl : l.length ≤ 100) (hp : w.cell? ⟨p, 0, none⟩ = some (.slice (some ⟨b, 0, none⟩) l.length c)) (hpl : p < w.heap.size) (hb : b < w.heap.size)
    (h : ∀ j, j < l.length → w.cell? ⟨b, j, none⟩ = some (.int .i64 (l.getD j 0))) :
    Calls Tryd.prog 60 #[itV x, .pointer (some ⟨p, 0, none⟩)] w (RetB (.bool (l.contains x.kind)) w) := by
  obtain ⟨k, t⟩ := x
  obtain ⟨r, hr⟩ : ∃ r, r = l.contains k := ⟨_, rfl⟩
  show Calls _ _ _ _ (RetB (.bool (l.contains k)) w)
  have hc := fun w1 h1 => contains_call b c l k w1 hl h1
  rw [← hr] at hc ⊢
  obtain ⟨n, hn⟩ : ∃ n, n = l.length := ⟨_, rfl⟩
  rw [← hn] at hc hp h
  have HC := Lib.hid hc; have HH := Lib.hid h
  unfold itV
  clear hr hn hc h
  go_enter Tryd.func60, Tryd.ntmps60
  go_wp2_with (go_at_call 61; (with_reducible refine (HC.out _ (fun j hj => (World.cell?_alloc_old _ _ _ (by show b ≠ _; omega)).trans (HH.out j hj))).mono ?_); rintro e w' ⟨rfl, rfl⟩)
  go_ret
  exact RetB.of rfl (by (repeat (first | exact Below.refl _ _ | assumption | refine Below.setCell ?_ (by first | omega | (simp <;> omega)) _ | refine Below.alloc ?_ (by first | omega | (simp <;> omega)) _ | refine Below.drew ?_ | refine below_drewN' ?_ _)))
end Go.Proofs.YticodcecillciaaDoor
