/- A world in which every listed package-level variable holds what its initialiser lays: the witness of this seat's rows. -/
import Derived.Test.YtiglekomfgfilaaGreatDoorRows
import Derived.WalkKit
import Derived.ProofKit
import Derived.Deep.DeepHandedRow
import Derived.Deep.DeepWitnessRowRef
import Derived.Lib.LaidTab
import Derived.Test.YtiglekomfgfilaaGreatDoorProg
import Derived.WalkSpells
import Derived.WalkLawsBesides
import Derived.Lib.Hide
import Derived.Laws.CopyOwn
import Derived.OwnWalk
import Derived.Laws.Rows
import Derived.OpenShut
import Derived.Lib.SmallJoins
import Derived.Carry
import Derived.ChangeSlices
import Derived.Deep.QuietTactic
namespace Go.Proofs.YtiglekomfgfilaaGreatDoor
set_option linter.all false
open Go.ChangeShapes Go.WideShapes Go.ChangeAt Go.RowKit

noncomputable def low : Nat := (World.holding Tryz.prog default ⟨#[], #[], []⟩).heap.size

/-- What a variable's block holds instead. -/
def setVar (g : Nat) (cs : Array Value) (heap : Array Obj) : Array Obj := heap.modify g fun
  | .cells _ t frozen => .cells cs t frozen
  | o => o

noncomputable def laidWorld (os : Os) : World :=
  let w0 := World.holding Tryz.prog os ⟨#[.cells #[.string ⟨#[118, 97, 108, 117, 101, 32, 111, 117, 116, 32, 111, 102, 32, 114, 97, 110, 103, 101]⟩] 240, .cells #[.string ⟨#[105, 110, 118, 97, 108, 105, 100, 32, 115, 121, 110, 116, 97, 120]⟩] 240], #[], []⟩
  { w0 with heap := (setVar 4 #[.int .u8 240, .int .u8 240, .int .u8 240, .int .u8 240, .int .u8 240, .int .u8 240, .int .u8 240, .int .u8 240, .int .u8 240, .int .u8 240, .int .u8 240, .int .u8 240, .int .u8 240, .int .u8 240, .int .u8 240, .int .u8 240, .int .u8 240, .int .u8 240, .int .u8 240, .int .u8 240, .int .u8 240, .int .u8 240, .int .u8 240, .int .u8 240, .int .u8 240, .int .u8 240, .int .u8 240, .int .u8 240, .int .u8 240, .int .u8 240, .int .u8 240, .int .u8 240, .int .u8 240, .int .u8 240, .int .u8 240, .int .u8 240, .int .u8 240, .int .u8 240, .int .u8 240, .int .u8 240, .int .u8 240, .int .u8 240, .int .u8 240, .int .u8 240, .int .u8 240, .int .u8 240, .int .u8 240, .int .u8 240, .int .u8 240, .int .u8 240, .int .u8 240, .int .u8 240, .int .u8 240, .int .u8 240, .int .u8 240, .int .u8 240, .int .u8 240, .int .u8 240, .int .u8 240, .int .u8 240, .int .u8 240, .int .u8 240, .int .u8 240, .int .u8 240, .int .u8 240, .int .u8 240, .int .u8 240, .int .u8 240, .int .u8 240, .int .u8 240, .int .u8 240, .int .u8 240, .int .u8 240, .int .u8 240, .int .u8 240, .int .u8 240, .int .u8 240, .int .u8 240, .int .u8 240, .int .u8 240, .int .u8 240, .int .u8 240, .int .u8 240, .int .u8 240, .int .u8 240, .int .u8 240, .int .u8 240, .int .u8 240, .int .u8 240, .int .u8 240, .int .u8 240, .int .u8 240, .int .u8 240, .int .u8 240, .int .u8 240, .int .u8 240, .int .u8 240, .int .u8 240, .int .u8 240, .int .u8 240, .int .u8 240, .int .u8 240, .int .u8 240, .int .u8 240, .int .u8 240, .int .u8 240, .int .u8 240, .int .u8 240, .int .u8 240, .int .u8 240, .int .u8 240, .int .u8 240, .int .u8 240, .int .u8 240, .int .u8 240, .int .u8 240, .int .u8 240, .int .u8 240, .int .u8 240, .int .u8 240, .int .u8 240, .int .u8 240, .int .u8 240, .int .u8 240, .int .u8 240, .int .u8 240, .int .u8 240, .int .u8 240, .int .u8 241, .int .u8 241, .int .u8 241, .int .u8 241, .int .u8 241, .int .u8 241, .int .u8 241, .int .u8 241, .int .u8 241, .int .u8 241, .int .u8 241, .int .u8 241, .int .u8 241, .int .u8 241, .int .u8 241, .int .u8 241, .int .u8 241, .int .u8 241, .int .u8 241, .int .u8 241, .int .u8 241, .int .u8 241, .int .u8 241, .int .u8 241, .int .u8 241, .int .u8 241, .int .u8 241, .int .u8 241, .int .u8 241, .int .u8 241, .int .u8 241, .int .u8 241, .int .u8 241, .int .u8 241, .int .u8 241, .int .u8 241, .int .u8 241, .int .u8 241, .int .u8 241, .int .u8 241, .int .u8 241, .int .u8 241, .int .u8 241, .int .u8 241, .int .u8 241, .int .u8 241, .int .u8 241, .int .u8 241, .int .u8 241, .int .u8 241, .int .u8 241, .int .u8 241, .int .u8 241, .int .u8 241, .int .u8 241, .int .u8 241, .int .u8 241, .int .u8 241, .int .u8 241, .int .u8 241, .int .u8 241, .int .u8 241, .int .u8 241, .int .u8 241, .int .u8 241, .int .u8 241, .int .u8 2, .int .u8 2, .int .u8 2, .int .u8 2, .int .u8 2, .int .u8 2, .int .u8 2, .int .u8 2, .int .u8 2, .int .u8 2, .int .u8 2, .int .u8 2, .int .u8 2, .int .u8 2, .int .u8 2, .int .u8 2, .int .u8 2, .int .u8 2, .int .u8 2, .int .u8 2, .int .u8 2, .int .u8 2, .int .u8 2, .int .u8 2, .int .u8 2, .int .u8 2, .int .u8 2, .int .u8 2, .int .u8 2, .int .u8 2, .int .u8 19, .int .u8 3, .int .u8 3, .int .u8 3, .int .u8 3, .int .u8 3, .int .u8 3, .int .u8 3, .int .u8 3, .int .u8 3, .int .u8 3, .int .u8 3, .int .u8 3, .int .u8 35, .int .u8 3, .int .u8 3, .int .u8 52, .int .u8 4, .int .u8 4, .int .u8 4, .int .u8 68, .int .u8 241, .int .u8 241, .int .u8 241, .int .u8 241, .int .u8 241, .int .u8 241, .int .u8 241, .int .u8 241, .int .u8 241, .int .u8 241, .int .u8 241] (setVar 1 #[.iface 238 (.pointer (some ⟨low + 1, 0, none⟩))] (setVar 2 #[.iface 238 (.pointer (some ⟨low, 0, none⟩))] (setVar 5 #[.int .u8 128, .int .u8 191, .int .u8 160, .int .u8 191, .int .u8 128, .int .u8 159, .int .u8 144, .int .u8 191, .int .u8 128, .int .u8 143, .int .u8 0, .int .u8 0, .int .u8 0, .int .u8 0, .int .u8 0, .int .u8 0, .int .u8 0, .int .u8 0, .int .u8 0, .int .u8 0, .int .u8 0, .int .u8 0, .int .u8 0, .int .u8 0, .int .u8 0, .int .u8 0, .int .u8 0, .int .u8 0, .int .u8 0, .int .u8 0, .int .u8 0, .int .u8 0] (setVar 3 #[.int .u64 1, .int .u64 10, .int .u64 100, .int .u64 1000, .int .u64 10000, .int .u64 100000, .int .u64 1000000, .int .u64 10000000, .int .u64 100000000, .int .u64 1000000000, .int .u64 10000000000, .int .u64 100000000000, .int .u64 1000000000000, .int .u64 10000000000000, .int .u64 100000000000000, .int .u64 1000000000000000, .int .u64 10000000000000000, .int .u64 100000000000000000, .int .u64 1000000000000000000, .int .u64 10000000000000000000] (setVar 7 #[.int .u8 0, .int .u8 1, .int .u8 56, .int .u8 2, .int .u8 57, .int .u8 49, .int .u8 28, .int .u8 3, .int .u8 61, .int .u8 58, .int .u8 42, .int .u8 50, .int .u8 38, .int .u8 29, .int .u8 17, .int .u8 4, .int .u8 62, .int .u8 47, .int .u8 59, .int .u8 36, .int .u8 45, .int .u8 43, .int .u8 51, .int .u8 22, .int .u8 53, .int .u8 39, .int .u8 33, .int .u8 30, .int .u8 24, .int .u8 18, .int .u8 12, .int .u8 5, .int .u8 63, .int .u8 55, .int .u8 48, .int .u8 27, .int .u8 60, .int .u8 41, .int .u8 37, .int .u8 16, .int .u8 46, .int .u8 35, .int .u8 44, .int .u8 21, .int .u8 52, .int .u8 32, .int .u8 23, .int .u8 11, .int .u8 54, .int .u8 26, .int .u8 40, .int .u8 15, .int .u8 34, .int .u8 20, .int .u8 31, .int .u8 10, .int .u8 25, .int .u8 14, .int .u8 19, .int .u8 9, .int .u8 13, .int .u8 8, .int .u8 7, .int .u8 6] (setVar 6 #[.int .u8 0, .int .u8 1, .int .u8 28, .int .u8 2, .int .u8 29, .int .u8 14, .int .u8 24, .int .u8 3, .int .u8 30, .int .u8 22, .int .u8 20, .int .u8 15, .int .u8 25, .int .u8 17, .int .u8 4, .int .u8 8, .int .u8 31, .int .u8 27, .int .u8 13, .int .u8 23, .int .u8 21, .int .u8 19, .int .u8 16, .int .u8 7, .int .u8 26, .int .u8 12, .int .u8 18, .int .u8 6, .int .u8 11, .int .u8 5, .int .u8 10, .int .u8 9] w0.heap))))))) }

end Go.Proofs.YtiglekomfgfilaaGreatDoor

/- Small lemmas that all walks of this seat use: what a call returns, over a world below which nothing has turned. -/
namespace Go.Proofs.YtiglekomfgfilaaGreatDoor
set_option linter.all false
open Go.RowKit

/-- A call returns v; what lay in memory stays. -/
def RetB (v : Value) (w : World) (e : Ending) (w' : World) : Prop := e = .returned v ∧ Below w.heap.size w w'

theorem RetB.of {v v' : Value} {w w' : World} (h : v' = v) (hb : Below w.heap.size w w') : RetB v w (.returned v') w' := ⟨by rw [h], hb⟩

/-- A call returns v; the world is the same. -/
def Ret0 (v : Value) (w : World) (e : Ending) (w' : World) : Prop := e = .returned v ∧ w = w'

theorem Ret0.of {v v' : Value} {w : World} (h : v' = v) : Ret0 v w (.returned v') w := ⟨by rw [h], rfl⟩

theorem bs_getElem? (s : ByteArray) (k : Nat) (h : k < s.size) : s.data.toList[k]? = some s[k] := by
  simp [ByteArray.getElem_eq_getElem_data, h]
theorem bs_length (s : ByteArray) : s.data.toList.length = s.size := by simp
theorem all_take_snoc (s : ByteArray) (k : Nat) (h : k < s.size) (p : UInt8 → Bool) : (s.data.toList.take (k + 1)).all p = ((s.data.toList.take k).all p && p s[k]) := by
  rw [List.take_add_one, bs_getElem? s k h]; simp

theorem all_drop_cons (s : ByteArray) (k : Nat) (h : k < s.size) (p : UInt8 → Bool) : (s.data.toList.drop k).all p = (p s[k] && (s.data.toList.drop (k + 1)).all p) := by
  have hk : k < s.data.toList.length := by simpa using h
  rw [List.drop_eq_getElem_cons hk, List.all_cons]
  have := bs_getElem? s k h
  rw [List.getElem?_eq_getElem hk] at this
  rw [Option.some.inj this]

theorem toList_data (s : ByteArray) : s.toList = s.data.toList := ByteArray.toList_eq s
theorem isEmpty_of_pos {s : ByteArray} (h : 0 < s.size) : s.toList.isEmpty = false := by
  rw [toList_data]
  cases e : s.data.toList with
  | nil => have h2 := congrArg List.length e; simp only [Array.length_toList, List.length_nil] at h2; exact absurd h (by rw [ByteArray.size, h2]; omega)
  | cons => rfl
theorem isEmpty_of_zero {s : ByteArray} (h : s.size = 0) : s.toList.isEmpty = true := by
  rw [toList_data, List.isEmpty_iff]; exact List.length_eq_zero_iff.1 (by simpa using h)

theorem size_mk (l : List UInt8) : (⟨l.toArray⟩ : ByteArray).size = l.length := by simp [ByteArray.size]

theorem size_drew' (w : World) : w.drew.heap.size = w.heap.size := rfl
theorem size_drewN' (w : World) (n : Nat) : (w.drewN n).heap.size = w.heap.size := rfl

theorem below_drewN' {B : Nat} {a w : World} (h : Below B a w) (n : Nat) : Below B a (w.drewN n) := h.trans ⟨rfl, rfl, rfl, Nat.le_refl _, fun _ _ => rfl⟩

theorem bcell {W w1 : World} (hb : Below W.heap.size W w1) : (∀ b o, b < W.heap.size → w1.cell? ⟨b, o, none⟩ = W.cell? ⟨b, o, none⟩) ∧ (∀ b o, b < W.heap.size → w1.frozen? ⟨b, o, none⟩ = W.frozen? ⟨b, o, none⟩) :=
  ⟨fun b o h => hb.cell (p := ⟨b, o, none⟩) h, fun b o h => hb.frozen (p := ⟨b, o, none⟩) h⟩

/-! Short names, for the merged texts of a claim (gen/bundle.py with SHORT). -/
theorem zD (w : World) : w.drew.heap.size = w.heap.size := rfl
theorem zN (w : World) (n : Nat) : (w.drewN n).heap.size = w.heap.size := rfl
theorem zA (w : World) (o : Obj) : (w.alloc o).heap.size = w.heap.size + 1 := World.size_alloc w o
theorem zS (w : World) (a : Addr) (v : Value) : (w.setCell a v).heap.size = w.heap.size := World.size_setCell w a v
theorem own6 {W w1 : World} (hb : Below W.heap.size W w1) (b : Nat) (h : b < W.heap.size) : b < w1.heap.size ∧ b ≤ w1.heap.size ∧ ¬ b = w1.heap.size ∧ ¬ w1.heap.size = b ∧ (∀ o, w1.cell? ⟨b, o, none⟩ = W.cell? ⟨b, o, none⟩) ∧ (∀ o, w1.frozen? ⟨b, o, none⟩ = W.frozen? ⟨b, o, none⟩) := by
  have hs := hb.size
  exact ⟨by omega, by omega, by omega, by omega, fun o => hb.cell (p := ⟨b, o, none⟩) h, fun o => hb.frozen (p := ⟨b, o, none⟩) h⟩

end Go.Proofs.YtiglekomfgfilaaGreatDoor

/- Plain Lean: naturals as lists of limbs. -/
namespace Go.Proofs.YtiglekomfgfilaaGreatDoor.Na
set_option linter.all false
abbrev B : Nat := 4294967296
def val : List Nat → Nat
  | [] => 0
  | x :: l => x + B * val l
def limbs (n : Nat) : List Nat := if h : n = 0 then [] else (n % B) :: limbs (n / B)
termination_by n
decreasing_by exact Nat.div_lt_self (by omega) (by decide)
theorem limbs_zero : limbs 0 = [] := by rw [limbs]; rfl
theorem limbs_pos {n : Nat} (h : n ≠ 0) : limbs n = (n % B) :: limbs (n / B) := by rw [limbs, dif_neg h]
theorem val_limbs (n : Nat) : val (limbs n) = n := by
  induction n using Nat.strongRecOn with
  | _ n ih =>
    by_cases h : n = 0
    · subst h; rw [limbs_zero]; rfl
    · rw [limbs_pos h, val, ih _ (Nat.div_lt_self (by omega) (by decide))]; exact Nat.mod_add_div n B
theorem limbs_lt (n : Nat) : ∀ x ∈ limbs n, x < B := by
  induction n using Nat.strongRecOn with
  | _ n ih =>
    by_cases h : n = 0
    · subst h; rw [limbs_zero]; intro x hx; cases hx
    · rw [limbs_pos h]
      intro x hx
      rcases List.mem_cons.1 hx with rfl | hx
      · exact Nat.mod_lt _ (by decide)
      · exact ih _ (Nat.div_lt_self (by omega) (by decide)) x hx
theorem limbs_nil {n : Nat} : limbs n = [] ↔ n = 0 := by
  by_cases h : n = 0
  · subst h; simp [limbs_zero]
  · rw [limbs_pos h]; simp [h]
theorem val_app (a b : List Nat) : val (a ++ b) = val a + B ^ a.length * val b := by
  induction a with
  | nil => simp [val]
  | cons x a ih => simp only [List.cons_append, val, ih, List.length_cons, Nat.pow_succ, Nat.mul_add]; rw [Nat.mul_comm (B ^ a.length) B, Nat.mul_assoc]; omega
theorem val_zeros (k : Nat) : val (List.replicate k 0) = 0 := by
  induction k with
  | zero => rfl
  | succ k ih => simp [List.replicate_succ, val, ih]
theorem val_lt (a : List Nat) (h : ∀ x ∈ a, x < B) : val a < B ^ a.length := by
  induction a with
  | nil => simp [val]
  | cons x a ih =>
    have h1 := h x (List.mem_cons_self)
    have h2 := ih (fun y hy => h y (List.mem_cons_of_mem _ hy))
    simp only [val, List.length_cons, Nat.pow_succ]
    rw [Nat.mul_comm (B ^ a.length) B]
    have : B * val a + B ≤ B * B ^ a.length := by rw [← Nat.mul_succ]; exact Nat.mul_le_mul_left _ h2
    omega
theorem val_take_succ (a : List Nat) (i : Nat) (h : i < a.length) : val (a.take (i + 1)) = val (a.take i) + B ^ i * a[i] := by
  rw [List.take_succ_eq_append_getElem h, val_app]
  simp [val, Nat.min_eq_left (Nat.le_of_lt h)]
theorem val_take_drop (a : List Nat) (i : Nat) (h : i ≤ a.length) : val a = val (a.take i) + B ^ i * val (a.drop i) := by
  conv => lhs; rw [← List.take_append_drop i a]
  rw [val_app]; simp [Nat.min_eq_left h]
theorem val_lower (a : List Nat) (hne : a ≠ []) (hl : a.getLast hne ≠ 0) : B ^ (a.length - 1) ≤ val a := by
  have h := List.dropLast_concat_getLast hne
  rw [← h, val_app]
  simp only [List.length_append, List.length_cons, List.length_nil, val]
  have : B ^ a.dropLast.length * 1 ≤ B ^ a.dropLast.length * (a.getLast hne + B * 0) := Nat.mul_le_mul_left _ (by omega)
  simp only [Nat.zero_add, Nat.add_sub_cancel] at this ⊢
  omega
theorem limbs_val (a : List Nat) (h : ∀ x ∈ a, x < B) (hl : ∀ hne : a ≠ [], a.getLast hne ≠ 0) : limbs (val a) = a := by
  induction a with
  | nil => simp [val, limbs_zero]
  | cons x a ih =>
    have h1 := h x (List.mem_cons_self)
    have hne : val (x :: a) ≠ 0 := by
      intro e
      have := val_lower (x :: a) (by simp) (hl (by simp))
      have := Nat.one_le_pow ((x :: a).length - 1) B (by decide)
      omega
    rw [limbs_pos hne]
    have e1 : val (x :: a) % B = x := by simp only [val]; rw [Nat.add_mul_mod_self_left]; exact Nat.mod_eq_of_lt h1
    have e2 : val (x :: a) / B = val a := by simp only [val]; rw [Nat.add_mul_div_left _ _ (by decide)]; rw [Nat.div_eq_of_lt h1]; omega
    rw [e1, e2, ih (fun y hy => h y (List.mem_cons_of_mem _ hy)) (fun hn => by have := hl (by simp); rwa [List.getLast_cons hn] at this)]
theorem limbs_take (a : List Nat) (h : ∀ x ∈ a, x < B) (k : Nat) (hk : k ≤ a.length) (hz : ∀ i (hi : i < a.length), k ≤ i → a[i] = 0) (hl : ∀ hk0 : 0 < k, a[k - 1] ≠ 0) : limbs (val a) = a.take k := by
  have hd : val (a.drop k) = 0 := by
    have : a.drop k = List.replicate (a.length - k) 0 := by
      apply List.ext_getElem
      · simp
      · intro i h1 h2
        simp only [List.getElem_drop, List.getElem_replicate]
        exact hz _ (by simp at h1; omega) (by omega)
    rw [this, val_zeros]
  rw [val_take_drop a k hk, hd, Nat.mul_zero, Nat.add_zero]
  refine limbs_val _ (fun x hx => h x (List.mem_of_mem_take hx)) (fun hne => ?_)
  have hk0 : 0 < k := by
    rcases Nat.eq_zero_or_pos k with rfl | h0
    · simp at hne
    · exact h0
  rw [List.getLast_eq_getElem]
  simp only [List.getElem_take, List.length_take, Nat.min_eq_left hk]
  exact hl hk0
theorem limbs_len_le (n k : Nat) (h : n < B ^ k) : (limbs n).length ≤ k := by
  induction k generalizing n with
  | zero => have : n = 0 := by simpa using h
            subst this; simp [limbs_zero]
  | succ k ih =>
    by_cases h0 : n = 0
    · subst h0; simp [limbs_zero]
    · rw [limbs_pos h0, List.length_cons]
      have : n / B < B ^ k := by rw [Nat.div_lt_iff_lt_mul (by decide), ← Nat.pow_succ]; exact h
      have := ih _ this
      omega
theorem limbs_len_gt (n k : Nat) (h : B ^ k ≤ n) : k < (limbs n).length := by
  have h1 := val_lt (limbs n) (limbs_lt n)
  rw [val_limbs] at h1
  rcases Nat.lt_or_ge k (limbs n).length with h2 | h2
  · exact h2
  · have := Nat.pow_le_pow_right (n := B) (by decide) h2
    omega
theorem limbs_len_iff (n k : Nat) : (limbs n).length ≤ k ↔ n < B ^ k :=
  ⟨fun h => by rcases Nat.lt_or_ge n (B ^ k) with h1 | h1; exact h1; have := limbs_len_gt n k h1; omega, limbs_len_le n k⟩
theorem limbs_last (n : Nat) (hne : limbs n ≠ []) : (limbs n).getLast hne ≠ 0 := by
  induction n using Nat.strongRecOn with
  | _ n ih =>
    have h0 : n ≠ 0 := fun e => hne (limbs_nil.2 e)
    by_cases h1 : n / B = 0
    · have e : limbs n = [n % B] := by rw [limbs_pos h0, limbs_nil.2 h1]
      have : n < B := (Nat.div_eq_zero_iff_lt (by decide)).1 h1
      simp only [e, List.getLast_singleton]
      rw [Nat.mod_eq_of_lt this]; exact h0
    · have hn1 : limbs (n / B) ≠ [] := fun e => h1 (limbs_nil.1 e)
      have e : limbs n = (n % B) :: limbs (n / B) := limbs_pos h0
      have := ih (n / B) (Nat.div_lt_self (by omega) (by decide)) hn1
      rw [← List.getLast_cons (a := n % B) hn1] at this
      simpa only [e] using this
end Go.Proofs.YtiglekomfgfilaaGreatDoor.Na

/- Plain Lean: what chapter 1's functions tell of naturals. -/
namespace Go.Proofs.YtiglekomfgfilaaGreatDoor.Na
set_option linter.all false
def OK (a : List Nat) : Prop := ∀ x ∈ a, x < B
def cut (a : List Nat) : List Nat := limbs (val a)
def rt (a : List Nat) : Nat := (cut a).length
theorem ok_take {a : List Nat} (h : OK a) (k : Nat) : OK (a.take k) := fun x hx => h x (List.mem_of_mem_take hx)
theorem ok_drop {a : List Nat} (h : OK a) (k : Nat) : OK (a.drop k) := fun x hx => h x (List.mem_of_mem_drop hx)
theorem ok_limbs (n : Nat) : OK (limbs n) := limbs_lt n
theorem rt_ex (a : List Nat) (h : OK a) : ∃ k, k ≤ a.length ∧ (∀ i (hi : i < a.length), k ≤ i → a[i] = 0) ∧ (∀ hk : 0 < k, ∀ h2 : k - 1 < a.length, a[k - 1] ≠ 0) := by
  induction a with
  | nil => exact ⟨0, Nat.zero_le _, fun i hi => absurd hi (by simp), fun hk => absurd hk (by omega)⟩
  | cons x a ih =>
    obtain ⟨k, h1, h2, h3⟩ := ih (fun y hy => h y (List.mem_cons_of_mem _ hy))
    by_cases hk : k = 0
    · subst hk
      by_cases hx : x = 0
      · refine ⟨0, Nat.zero_le _, fun i hi _ => ?_, fun hk => absurd hk (by omega)⟩
        cases i with
        | zero => exact hx
        | succ i => simpa using h2 i (by simpa using hi) (Nat.zero_le _)
      · refine ⟨1, by simp, fun i hi h0 => ?_, fun _ _ => by simpa using hx⟩
        cases i with
        | zero => omega
        | succ i => simpa using h2 i (by simpa using hi) (Nat.zero_le _)
    · refine ⟨k + 1, by simp; omega, fun i hi h0 => ?_, fun _ h4 => ?_⟩
      · cases i with
        | zero => omega
        | succ i => simpa using h2 i (by simpa using hi) (by omega)
      · have : k + 1 - 1 = (k - 1) + 1 := by omega
        simp only [this, List.getElem_cons_succ]
        exact h3 (by omega) (by omega)
theorem rt_of {a : List Nat} (h : OK a) {k : Nat} (hk : k ≤ a.length) (hz : ∀ i (hi : i < a.length), k ≤ i → a[i] = 0) (hl : ∀ hk0 : 0 < k, ∀ h2 : k - 1 < a.length, a[k - 1] ≠ 0) : rt a = k ∧ cut a = a.take k := by
  have e : cut a = a.take k := limbs_take a h k hk hz (fun h0 => hl h0 (by omega))
  exact ⟨by rw [rt, e, List.length_take, Nat.min_eq_left hk], e⟩
theorem rt_le {a : List Nat} (h : OK a) : rt a ≤ a.length ∧ cut a = a.take (rt a) := by
  obtain ⟨k, h1, h2, h3⟩ := rt_ex a h
  obtain ⟨e1, e2⟩ := rt_of h h1 h2 h3
  rw [e1]; exact ⟨h1, e2⟩
theorem val_cut {a : List Nat} : val (cut a) = val a := val_limbs _
theorem cut_cut (a : List Nat) : cut (cut a) = cut a := by rw [cut, val_cut]; rfl
theorem cut_limbs (n : Nat) : cut (limbs n) = limbs n := by rw [cut, val_limbs]
theorem rt_limbs (n : Nat) : rt (limbs n) = (limbs n).length := by rw [rt, cut_limbs]
theorem ok_cut (a : List Nat) : OK (cut a) := limbs_lt _
theorem rt_cut (a : List Nat) : rt (cut a) = rt a := by rw [rt, cut_cut]; rfl
theorem cut_nil_iff (a : List Nat) : cut a = [] ↔ val a = 0 := limbs_nil
def big (a : List Nat) : Bool := decide (256 < rt a)
def fits (n : Nat) : List Nat × Int := if 256 < (limbs n).length then ([], 2) else (limbs n, 0)
def bitLen (n : Nat) : Nat := if n = 0 then 0 else Nat.log2 n + 1
def value (a : List Nat) : Nat × Bool := if 2 < rt a then (0, false) else (val a, true)
def cmp (a b : List Nat) : Int := if val a < val b then -1 else if val b < val a then 1 else 0
def add (a b : List Nat) : List Nat × Int := if big a || big b then ([], 2) else fits (val a + val b)
def mul (a b : List Nat) : List Nat × Int := if big a || big b then ([], 2) else fits (val a * val b)
def divMod (a b : List Nat) : List Nat × List Nat × Int := if big a || big b then ([], [], 2) else if val b = 0 then ([], [], 10) else (limbs (val a / val b), limbs (val a % val b), 0)
def shl (a : List Nat) (n : Int) : List Nat × Int := if n < 0 then ([], 1) else if big a then ([], 2) else if val a = 0 then ([], 0) else if 8192 < n ∨ 8192 < (bitLen (val a) : Int) + n then ([], 2) else (limbs (val a * 2 ^ n.toNat), 0)
def shr (a : List Nat) (n : Int) : List Nat × Bool × Int := if n < 0 then ([], false, 1) else if big a then ([], false, 2) else (limbs (val a / 2 ^ n.toNat), decide (val a % 2 ^ n.toNat ≠ 0), 0)
def pow (b n : Int) : List Nat × Int := if b < 0 ∨ 1000000 < b ∨ n < 0 then ([], 1) else if b = 0 ∧ 0 < n then ([], 0) else fits (b.toNat ^ n.toNat)
theorem val_rt {a : List Nat} (h : OK a) : val a < B ^ rt a := by
  have := val_lt (cut a) (ok_cut a)
  rw [val_cut] at this; exact this
theorem val_rt_ge {a : List Nat} (h : OK a) (h0 : 0 < rt a) : B ^ (rt a - 1) ≤ val a := by
  have hne : cut a ≠ [] := by intro e; rw [rt, e] at h0; simp at h0
  have := val_lower (cut a) hne (limbs_last _ hne)
  rw [val_cut] at this; exact this
theorem lt_of_rt {a b : List Nat} (ha : OK a) (hb : OK b) (h : rt a < rt b) : val a < val b := by
  have h1 := val_rt ha
  have h2 := val_rt_ge hb (by omega)
  have h3 : B ^ rt a ≤ B ^ (rt b - 1) := Nat.pow_le_pow_right (by decide) (by omega)
  omega
theorem cmp_at {a b : List Nat} (ha : OK a) (hb : OK b) (hl : a.length = b.length) (k : Nat) (hk : k < a.length) (hk2 : k < b.length) (he : a.drop (k + 1) = b.drop (k + 1)) (hlt : a[k] < b[k]) : val a < val b := by
  rw [val_take_drop a (k + 1) (by omega), val_take_drop b (k + 1) (by omega), he, val_take_succ a k hk, val_take_succ b k hk2]
  have h1 : val (a.take k) < B ^ k := by
    have := val_lt (a.take k) (ok_take ha k)
    rwa [List.length_take, Nat.min_eq_left (by omega)] at this
  have h2 : B ^ k * (a[k] + 1) ≤ B ^ k * b[k] := Nat.mul_le_mul_left _ hlt
  rw [Nat.mul_add, Nat.mul_one] at h2
  omega
end Go.Proofs.YtiglekomfgfilaaGreatDoor.Na

/- Slices of uint32: what they read as; a block of the call's own that holds limbs. -/
namespace Go.Proofs.YtiglekomfgfilaaGreatDoor
set_option linter.all false
open Go.RowKit
def u32s (l : List Nat) : List Value := l.map fun (x : Nat) => Value.int .u32 (x : Int)
theorem u32s_len (l : List Nat) : (u32s l).length = l.length := by simp [u32s]
theorem u32s_one (l : List Nat) : ∀ v ∈ u32s l, v.oneCell' = true := fun v hv => by
  obtain ⟨x, _, rfl⟩ := List.mem_map.1 hv; rfl
theorem u32s_get (l : List Nat) (k : Nat) (h : k < l.length) : (u32s l)[k]? = some (.int .u32 (l[k] : Int)) := by
  simp [u32s, List.getElem?_eq_getElem h]
theorem add_own (g o k : Nat) : (⟨g, o, none⟩ : Addr).add k = ⟨g, o + k, none⟩ := by
  unfold Addr.add
  split
  · rename_i e; subst e; rfl
  · rfl
structure Sl (w : World) (a : Option Addr) (c : Nat) (l : List Nat) : Prop where
  plain : 0 < l.length → ∃ b o, a = some ⟨b, o, none⟩ ∧ b < w.heap.size ∧ ∀ k (h : k < l.length), w.cell? ⟨b, o + k, none⟩ = some (.int .u32 (l[k] : Int))
  cap : l.length ≤ c
  ok : Na.OK l
theorem Sl.below {w w' : World} {a : Option Addr} {c B : Nat} {l : List Nat} (h : Sl w a c l) (hb : Below B w w') (hB : ∀ ad, a = some ad → ad.block < B) : Sl w' a c l where
  plain := fun h0 => by
    obtain ⟨b, o, rfl, hlt, hc⟩ := h.plain h0
    have hbB : b < B := hB _ rfl
    exact ⟨b, o, rfl, Nat.lt_of_lt_of_le hlt hb.size, fun k hk => (hb.cell (p := ⟨b, o + k, none⟩) hbB).trans (hc k hk)⟩
  cap := h.cap
  ok := h.ok
theorem Sl.on {w w' : World} {a : Option Addr} {c : Nat} {l : List Nat} (h : Sl w a c l) (hb : Below w.heap.size w w') : Sl w' a c l where
  plain := fun h0 => by
    obtain ⟨b, o, rfl, hlt, hc⟩ := h.plain h0
    exact ⟨b, o, rfl, Nat.lt_of_lt_of_le hlt hb.size, fun k hk => (hb.cell (p := ⟨b, o + k, none⟩) hlt).trans (hc k hk)⟩
  cap := h.cap
  ok := h.ok
theorem Sl.take {w : World} {a : Option Addr} {c : Nat} {l : List Nat} (h : Sl w a c l) (k : Nat) : Sl w a c (l.take k) where
  plain := fun h0 => by
    rw [List.length_take] at h0
    obtain ⟨b, o, e, hlt, hc⟩ := h.plain (by omega)
    exact ⟨b, o, e, hlt, fun i hi => by
      rw [List.length_take] at hi
      rw [List.getElem_take]; exact hc i (by omega)⟩
  cap := by rw [List.length_take]; have := h.cap; omega
  ok := Na.ok_take h.ok k
theorem Sl.cut {w : World} {a : Option Addr} {c : Nat} {l : List Nat} (h : Sl w a c l) : Sl w a c (Na.cut l) := by rw [(Na.rt_le h.ok).2]; exact h.take _
theorem Sl.nil (w : World) (a : Option Addr) (c : Nat) : Sl w a c [] := ⟨fun h => absurd h (by simp), Nat.zero_le _, fun _ h => by cases h⟩
theorem Sl.lt {w : World} {a : Option Addr} {c : Nat} {l : List Nat} (h : Sl w a c l) (k : Nat) (hk : k < l.length) : l[k] < 4294967296 := h.ok _ (List.getElem_mem hk)
theorem Sl.cells {w : World} {a : Option Addr} {c : Nat} {l : List Nat} (h : Sl w a c l) (h0 : 0 < l.length) : ∃ ad, a = some ad ∧ ∀ j v, (u32s l)[j]? = some v → w.cell? (ad.add j) = some v := by
  obtain ⟨b, o, rfl, _, hc⟩ := h.plain h0
  refine ⟨_, rfl, fun j v hv => ?_⟩
  have hj : j < l.length := by have := (List.getElem?_eq_some_iff.1 hv).1; rwa [u32s_len] at this
  rw [u32s_get l j hj] at hv
  rw [add_own, hc j hj, Option.some.inj hv]
theorem splice_all {α : Type} (Z cs : List α) (h : Z.length = cs.length) : splice Z 0 cs = cs := by simp [splice, ← h]
def Blk (w : World) (g : Nat) (o : List Nat) : Prop := w.heap[g]? = some (.cells (u32s o).toArray 81 (0, 0))
theorem Blk.lt {w : World} {g : Nat} {o : List Nat} (h : Blk w g o) : g < w.heap.size := (Array.getElem?_eq_some_iff.1 h).1
theorem Blk.cell {w : World} {g : Nat} {o : List Nat} (h : Blk w g o) (k : Nat) (hk : k < o.length) : w.cell? ⟨g, k, none⟩ = some (.int .u32 (o[k] : Int)) := by
  unfold World.cell?
  simp only []
  rw [show w.heap[g]? = _ from h]
  show (u32s o).toArray[k]? = _
  rw [List.getElem?_toArray, u32s_get o k hk]
theorem Blk.frozen {w : World} {g : Nat} {o : List Nat} (h : Blk w g o) (k : Nat) : w.frozen? ⟨g, k, none⟩ = false := by
  unfold World.frozen?
  simp only []
  rw [show w.heap[g]? = _ from h]
  simp
theorem Blk.set {w : World} {g : Nat} {o : List Nat} (h : Blk w g o) (i x : Nat) : Blk (w.setCell ⟨g, i, none⟩ (.int .u32 (x : Int))) g (o.set i x) := by
  have := heap_setCell_same w g i (u32s o).toArray 81 (.int .u32 (x : Int)) h
  unfold Blk
  rw [this]
  congr 2
  apply Array.ext'
  simp [u32s, List.map_set]
theorem Blk.on {w w' : World} {g : Nat} {o : List Nat} (h : Blk w g o) (hb : Below w.heap.size w w') : Blk w' g o := (hb.block g h.lt).trans h
theorem Blk.below {w w' : World} {g B : Nat} {o : List Nat} (h : Blk w g o) (hb : Below B w w') (hg : g < B) : Blk w' g o := (hb.block g hg).trans h
theorem Blk.sl {w : World} {g : Nat} {o : List Nat} (h : Blk w g o) (hok : Na.OK o) {c : Nat} (hc : o.length ≤ c) : Sl w (some ⟨g, 0, none⟩) c o where
  plain := fun _ => ⟨g, 0, rfl, h.lt, fun k hk => by rw [Nat.zero_add]; exact h.cell k hk⟩
  cap := hc
  ok := hok
theorem Blk.made {w' : World} {base g n : Nat} (h : w'.ownsRow base 81 1 (.slice (some ⟨g, 0, none⟩) n n) n (madeCells #[Value.int .u32 0] n).toList) : Blk w' g (List.replicate n 0) := by
  rcases h.2 with ⟨e, _⟩ | ⟨g', cap, cur, e, hb, hg, h1, h2, h3, h4⟩
  · cases e
  · simp only [Value.slice.injEq, Option.some.injEq, Addr.mk.injEq] at e
    obtain ⟨⟨rfl, _⟩, _, rfl⟩ := e
    unfold Blk
    rw [hg]
    have e2 : cur.toList = (madeCells #[Value.int .u32 0] n).toList := by
      rw [← h4, List.take_of_length_le (by simp; omega)]
    congr 2
    apply Array.ext'
    rw [e2]
    simp [u32s, madeCells, Value.cells, Nat.mod_one, List.map_const']
theorem infoU32 : (Tryz.prog.info? 81).map (fun i => (i.zero, i.size, i.bytes)) = some (some (.int .u32 0), 1, 4) := by kernel_rfl
def Own (w : World) (B : Nat) (a : Option Addr) (n : Nat) : Prop := 0 < n → ∃ b o, a = some ⟨b, o, none⟩ ∧ B ≤ b ∧ ∀ k, k < n → w.frozen? ⟨b, o + k, none⟩ = false
theorem Own.nil (w : World) (B : Nat) (a : Option Addr) : Own w B a 0 := fun h => absurd h (by simp)
theorem Own.le {w : World} {B n m : Nat} {a : Option Addr} (h : Own w B a n) (hm : m ≤ n) : Own w B a m := fun h0 => by
  obtain ⟨b, o, e, hb, hf⟩ := h (by omega)
  exact ⟨b, o, e, hb, fun k hk => hf k (by omega)⟩
theorem Blk.own {w : World} {g B n : Nat} {o : List Nat} (h : Blk w g o) (hB : B ≤ g) : Own w B (some ⟨g, 0, none⟩) n := fun _ => ⟨g, 0, rfl, hB, fun k _ => h.frozen _⟩
def GivesE (q : List Nat × Int) (w : World) (e : Ending) (w' : World) : Prop := ∃ a c, e = .returned (.tuple #[.slice a q.1.length c, .int .i64 q.2]) ∧ Sl w' a c q.1 ∧ Own w' w.heap.size a q.1.length ∧ Below w.heap.size w w'
def GivesB (l : List Nat) (w : World) (e : Ending) (w' : World) : Prop := ∃ g, e = .returned (.slice (some ⟨g, 0, none⟩) l.length l.length) ∧ w.heap.size ≤ g ∧ Blk w' g l ∧ Below w.heap.size w w'
end Go.Proofs.YtiglekomfgfilaaGreatDoor

/- What the cards of chapter 1 share: how each kind of parameter reads, before the call and behind it. -/
namespace Go.Proofs.YtiglekomfgfilaaGreatDoor
set_option maxRecDepth 100000
set_option linter.all false
open Go.ChangeShapes Go.WideShapes Go.ChangeAt Go.RowKit Go.WideMaps Go.WideElems Go.Joins
open Go.ChangeMaps (open_string shut_string)
theorem laidOut : laidOutB Tryz.prog = true := by kernel_rfl
theorem wf_u64 {n : Int} (h : (Lit.int .u64 n).wf = true) : 0 ≤ n ∧ n < 18446744073709551616 := by
  simp [Lit.wf, IntKind.min, IntKind.max, IntKind.signed, IntKind.bits] at h
  omega
theorem par_u64 {H : Type} {enc : TypeId × Value → H} {W : World} {base : Nat} {sp : Nat → Bool} {held : Bool} {r : Reach} {b0 : Nat} {v : Value} {d : DataW H} {p : List MemPlace} (hv : Value.okWide Tryz.prog W r b0 22 v) (h : DataW.Trod enc Tryz.prog W base sp held 22 v d p) :
    ∃ n : Nat, v = .int .u64 n ∧ p = [] ∧ n < 18446744073709551616 := by
  obtain ⟨n, rfl, rfl, rfl, hw⟩ := open_int Tryz.underlying22 hv h
  have hw' := wf_u64 hw
  exact ⟨n.toNat, by rw [Int.toNat_of_nonneg hw'.1], rfl, by omega⟩
end Go.Proofs.YtiglekomfgfilaaGreatDoor

/- right, cut, Trim. -/
namespace Go.Proofs.YtiglekomfgfilaaGreatDoor
set_option maxRecDepth 100000
set_option maxHeartbeats 400000
set_option linter.all false
open Go.RowKit
theorem na_right_any (a : Option Addr) (c : Nat) (l : List Nat) (w : World) (h : Sl w a c l) (hn : l.length ≤ 1000000) :
    Calls Tryz.prog 113 #[.slice a l.length c] w (Ret0 (.int .i64 (Na.rt l)) w) := by
  go_enter Tryz.func113, Tryz.ntmps113
  go_wp2_with fail
  go_loop [3] (fun i => ∃ k : Nat, k ≤ l.length ∧ i = .int .i64 k ∧ ∀ j (hj : j < l.length), k ≤ j → l[j] = 0) (fun i => (intOf i).toNat)
  case atStart => exact ⟨l.length, Nat.le_refl _, rfl, fun j hj hk => by omega⟩
  case round =>
    obtain ⟨k, hk, rfl, hz⟩ := hrel
    have HZ := Lib.hid hz; clear hz
    cases k with
    | zero =>
      have HR := Lib.hid (Na.rt_of h.ok (k := 0) hk HZ.out (fun h0 => absurd h0 (by omega))).1
      go_wp2_with fail
      go_ret
      exact Ret0.of (by rw [HR.out]; rfl)
    | succ m =>
      obtain ⟨b, o, rfl, hb, hc⟩ := h.plain (by omega)
      have c1 := hc m (by omega)
      obtain ⟨x, hx⟩ : ∃ x, l[m]'(by omega) = x := ⟨_, rfl⟩
      rw [hx] at c1
      have HX := Lib.hid hx; clear hx hc
      have n0 : decide ((0 : Int) < (m : Int) + 1) = true := decide_eq_true (by omega)
      by_cases hx0 : x = 0
      · subst hx0
        go_wp2_with fail
        go_round
        case rel =>
          refine ⟨m, by omega, by go_num, fun j hj hk => ?_⟩
          by_cases e : j = m
          · subst e; exact HX.out
          · exact HZ.out j hj (by omega)
        case measure => simp [intOf]
      · have HR := Lib.hid (Na.rt_of h.ok (k := m + 1) hk HZ.out (fun _ h2 => by have := HX.out; simpa [this] using hx0)).1
        have e0 : ((x : Int) == 0) = false := by simpa using hx0
        clear hx0
        go_wp2_with fail
        go_ret
        exact Ret0.of (by rw [HR.out]; rfl)
theorem na_cut_any (a : Option Addr) (c : Nat) (l : List Nat) (w : World) (h : Sl w a c l) (hn : l.length ≤ 1000000) :
    Calls Tryz.prog 115 #[.slice a l.length c] w (Ret0 (.slice a (Na.cut l).length c) w) := by
  have H1 := Lib.hid (na_right_any a c l w h hn)
  have h2 := (Na.rt_le h.ok).1
  have h3 := h.cap
  go_enter Tryz.func115, Tryz.ntmps115
  go_wp2_with (first | (go_at_call 113; (with_reducible refine (H1.out).mono ?_); rintro e w' ⟨rfl, rfl⟩))
  go_ret
  exact Ret0.of rfl
end Go.Proofs.YtiglekomfgfilaaGreatDoor
