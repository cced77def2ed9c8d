/- Plain Lean: the locales, and digits in groups. -/
import Derived.Test.YtcbepojookbceaaDoorDec
namespace Go.Proofs.YtcbepojookbceaaDoor.Lc
set_option linter.all false
open Dc (Bs)

/-- What a locale's signs are. -/
structure Loc where
  name : Bs
  dec : Bs
  grp : Bs
  list : Bs
  minus : Bs
  cur : Bs
  first : Bool
  space : Bool
  two : Bool

/-- How many digits each group has but the last one. -/
def Loc.second (l : Loc) : Nat := if l.two then 2 else 3
theorem second_pos (l : Loc) : 2 ≤ l.second ∧ l.second ≤ 3 := by unfold Loc.second; split <;> omega

def ch : Loc := ⟨[99, 104], [46], [226, 128, 153], [59], [45], [67, 72, 70], true, true, false⟩
def de : Loc := ⟨[100, 101], [44], [46], [59], [45], [226, 130, 172], false, true, false⟩
def en : Loc := ⟨[101, 110], [46], [44], [44], [45], [36], true, false, false⟩
def fr : Loc := ⟨[102, 114], [44], [226, 128, 175], [59], [45], [226, 130, 172], false, true, false⟩
def hi : Loc := ⟨[104, 105], [46], [44], [44], [45], [226, 130, 185], true, false, true⟩
def sv : Loc := ⟨[115, 118], [44], [194, 160], [59], [226, 136, 146], [107, 114], false, true, false⟩
def six : List Loc := [ch, de, en, fr, hi, sv]

/-- Does a group begin so many digits ahead of the end? -/
def sep (z left : Nat) : Bool := decide (3 ≤ left) && decide ((left - 3) % z = 0)
/-- The digits from a to b (of n) with the group's sign ahead of each group but the first. -/
def out (z : Nat) (g d : Bs) (a : Nat) : Nat → Bs
  | 0 => []
  | k + 1 => out z g d a k ++ ((if (decide (0 < a + k) && sep z (d.length - (a + k))) = true then g else []) ++ [d.getD (a + k) 48])
/-- Digits in groups. -/
def grouped (z : Nat) (g d : Bs) : Bs := out z g d 0 d.length

theorem out_add (z : Nat) (g d : Bs) (a : Nat) : ∀ k m, out z g d a (k + m) = out z g d a k ++ out z g d (a + k) m
  | k, 0 => by simp [out]
  | k, m + 1 => by rw [← Nat.add_assoc, out, out, out_add z g d a k m, List.append_assoc, Nat.add_assoc a k m]
theorem out_plain (z : Nat) (g d : Bs) (a : Nat) : ∀ k, a + k ≤ d.length → (∀ j, j < k → (decide (0 < a + j) && sep z (d.length - (a + j))) = false) → out z g d a k = (d.drop a).take k
  | 0, _, _ => by simp [out]
  | k + 1, h, hs => by
    rw [out, out_plain z g d a k (by omega) (fun j hj => hs j (by omega)), hs k (by omega)]
    have hk : k < (d.drop a).length := by rw [List.length_drop]; omega
    rw [List.take_succ_eq_append_getElem hk]
    simp [List.getD_eq_getElem?_getD, List.getElem?_eq_getElem (show a + k < d.length by omega)]

/-- The group's size that is cut off next, where so many digits have been cut off. -/
def nxt (z i : Nat) : Nat := if i = 0 then 3 else z
/-- How many digits have been cut off behind i groups. -/
def cuts (z i : Nat) : Nat := if i = 0 then 0 else 3 + z * (i - 1)
theorem cuts_succ (z i : Nat) : cuts z (i + 1) = cuts z i + nxt z i := by
  unfold cuts nxt
  cases i with
  | zero => simp
  | succ i => simp [Nat.mul_add]; omega
theorem le_cuts (z i : Nat) (hz : 2 ≤ z) : i ≤ cuts z i := by
  unfold cuts
  split
  · omega
  · have : 1 * (i - 1) ≤ z * (i - 1) := Nat.mul_le_mul_right _ (by omega)
    omega
theorem sep_cuts (z i : Nat) (hz : 2 ≤ z) (hi : 0 < i) : sep z (cuts z i) = true := by
  unfold sep cuts
  rw [if_neg (by omega)]
  simp
theorem sep_between (z i m : Nat) (hz : 2 ≤ z) (hz3 : z ≤ 3) (h1 : cuts z i < m) (h2 : m < cuts z i + nxt z i) : sep z m = false := by
  unfold sep
  cases i with
  | zero => simp [cuts, nxt] at h1 h2; simp; omega
  | succ i =>
    simp only [cuts, nxt, Nat.succ_ne_zero, if_false, Nat.add_sub_cancel] at h1 h2
    obtain ⟨r, hr⟩ : ∃ r, m = 3 + z * i + r := ⟨m - (3 + z * i), by omega⟩
    subst hr
    have e : (3 + z * i + r - 3) % z = r := by
      rw [show 3 + z * i + r - 3 = r + z * i by omega, Nat.add_mul_mod_self_left, Nat.mod_eq_of_lt (by omega)]
    rw [e]; simp; omega

/-- One group more is cut off. -/
theorem group_step (z : Nat) (g d : Bs) (i : Nat) (hz : 2 ≤ z) (hz3 : z ≤ 3) (h : cuts z (i + 1) < d.length) :
    out z g d (d.length - cuts z (i + 1)) (cuts z (i + 1)) = g ++ ((d.take (d.length - cuts z i)).drop (d.length - cuts z (i + 1)) ++ out z g d (d.length - cuts z i) (cuts z i)) := by
  have hs := cuts_succ z i
  have hn : 2 ≤ nxt z i := by unfold nxt; split <;> omega
  have e1 : out z g d (d.length - cuts z (i + 1)) (cuts z (i + 1)) = out z g d (d.length - cuts z (i + 1)) (1 + (nxt z i - 1)) ++ out z g d (d.length - cuts z i) (cuts z i) := by
    have := out_add z g d (d.length - cuts z (i + 1)) (1 + (nxt z i - 1)) (cuts z i)
    rw [show d.length - cuts z (i + 1) + (1 + (nxt z i - 1)) = d.length - cuts z i by omega] at this
    rw [← this]; congr 1; omega
  rw [e1, out_add]
  have e2 : out z g d (d.length - cuts z (i + 1)) 1 = g ++ [d.getD (d.length - cuts z (i + 1)) 48] := by
    have hb : (decide (0 < d.length - cuts z (i + 1) + 0) && sep z (d.length - (d.length - cuts z (i + 1) + 0))) = true := by
      rw [Nat.add_zero, show d.length - (d.length - cuts z (i + 1)) = cuts z (i + 1) by omega, sep_cuts z (i + 1) hz (by omega), decide_eq_true (by omega)]; rfl
    rw [show (1 : Nat) = 0 + 1 from rfl, out, out, if_pos hb]
    simp
  have e3 : out z g d (d.length - cuts z (i + 1) + 1) (nxt z i - 1) = (d.drop (d.length - cuts z (i + 1) + 1)).take (nxt z i - 1) := by
    refine out_plain z g d _ _ (by omega) (fun j hj => ?_)
    rw [show d.length - (d.length - cuts z (i + 1) + 1 + j) = cuts z (i + 1) - 1 - j by omega, sep_between z i _ hz hz3 (by omega) (by omega)]
    simp
  rw [e2, e3, List.append_assoc, List.append_assoc]
  congr 1
  rw [← List.append_assoc]
  congr 1
  have hlt : d.length - cuts z (i + 1) < d.length := by omega
  rw [List.drop_take, show d.length - cuts z i - (d.length - cuts z (i + 1)) = nxt z i - 1 + 1 by omega, List.drop_eq_getElem_cons hlt, List.take_succ_cons]
  simp [List.getD_eq_getElem?_getD, List.getElem?_eq_getElem hlt]
theorem group_end (z : Nat) (g d : Bs) (i : Nat) (hz : 2 ≤ z) (hz3 : z ≤ 3) (h : cuts z i ≤ d.length) (h2 : d.length - cuts z i ≤ nxt z i) : grouped z g d = d.take (d.length - cuts z i) ++ out z g d (d.length - cuts z i) (cuts z i) := by
  have e := out_add z g d 0 (d.length - cuts z i) (cuts z i)
  rw [show d.length - cuts z i + cuts z i = d.length by omega, Nat.zero_add] at e
  rw [grouped, e]
  congr 1
  have := out_plain z g d 0 (d.length - cuts z i) (by omega) (fun j hj => by
    rw [Nat.zero_add]
    by_cases hj0 : j = 0
    · subst hj0; simp
    · rw [sep_between z i _ hz hz3 (by omega) (by omega)]; simp)
  rw [this, List.drop_zero]
end Go.Proofs.YtcbepojookbceaaDoor.Lc
