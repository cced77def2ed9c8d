/- Plain Lean: what is grouped is the digits again, when the signs are taken away. -/
import Derived.Test.YtcbepojookbceaaDoorLoc3
namespace Go.Proofs.YtcbepojookbceaaDoor.Lc
set_option linter.all false
open Dc (Bs isDig allDig)

/-- Digits, each with a group's sign ahead of it or without. -/
def toks (g : Bs) (l : List (Bool × UInt8)) : Bs := l.flatMap fun p => (if p.1 then g else []) ++ [p.2]
theorem no_pref (g : Bs) (hg : g ≠ []) (hd : ∀ c, g[0]? = some c → isDig c = false) (c : UInt8) (t : Bs) (hc : isDig c = true) : g.isPrefixOf (c :: t) = false := by
  cases g with
  | nil => exact absurd rfl hg
  | cons a g =>
    have ha := hd a rfl
    rw [List.isPrefixOf, Bool.and_eq_false_iff]
    refine .inl ?_
    rw [beq_eq_false_iff_ne]
    intro e; subst e; rw [hc] at ha; cases ha
theorem rem_toks (g : Bs) (hg : g ≠ []) (hd : ∀ c, g[0]? = some c → isDig c = false) : ∀ l : List (Bool × UInt8), (∀ p ∈ l, isDig p.2 = true) → rem g (toks g l) = l.map (·.2) := by
  intro l
  induction l with
  | nil => intro _; exact rem_nil g hg
  | cons p l ih =>
    intro h
    have hp := h p (List.mem_cons_self ..)
    have hl := ih (fun q hq => h q (List.mem_cons_of_mem _ hq))
    have key : rem g (p.2 :: toks g l) = p.2 :: l.map (·.2) := by
      rw [rem_cons g _ _ hg (no_pref g hg hd _ _ hp), hl]
    obtain ⟨b, c⟩ := p
    have e : toks g ((b, c) :: l) = (if b = true then g else []) ++ (c :: toks g l) := by simp [toks]
    rw [e]
    cases b with
    | false => exact key
    | true =>
      have hpre : g.isPrefixOf (g ++ (c :: toks g l)) = true := by rw [List.isPrefixOf_iff_prefix]; exact List.prefix_append _ _
      rw [if_pos rfl, rem_pref g _ hg hpre, List.drop_left]
      exact key
theorem out_toks (z : Nat) (g d : Bs) : ∀ k, out z g d 0 k = toks g ((List.range k).map fun j => (decide (0 < j) && sep z (d.length - j), d.getD j 48)) := by
  intro k
  induction k with
  | zero => rfl
  | succ k ih =>
    rw [out, ih, List.range_succ, List.map_append]
    simp [toks]
theorem rem_grouped (z : Nat) (g d : Bs) (hg : g ≠ []) (hd : ∀ c, g[0]? = some c → isDig c = false) (h : allDig d = true) : rem g (grouped z g d) = d := by
  rw [grouped, out_toks, rem_toks g hg hd]
  · rw [List.map_map]
    apply List.ext_getElem?
    intro i
    rw [List.getElem?_map]
    by_cases hi : i < d.length
    · rw [List.getElem?_range hi]; simp [List.getD_eq_getElem?_getD, List.getElem?_eq_getElem hi]
    · rw [List.getElem?_eq_none (by simpa using hi), List.getElem?_eq_none (by omega)]; rfl
  · intro p hp
    obtain ⟨j, hj, rfl⟩ := List.mem_map.1 hp
    have hj2 := List.mem_range.1 hj
    rw [allDig, List.all_eq_true] at h
    refine h _ ?_
    show d.getD j 48 ∈ d
    rw [List.getD_eq_getElem?_getD, List.getElem?_eq_getElem hj2]; exact List.getElem_mem hj2
/-- Read again. -/
theorem plain_grouped (z : Nat) (g d : Bs) (hg : g ≠ []) (hd : ∀ c, g[0]? = some c → isDig c = false) (h : allDig d = true) : plainC z g (grouped z g d) = (d, !d.isEmpty) := by
  rw [plainC, rem_grouped z g d hg hd h]
  cases d with
  | nil => rw [if_pos (.inl rfl)]; rfl
  | cons c d =>
    rw [if_neg (by rintro (e | e); cases e; rw [h] at e; cases e), if_neg (by rintro ⟨_, e⟩; exact e rfl)]; rfl
end Go.Proofs.YtcbepojookbceaaDoor.Lc
