/- Plain Lean: what is written of a decimal is the decimal's digits, when the signs are taken away again. -/
import Derived.Test.YtcbepojookbceaaDoorLoc4
import Derived.Test.YtcbepojookbceaaDoorT34
import Derived.Test.YtcbepojookbceaaDoorDec6
namespace Go.Proofs.YtcbepojookbceaaDoor
set_option linter.all false

/-- The digits ahead of the point and behind it, of a right decimal that is not too long. -/
theorem sides_back (n : Bool) (d : Dc.Bs) (x : Int) (h : Dc.right d x = true) (hl : d.length ≤ 200) (hp : Dc.point d x ≤ 300) (hp2 : -100 ≤ Dc.point d x) :
    (sidesC d x).2.2 = true ∧ (sidesC d x).1 ≠ [] ∧ Dc.allDig (sidesC d x).1 = true ∧ Dc.allDig (sidesC d x).2.1 = true ∧ (sidesC d x).1.length ≤ 400 ∧ (sidesC d x).2.1.length ≤ 400 ∧
    ((sidesC d x).2.1 = [] ∨ (sidesC d x).2.1[(sidesC d x).2.1.length - 1]? ≠ some 48) ∧
    Dc.mk n ((sidesC d x).1 ++ (sidesC d x).2.1) (-((sidesC d x).2.1.length : Int)) = ⟨n, d, x, 0⟩ := by
  unfold sidesC
  by_cases h0 : d = []
  · rw [if_pos h0]
    subst h0
    have hx : x = 0 := by simpa [Dc.right] using h
    subst hx
    exact ⟨rfl, by simp, rfl, rfl, by simp, by simp, .inl rfl, by cases n <;> kernel_rfl⟩
  · rw [if_neg h0]
    obtain ⟨e1, e2⟩ := Dc.right_ends h h0
    have hd := Dc.right_dig h
    have hpt : Dc.point d x = d.length + x := by rw [Dc.point, if_pos h]
    have hl0 : 0 < d.length := List.length_pos_iff.2 h0
    rw [if_neg (by omega)]
    by_cases h1 : Dc.point d x ≤ 0
    · rw [if_pos h1]
      have hz : ((Lib.repeatL [48] (-Dc.point d x).toNat ++ d).length : Int) = -x := by
        rw [List.length_append, Dc.rep_len]; omega
      refine ⟨rfl, by simp, rfl, Dc.app_dig (Dc.rep_dig _) hd, by simp, ?_, .inr ?_, ?_⟩
      · simp only []; omega
      · simp only []
        rw [List.getElem?_append_right (by rw [List.length_append]; omega), List.length_append]
        rw [show (Lib.repeatL [48] (-Dc.point d x).toNat).length + d.length - 1 - (Lib.repeatL [48] (-Dc.point d x).toNat).length = d.length - 1 by omega]
        exact e2
      · simp only []
        rw [hz, Int.neg_neg]
        have := Dc.mk_front n d x ((-Dc.point d x).toNat + 1) h h0
        rw [show Lib.repeatL [48] ((-Dc.point d x).toNat + 1) = [48] ++ Lib.repeatL [48] (-Dc.point d x).toNat from rfl, List.append_assoc] at this
        exact this
    · rw [if_neg h1]
      by_cases h2 : (d.length : Int) ≤ Dc.point d x
      · rw [if_pos h2]
        refine ⟨rfl, by simp [h0], Dc.app_dig hd (Dc.rep_dig _), rfl, ?_, by simp, .inl rfl, ?_⟩
        · simp only [List.length_append, Dc.rep_len]; omega
        · simp only [List.append_nil, List.length_nil]
          have := Dc.mk_back n d x (Dc.point d x - d.length).toNat h h0
          rw [show x - ((Dc.point d x - d.length).toNat : Int) = -((0 : Nat) : Int) by omega] at this
          exact this
      · rw [if_neg h2]
        have hlen : (d.take (Dc.point d x).toNat).length = (Dc.point d x).toNat := by rw [List.length_take]; omega
        refine ⟨rfl, ?_, ?_, ?_, ?_, ?_, .inr ?_, ?_⟩
        · intro e; simp only [] at e; rw [e] at hlen; simp at hlen; omega
        · have := hd; simp only [Dc.allDig, List.all_eq_true] at this ⊢; exact fun c hc => this c (List.mem_of_mem_take hc)
        · have := hd; simp only [Dc.allDig, List.all_eq_true] at this ⊢; exact fun c hc => this c (List.mem_of_mem_drop hc)
        · simp only [List.length_take]; omega
        · simp only [List.length_drop]; omega
        · simp only [List.length_drop, List.getElem?_drop]
          rw [show (Dc.point d x).toNat + (d.length - (Dc.point d x).toNat - 1) = d.length - 1 by omega]
          exact e2
        · simp only [List.take_append_drop, List.length_drop]
          rw [show (-((d.length - (Dc.point d x).toNat : Nat) : Int)) = x by omega]
          exact Dc.mk_same n d x h h0

/-- No sign of a decimal's point stands in grouped digits. -/
theorem grouped_mem (z : Nat) (g d : Dc.Bs) (hd : Dc.allDig d = true) : ∀ c ∈ Lc.grouped z g d, c ∈ g ∨ Dc.isDig c = true := by
  intro c hc
  unfold Lc.grouped at hc
  rw [Lc.out_toks, Lc.toks, List.mem_flatMap] at hc
  obtain ⟨⟨q, c2⟩, hp, hc⟩ := hc
  rw [List.mem_append] at hc
  rcases hc with hc | hc
  · simp only [] at hc
    split at hc
    · exact .inl hc
    · cases hc
  · right
    simp only [List.mem_singleton] at hc
    subst hc
    rw [List.mem_map] at hp
    obtain ⟨j, hj, he⟩ := hp
    simp only [Prod.mk.injEq] at he
    rw [← he.2]
    rw [List.mem_range] at hj
    rw [List.getD_eq_getElem?_getD, List.getElem?_eq_getElem hj]
    simp only [Option.getD_some]
    have := hd
    simp only [Dc.allDig, List.all_eq_true] at this
    exact this _ (List.getElem_mem hj)
end Go.Proofs.YtcbepojookbceaaDoor
