/- What the statements of chapter 11 share: one of the six, whatever the number. -/
import Derived.Test.YtcbepojookbceaaDoorT44
import Derived.Test.YtcbepojookbceaaDoorT45
import Derived.Test.YtcbepojookbceaaDoorT38
import Derived.Test.YtcbepojookbceaaDoorLoc4
namespace Go.Proofs.YtcbepojookbceaaDoor
set_option linter.all false
open Go.RowKit

theorem six_ok : ∀ l ∈ Lc.six, Short l ∧ 1 ≤ l.grp.length ∧ (∀ c, l.grp[0]? = some c → Dc.isDig c = false) ∧ 1 ≤ l.dec.length ∧ (∀ c, l.dec[0]? = some c → Dc.isDig c = false) := by
  intro l hl
  simp only [Lc.six, List.mem_cons, List.not_mem_nil, or_false] at hl
  rcases hl with rfl | rfl | rfl | rfl | rfl | rfl <;> (refine ⟨by unfold Short; decide, by decide, ?_, by decide, ?_⟩ <;> (intro c hc; simp [Lc.ch, Lc.de, Lc.en, Lc.fr, Lc.hi, Lc.sv] at hc; subst hc; decide))

/-- find's answer, whatever the number. -/
theorem l11_find_any (c : Int) (hc : -9223372036854775808 ≤ c ∧ c ≤ 9223372036854775807) : ∃ l ∈ Lc.six, ∀ w, Vars w → Calls Tryd.prog 13 #[.int .i64 c] w (Find2 l w) := by
  have h := pickC_lt c
  have hcase : pickC c = 0 ∨ pickC c = 1 ∨ pickC c = 2 ∨ pickC c = 3 ∨ pickC c = 4 ∨ pickC c = 5 := by omega
  rcases hcase with h | h | h | h | h | h
  · exact ⟨Lc.ch, by simp [Lc.six], fun w hv => l11_find_ch c w hv hc h⟩
  · exact ⟨Lc.de, by simp [Lc.six], fun w hv => l11_find_de c w hv hc h⟩
  · exact ⟨Lc.en, by simp [Lc.six], fun w hv => l11_find_en c w hv hc h⟩
  · exact ⟨Lc.fr, by simp [Lc.six], fun w hv => l11_find_fr c w hv hc h⟩
  · exact ⟨Lc.hi, by simp [Lc.six], fun w hv => l11_find_hi c w hv hc h⟩
  · exact ⟨Lc.sv, by simp [Lc.six], fun w hv => l11_find_sv c w hv hc h⟩
end Go.Proofs.YtcbepojookbceaaDoor
