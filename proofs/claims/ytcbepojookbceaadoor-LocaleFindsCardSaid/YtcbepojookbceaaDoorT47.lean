/- Find and the reference's Find, whatever the name. -/
import Derived.Test.YtcbepojookbceaaDoorT46
import Derived.Test.YtcbepojookbceaaDoorT43
namespace Go.Proofs.YtcbepojookbceaaDoor
set_option linter.all false
open Go.RowKit

theorem ne_list {s : ByteArray} {l : List UInt8} (h : s ≠ ⟨l.toArray⟩) : (l == s.toList) = false := by
  rw [toList_data]
  simp only [beq_eq_false_iff_ne, ne_eq]
  intro e; apply h
  rw [e]

theorem find_cases (s : ByteArray) : (∃ l ∈ Lc.six, (∀ w, Vars w → Calls Tryd.prog 28 #[.string s] w (FindIs l w)) ∧ (∀ w, Calls Tryd.prog 29 #[.string s] w (RetB (.tuple #[RV l, .bool true]) w))) ∨
    ((∀ w, Vars w → Calls Tryd.prog 28 #[.string s] w (RetB (.tuple #[LZ, .int .i64 8]) w)) ∧ (∀ w, Calls Tryd.prog 29 #[.string s] w (RetB (.tuple #[RZ, .bool false]) w))) := by
  by_cases h0 : s = ⟨#[99, 104]⟩
  · subst h0; exact .inl ⟨Lc.ch, by simp [Lc.six], fun w hv => lo_find_ch w hv, fun w => r11_find_ch w⟩
  by_cases h1 : s = ⟨#[100, 101]⟩
  · subst h1; exact .inl ⟨Lc.de, by simp [Lc.six], fun w hv => lo_find_de w hv, fun w => r11_find_de w⟩
  by_cases h2 : s = ⟨#[101, 110]⟩
  · subst h2; exact .inl ⟨Lc.en, by simp [Lc.six], fun w hv => lo_find_en w hv, fun w => r11_find_en w⟩
  by_cases h3 : s = ⟨#[102, 114]⟩
  · subst h3; exact .inl ⟨Lc.fr, by simp [Lc.six], fun w hv => lo_find_fr w hv, fun w => r11_find_fr w⟩
  by_cases h4 : s = ⟨#[104, 105]⟩
  · subst h4; exact .inl ⟨Lc.hi, by simp [Lc.six], fun w hv => lo_find_hi w hv, fun w => r11_find_hi w⟩
  by_cases h5 : s = ⟨#[115, 118]⟩
  · subst h5; exact .inl ⟨Lc.sv, by simp [Lc.six], fun w hv => lo_find_sv w hv, fun w => r11_find_sv w⟩
  have m0 := ne_list (l := [99, 104]) h0
  have m1 := ne_list (l := [100, 101]) h1
  have m2 := ne_list (l := [101, 110]) h2
  have m3 := ne_list (l := [102, 114]) h3
  have m4 := ne_list (l := [104, 105]) h4
  have m5 := ne_list (l := [115, 118]) h5
  exact .inr ⟨fun w hv => lo_find_no s w hv (by rw [m0]; rfl) (by rw [m1]; rfl) (by rw [m2]; rfl) (by rw [m3]; rfl) (by rw [m4]; rfl) (by rw [m5]; rfl), fun w => r11_find_no s w m0 m1 m2 m3 m4 m5⟩
end Go.Proofs.YtcbepojookbceaaDoor
