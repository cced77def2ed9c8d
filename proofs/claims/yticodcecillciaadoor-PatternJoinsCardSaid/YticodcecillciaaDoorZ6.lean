/- Patterns in the program: the shape of a section's items, out of the numbers of their kinds. -/
import Derived.Test.YticodcecillciaaDoorZ4
import Derived.Test.YticodcecillciaaDoorZ5
namespace Go.Proofs.YticodcecillciaaDoor
set_option linter.all false
open Go.RowKit

theorem pa_shapeItems_any (vi : Value) (s : Pa.Sec) (B : Nat) (w : World) (h : ItsAt w B vi s.items) (hB : B ≤ w.heap.size) (hl : s.items.length ≤ 1000000) :
    Calls Tryd.prog 21 #[secV vi s, cvA s.items] w (RetB (.int .i64 (Pa.shape0 s.items)) w) := by
  obtain ⟨l, g, sc⟩ := s
  unfold secV cvA
  replace h : ItsAt w B vi l := h
  replace hl : l.length ≤ 1000000 := hl
  show Calls _ _ _ _ (RetB (.int .i64 (Pa.shape0 l)) w)
  have hb : ∀ q, Pa.cnt q l ≤ 1000000 := fun q => Nat.le_trans (cnt_le q l) hl
  have b2 := hb 2; have b3 := hb 3; have b4 := hb 4; have b5 := hb 5; have b6 := hb 6; have b7 := hb 7; have b8 := hb 8
  have hbb := (⟨b2, b3, b4, b5, b6, b7, b8⟩ : _ ∧ _ ∧ _ ∧ _ ∧ _ ∧ _ ∧ _)
  have hs : Pa.shape0 l = (if 0 < Pa.cnt 7 l + Pa.cnt 8 l ∧ 0 < Pa.cnt 2 l + Pa.cnt 3 l + Pa.cnt 4 l + Pa.cnt 5 l + Pa.cnt 6 l then 0
    else if Pa.cnt 7 l = 1 ∧ Pa.cnt 8 l = 0 then 5
    else if Pa.cnt 7 l = 0 ∧ 0 < Pa.cnt 8 l ∧ Pa.cnt 9 l = 0 then 6
    else if Pa.cnt 7 l = 0 ∧ Pa.cnt 8 l = 0 ∧ Pa.cnt 2 l + Pa.cnt 3 l + Pa.cnt 4 l + Pa.cnt 5 l + Pa.cnt 6 l = 0 then 1
    else if Pa.cnt 6 l = 1 ∧ Pa.cnt 3 l + Pa.cnt 4 l + Pa.cnt 5 l = 0 then Pa.frac l
    else if Pa.cnt 6 l = 0 ∧ 0 < Pa.cnt 2 l ∧ Pa.cnt 3 l ≤ 1 ∧ Pa.cnt 4 l ≤ 1 ∧ Pa.cnt 5 l ≤ 1 ∧ Pa.cnt 7 l = 0 then Pa.numb l
    else 0) := rfl
  clear hb b2 b3 b4 b5 b6 b7 b8
  generalize Pa.cnt 0 l = c0 at *
  generalize Pa.cnt 1 l = c1 at *
  generalize Pa.cnt 2 l = c2 at *
  generalize Pa.cnt 3 l = c3 at *
  generalize Pa.cnt 4 l = c4 at *
  generalize Pa.cnt 5 l = c5 at *
  generalize Pa.cnt 6 l = c6 at *
  generalize Pa.cnt 7 l = c7 at *
  generalize Pa.cnt 8 l = c8 at *
  generalize Pa.cnt 9 l = c9 at *
  have pick : ∀ (C : Prop) (v : Int), C → (Pa.shape0 l = v) → Pa.shape0 l = v := fun _ _ _ h => h
  by_cases q1 : 0 < c7 + c8
  · by_cases qN : 0 < c2 + c3 + c4 + c5 + c6
    · rw [hs, if_pos ⟨q1, qN⟩]; exact shp_a vi g sc c0 c1 c2 c3 c4 c5 c6 c7 c8 c9 w hbb ⟨q1, qN⟩
    · have hn : ¬ (0 < c7 + c8 ∧ 0 < c2 + c3 + c4 + c5 + c6) := fun h => qN h.2
      rw [hs, if_neg hn]
      by_cases q7 : c7 = 0
      · by_cases q9 : c9 = 0
        · rw [if_neg (by omega), if_pos (by omega)]; exact shp_c1 vi g sc c0 c1 c2 c3 c4 c5 c6 c7 c8 c9 w hbb (by omega)
        · rw [if_neg (by omega), if_neg (by omega), if_neg (by omega), if_neg (by omega), if_neg (by omega)]; exact shp_c2 vi g sc c0 c1 c2 c3 c4 c5 c6 c7 c8 c9 w hbb (by omega)
      · by_cases q71 : c7 = 1
        · by_cases q8 : c8 = 0
          · rw [if_pos (by omega)]; exact shp_b1 vi g sc c0 c1 c2 c3 c4 c5 c6 c7 c8 c9 w hbb (by omega)
          · rw [if_neg (by omega), if_neg (by omega), if_neg (by omega), if_neg (by omega), if_neg (by omega)]; exact shp_b2 vi g sc c0 c1 c2 c3 c4 c5 c6 c7 c8 c9 w hbb (by omega)
        · rw [if_neg (by omega), if_neg (by omega), if_neg (by omega), if_neg (by omega), if_neg (by omega)]; exact shp_b3 vi g sc c0 c1 c2 c3 c4 c5 c6 c7 c8 c9 w hbb (by omega)
  · rw [hs, if_neg (by omega), if_neg (by omega), if_neg (by omega)]
    by_cases qN : 0 < c2 + c3 + c4 + c5 + c6
    · rw [if_neg (by omega)]
      by_cases q6 : c6 = 1
      · by_cases q3 : c3 + c4 + c5 = 0
        · rw [if_pos (by omega)]; exact shp_frac vi g sc l B c0 c1 c2 c3 c4 c5 c6 c7 c8 c9 w h hB hl hbb (by omega)
        · rw [if_neg (by omega), if_neg (by omega)]; exact shp_e2 vi g sc c0 c1 c2 c3 c4 c5 c6 c7 c8 c9 w hbb (by omega)
      · rw [if_neg (by omega)]
        by_cases q60 : c6 = 0
        · by_cases q2 : c2 = 0
          · rw [if_neg (by omega)]; exact shp_f1 vi g sc c0 c1 c2 c3 c4 c5 c6 c7 c8 c9 w hbb (by omega)
          · by_cases q3 : c3 ≤ 1
            · by_cases q4 : c4 ≤ 1
              · by_cases q5 : c5 ≤ 1
                · rw [if_pos (by omega)]; exact shp_numb vi g sc l B c0 c1 c2 c3 c4 c5 c6 c7 c8 c9 w h hB hl hbb (by omega)
                · rw [if_neg (by omega)]; exact shp_f4 vi g sc c0 c1 c2 c3 c4 c5 c6 c7 c8 c9 w hbb (by omega)
              · rw [if_neg (by omega)]; exact shp_f3 vi g sc c0 c1 c2 c3 c4 c5 c6 c7 c8 c9 w hbb (by omega)
            · rw [if_neg (by omega)]; exact shp_f2 vi g sc c0 c1 c2 c3 c4 c5 c6 c7 c8 c9 w hbb (by omega)
        · rw [if_neg (by omega)]; exact shp_e3 vi g sc c0 c1 c2 c3 c4 c5 c6 c7 c8 c9 w hbb (by omega)
    · rw [if_pos (by omega)]; exact shp_d vi g sc c0 c1 c2 c3 c4 c5 c6 c7 c8 c9 w hbb (by omega)
end Go.Proofs.YticodcecillciaaDoor
