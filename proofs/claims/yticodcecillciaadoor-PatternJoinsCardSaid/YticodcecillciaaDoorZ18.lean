/- Patterns in the document: an item's text. -/
import Derived.Test.YticodcecillciaaDoorZ16
namespace Go.Proofs.YticodcecillciaaDoor
set_option linter.all false
open Go.RowKit

theorem bare_text {t : ByteArray} (h : Pa.bareTexts.contains t.data.toList = true) : t = ⟨#[32]⟩ ∨ t = ⟨#[45]⟩ ∨ t = ⟨#[43]⟩ ∨ t = ⟨#[40]⟩ ∨ t = ⟨#[41]⟩ ∨ t = ⟨#[58]⟩ := by
  rw [List.contains_iff_mem] at h
  simp only [Pa.bareTexts, List.mem_cons, List.not_mem_nil, or_false] at h
  rcases h with h | h | h | h | h | h
  · exact .inl (Pa.ba_ext h)
  · exact .inr (.inl (Pa.ba_ext h))
  · exact .inr (.inr (.inl (Pa.ba_ext h)))
  · exact .inr (.inr (.inr (.inl (Pa.ba_ext h))))
  · exact .inr (.inr (.inr (.inr (.inl (Pa.ba_ext h)))))
  · exact .inr (.inr (.inr (.inr (.inr (Pa.ba_ext h)))))

set_option maxRecDepth 100000 in
set_option maxHeartbeats 4000000 in
theorem r_sign_any (x : Pa.It) (w : World) (hx : Pa.rightI x = true) (hts : x.text.size ≤ 1000000000) : Calls Tryd.prog 34 #[itV x] w (RetB (.string ⟨(Pa.sign x).toArray⟩) w) := by
  obtain ⟨r, hr⟩ : ∃ r : ByteArray, r = ⟨(Pa.sign x).toArray⟩ := ⟨_, rfl⟩
  rw [← hr]
  obtain ⟨hk1, hk9⟩ := right_kind hx
  obtain ⟨k, t⟩ := x
  unfold itV
  simp only at hk1 hk9 hts ⊢
  have hts2 : (t.size : Int) ≤ 1000000000 := by omega
  by_cases h1 : k = 1
  · subst h1
    have hrs : r = if Pa.bareTexts.contains t.data.toList = true then t else (⟨#[92]⟩ : ByteArray) ++ t := by
      rw [hr]
      unfold Pa.sign
      simp only [if_true]
      split
      · exact (str_self t).symm
      · rw [str_cons]
    clear hr hx
    cases hb : Pa.bareTexts.contains t.data.toList with
    | true =>
      rw [hb, if_pos rfl] at hrs
      rcases bare_text hb with rfl | rfl | rfl | rfl | rfl | rfl
      all_goals
        clear hb
        subst hrs
        go_enter Tryd.func34, Tryd.ntmps34
        go_wp2_with fail
        go_ret
        exact RetB.of rfl (by (repeat (first | exact Below.refl _ _ | assumption | refine Below.setCell ?_ (by first | omega | (simp <;> omega)) _ | refine Below.alloc ?_ (by first | omega | (simp <;> omega)) _ | refine Below.drew ?_ | refine below_drewN' ?_ _)))
    | false =>
      rw [hb, if_neg (by simp)] at hrs
      have hne : ∀ q, q ∈ Pa.bareTexts → ¬ t.toList = q := fun q hq e => by
        rw [toList_data] at e
        rw [← e] at hq
        have := List.contains_iff_mem.2 hq
        rw [hb] at this; cases this
      have n1 := hne [32] (by decide); have n2 := hne [45] (by decide); have n3 := hne [43] (by decide); have n4 := hne [40] (by decide); have n5 := hne [41] (by decide); have n6 := hne [58] (by decide)
      have m1 := beq_eq_false_iff_ne.2 n1; have m2 := beq_eq_false_iff_ne.2 n2; have m3 := beq_eq_false_iff_ne.2 n3; have m4 := beq_eq_false_iff_ne.2 n4; have m5 := beq_eq_false_iff_ne.2 n5; have m6 := beq_eq_false_iff_ne.2 n6
      have HRS := Lib.hid hrs
      clear hb hrs hne
      go_enter Tryd.func34, Tryd.ntmps34
      go_wp2_with fail
      go_ret
      exact RetB.of (by rw [HRS.out]; rfl) (by (repeat (first | exact Below.refl _ _ | assumption | refine Below.setCell ?_ (by first | omega | (simp <;> omega)) _ | refine Below.alloc ?_ (by first | omega | (simp <;> omega)) _ | refine Below.drew ?_ | refine below_drewN' ?_ _)))
  have hcase : k = 2 ∨ k = 3 ∨ k = 4 ∨ k = 5 ∨ k = 6 ∨ k = 7 ∨ k = 8 ∨ k = 9 := by omega
  clear hx hk1 hk9
  rcases hcase with rfl | rfl | rfl | rfl | rfl | rfl | rfl | rfl
  · have HRS := Lib.hid (show r = t by rw [hr]; exact (str_self t).symm)
    clear hr h1
    go_enter Tryd.func34, Tryd.ntmps34
    go_wp2_with fail
    go_ret
    exact RetB.of (by rw [HRS.out]; rfl) (by (repeat (first | exact Below.refl _ _ | assumption | refine Below.setCell ?_ (by first | omega | (simp <;> omega)) _ | refine Below.alloc ?_ (by first | omega | (simp <;> omega)) _ | refine Below.drew ?_ | refine below_drewN' ?_ _)))
  · subst hr; clear h1
    go_enter Tryd.func34, Tryd.ntmps34
    go_wp2_with fail
    go_ret
    exact RetB.of rfl (by (repeat (first | exact Below.refl _ _ | assumption | refine Below.setCell ?_ (by first | omega | (simp <;> omega)) _ | refine Below.alloc ?_ (by first | omega | (simp <;> omega)) _ | refine Below.drew ?_ | refine below_drewN' ?_ _)))
  · subst hr; clear h1
    go_enter Tryd.func34, Tryd.ntmps34
    go_wp2_with fail
    go_ret
    exact RetB.of rfl (by (repeat (first | exact Below.refl _ _ | assumption | refine Below.setCell ?_ (by first | omega | (simp <;> omega)) _ | refine Below.alloc ?_ (by first | omega | (simp <;> omega)) _ | refine Below.drew ?_ | refine below_drewN' ?_ _)))
  · have HRS := Lib.hid (show r = (⟨#[69]⟩ : ByteArray) ++ t by rw [hr, str_cons]; rfl)
    clear hr h1
    go_enter Tryd.func34, Tryd.ntmps34
    go_wp2_with fail
    go_ret
    exact RetB.of (by rw [HRS.out]; rfl) (by (repeat (first | exact Below.refl _ _ | assumption | refine Below.setCell ?_ (by first | omega | (simp <;> omega)) _ | refine Below.alloc ?_ (by first | omega | (simp <;> omega)) _ | refine Below.drew ?_ | refine below_drewN' ?_ _)))
  all_goals
    subst hr; clear h1
    go_enter Tryd.func34, Tryd.ntmps34
    go_wp2_with fail
    go_ret
    exact RetB.of rfl (by (repeat (first | exact Below.refl _ _ | assumption | refine Below.setCell ?_ (by first | omega | (simp <;> omega)) _ | refine Below.alloc ?_ (by first | omega | (simp <;> omega)) _ | refine Below.drew ?_ | refine below_drewN' ?_ _)))
end Go.Proofs.YticodcecillciaaDoor
