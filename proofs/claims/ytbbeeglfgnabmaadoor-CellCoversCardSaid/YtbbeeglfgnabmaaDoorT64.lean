/- Whatever the reference, program and reference write the same; the number of a letter, by the reference. -/
import Derived.Test.YtbbeeglfgnabmaaDoorT61
import Derived.Test.YtbbeeglfgnabmaaDoorT63
namespace Go.Proofs.YtbbeeglfgnabmaaDoor
set_option linter.all false
open Go.RowKit

theorem ce_print_any (c d : Int) (a b : Bool) (w : World) (ht : Tab w) : Calls Tryd.prog 14 #[.agg #[.int .i64 c, .int .i64 d, .bool a, .bool b]] w (RetB (.string ⟨(Ce.print ⟨c, d, a, b⟩).toArray⟩) w) := by
  cases h : Ce.right ⟨c, d, a, b⟩ with
  | false =>
    rw [Ce.print, if_neg (by rw [h]; simp)]; exact ce_print_no c d a b w h
  | true =>
    obtain ⟨g1, g2, g3, g4⟩ := (Ce.right_iff _).1 h
    simp only at g1 g2 g3 g4
    obtain ⟨c', rfl⟩ : ∃ n : Nat, c = n := ⟨c.toNat, by omega⟩
    obtain ⟨d', rfl⟩ : ∃ n : Nat, d = n := ⟨d.toNat, by omega⟩
    exact ce_print_yes c' d' a b w ht (by omega) (by omega) h
theorem r15_print_any (c d : Int) (a b : Bool) (w : World) : Calls Tryd.prog 15 #[.agg #[.int .i64 c, .int .i64 d, .bool a, .bool b]] w (RetB (.string ⟨(Ce.print ⟨c, d, a, b⟩).toArray⟩) w) := by
  cases h : Ce.right ⟨c, d, a, b⟩ with
  | false =>
    rw [Ce.print, if_neg (by rw [h]; simp)]; exact r15_print_no c d a b w h
  | true =>
    obtain ⟨g1, g2, g3, g4⟩ := (Ce.right_iff _).1 h
    simp only at g1 g2 g3 g4
    obtain ⟨c', rfl⟩ : ∃ n : Nat, c = n := ⟨c.toNat, by omega⟩
    obtain ⟨d', rfl⟩ : ∃ n : Nat, d = n := ⟨d.toNat, by omega⟩
    exact r15_print_yes c' d' a b w (by omega) (by omega) h

/-- The number of a letter, from 1 on; 0: it is none. -/
def letW (c : UInt8) : Int := if Ce.isLet c then Ce.letV c else 0
theorem r15_letter_any (c : UInt8) (w : World) : Calls Tryd.prog 36 #[.int .u8 c.toNat] w (Ret0 (.int .i64 (letW c)) w) := by
  obtain ⟨v, hv⟩ : ∃ v, v = letW c := ⟨_, rfl⟩
  rw [← hv]
  unfold letW Ce.isLet Ce.letV at hv
  obtain ⟨n, hn⟩ : ∃ n : Nat, n = c.toNat := ⟨_, rfl⟩
  rw [← hn] at hv ⊢
  have hb : n < 256 := by rw [hn]; exact c.toNat_lt
  clear hn
  by_cases h1 : 65 ≤ (n : Int)
  · by_cases h2 : (n : Int) ≤ 90
    · have he : v = (n : Int) - 65 + 1 := by
        have h5 : ¬ 97 ≤ (n : Int) := by omega
        rw [hv]; simp [h1, h2, h5]; omega
      have HE := Lib.hid he; clear hv he
      go_enter Tryd.func36, Tryd.ntmps36
      go_wp2
      go_ret
      exact Ret0.of (congrArg (Value.int .i64) HE.out.symm)
    · by_cases h3 : 97 ≤ (n : Int)
      · by_cases h4 : (n : Int) ≤ 122
        · have he : v = (n : Int) - 97 + 1 := by rw [hv]; simp [h3, h4]; omega
          have HE := Lib.hid he; clear hv he
          go_enter Tryd.func36, Tryd.ntmps36
          go_wp2
          go_ret
          exact Ret0.of (congrArg (Value.int .i64) HE.out.symm)
        · have he : v = 0 := by rw [hv]; simp [h2, h4]
          have HE := Lib.hid he; clear hv he
          go_enter Tryd.func36, Tryd.ntmps36
          go_wp2
          go_ret
          exact Ret0.of (congrArg (Value.int .i64) HE.out.symm)
      · have he : v = 0 := by rw [hv]; simp [h2, h3]
        have HE := Lib.hid he; clear hv he
        go_enter Tryd.func36, Tryd.ntmps36
        go_wp2
        go_ret
        exact Ret0.of (congrArg (Value.int .i64) HE.out.symm)
  · have h3 : ¬ 97 ≤ (n : Int) := by omega
    have he : v = 0 := by rw [hv]; simp [h1, h3]
    have HE := Lib.hid he; clear hv he
    go_enter Tryd.func36, Tryd.ntmps36
    go_wp2
    go_ret
    exact Ret0.of (congrArg (Value.int .i64) HE.out.symm)
end Go.Proofs.YtbbeeglfgnabmaaDoor
