/- A sign, if it is asked; a column's name; by the program. -/
import Derived.Test.YtbbeeglfgnabmaaDoorBase
import Derived.Test.YtbbeeglfgnabmaaDoorCell
import Derived.Test.YtbbeeglfgnabmaaDoorDec3
namespace Go.Proofs.YtbbeeglfgnabmaaDoor
set_option linter.all false
open Go.RowKit

theorem ce_mark_any (b : Bool) (w : World) : Calls Tryd.prog 37 #[.bool b] w (Ret0 (.string ⟨(Ce.mark b).toArray⟩) w) := by
  cases b with
  | true =>
    go_enter Tryd.func37, Tryd.ntmps37
    go_wp2
    go_ret
    exact Ret0.of rfl
  | false =>
    go_enter Tryd.func37, Tryd.ntmps37
    go_wp2
    go_ret
    exact Ret0.of rfl

theorem size_mk2 (c : UInt8) : (⟨#[c]⟩ : ByteArray).size = 1 := rfl
theorem enc_all : ∀ m : Fin 26, (Utf8.encode (65 + (m.1 : Int))).data.toList = [UInt8.ofNat (65 + m.1)] := by decide
theorem enc_at (k : Int) : (Utf8.encode (65 + k % 26)).data.toList = [UInt8.ofNat (65 + (k % 26).toNat)] := by
  have := enc_all ⟨(k % 26).toNat, by omega⟩
  rw [show (((⟨(k % 26).toNat, by omega⟩ : Fin 26).1 : Nat) : Int) = k % 26 by simp only; omega] at this
  exact this
theorem ce_name_any (n : Nat) (hn : n < 64) (w : World) : Calls Tryd.prog 38 #[.int .i64 n] w (Ret0 (.string ⟨(Ce.letters n).toArray⟩) w) := by
  obtain ⟨L, hL⟩ : ∃ L : ByteArray, L = ⟨(Ce.letters n).toArray⟩ := ⟨_, rfl⟩
  rw [← hL]
  have HL := Lib.hid hL; clear hL
  go_enter Tryd.func38, Tryd.ntmps38
  go_wp2_with fail
  go_loop [0, 3] (fun m s => ∃ (k : Int) (S : ByteArray), -1 ≤ k ∧ k ≤ 63 ∧ m = .int .i64 k ∧ s = .string S ∧ (k = n ∧ S = ⟨#[]⟩ ∨ 26 ≤ n ∧ k = (n : Int) / 26 - 1 ∧ S = ⟨#[UInt8.ofNat (65 + n % 26)]⟩ ∨ k = -1 ∧ S = L)) (fun m _ => (intOf m + 1).toNat)
  case atStart => exact ⟨n, ⟨#[]⟩, by omega, by omega, rfl, rfl, .inl ⟨rfl, rfl⟩⟩
  case round =>
    obtain ⟨k, S, hk1, hk2, rfl, rfl, hc⟩ := hrel
    have HC := Lib.hid hc; clear hc
    by_cases hk : 0 ≤ k
    · have henc := enc_at k
      obtain ⟨E, hE⟩ : ∃ E, Utf8.encode (65 + k % 26) = E := ⟨_, rfl⟩
      rw [hE] at henc
      have hES : E.size = 1 := by have := congrArg List.length henc; rw [bs_length] at this; simpa using this
      have hSS : S.size ≤ 2 := by
        rcases HC.out with ⟨_, e⟩ | ⟨_, _, e⟩ | ⟨e, _⟩
        · rw [e]; decide
        · rw [e, size_mk2]; omega
        · omega
      have s1 : ¬ 9223372036854775807 < E.size + S.size := by omega
      have HEN := Lib.hid henc; clear henc hES hSS
      go_wp2
      go_round
      case rel =>
        refine ⟨k / 26 - 1, E ++ S, by omega, by omega, rfl, rfl, ?_⟩
        rcases HC.out with ⟨e1, e2⟩ | ⟨e0, e1, e2⟩ | ⟨e1, _⟩
        · by_cases h26 : n < 26
          · right; right
            refine ⟨by omega, ?_⟩
            rw [HL.out]
            refine Dc.ba_eq _ _ ?_
            rw [Dc.ba_app, HEN.out, e2, Ce.letters, if_pos h26]
            simp only [List.append_nil]
            congr 2; omega
          · right; left
            refine ⟨by omega, by omega, ?_⟩
            refine Dc.ba_eq _ _ ?_
            rw [Dc.ba_app, HEN.out, e2]
            simp only [List.append_nil]
            congr 2; omega
        · right; right
          refine ⟨by omega, ?_⟩
          rw [HL.out]
          refine Dc.ba_eq _ _ ?_
          rw [Dc.ba_app, HEN.out, e2, Ce.letters, if_neg (by omega)]
          simp only [List.cons_append, List.nil_append]
          congr 2; omega
        · omega
      case measure => simp [intOf]; omega
    · have hS : S = L := by
        rcases HC.out with ⟨e1, _⟩ | ⟨_, e1, _⟩ | ⟨_, e⟩
        · omega
        · omega
        · exact e
      subst hS
      go_wp2
      go_ret
      exact Ret0.of rfl
end Go.Proofs.YtbbeeglfgnabmaaDoor
