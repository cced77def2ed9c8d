/- A column's name and a row's digits, by the reference. -/
import Derived.Test.YtbbeeglfgnabmaaDoorBase
import Derived.Test.YtbbeeglfgnabmaaDoorCell
import Derived.Test.YtbbeeglfgnabmaaDoorDec5
import Derived.Deep.QuietTactic
import Derived.BigQuiet
import Derived.IntWalk
namespace Go.Proofs.YtbbeeglfgnabmaaDoor
set_option linter.all false
open Go.RowKit

def AZ : ByteArray := ⟨#[65, 66, 67, 68, 69, 70, 71, 72, 73, 74, 75, 76, 77, 78, 79, 80, 81, 82, 83, 84, 85, 86, 87, 88, 89, 90]⟩
theorem az_all : ∀ m : Fin 26, (AZ.extract m.1 (m.1 + 1)).data.toList = [UInt8.ofNat (65 + m.1)] := by decide
theorem dg_all : ∀ m : Fin 10, ((⟨#[48, 49, 50, 51, 52, 53, 54, 55, 56, 57]⟩ : ByteArray).extract m.1 (m.1 + 1)).data.toList = [UInt8.ofNat (48 + m.1)] := by decide
theorem az_slice (n : Nat) (hn : n < 26) (w : World) : (Instr.slice 9 (.string ⟨#[65, 66, 67, 68, 69, 70, 71, 72, 73, 74, 75, 76, 77, 78, 79, 80, 81, 82, 83, 84, 85, 86, 87, 88, 89, 90]⟩) (some (.int .i64 (n : Int))) (some (.int .i64 ((n : Int) + 1))) none).run Tryd.prog w = .ok (.string ⟨#[UInt8.ofNat (65 + n)]⟩) w := by
  have hz : AZ.size = 26 := rfl
  have h := az_all ⟨n, hn⟩
  have h2 : AZ.extract n (n + 1) = ⟨#[UInt8.ofNat (65 + n)]⟩ := Dc.ba_eq _ _ h
  change (Instr.slice 9 (.string AZ) (some (.int .i64 (n : Int))) (some (.int .i64 ((n : Int) + 1))) none).run Tryd.prog w = _
  rw [run_slice_string_if w _ AZ .i64 .i64 _ _ Tryd.underlying9, if_pos (by omega), if_pos (by omega), show ((n : Int) + 1).toNat = n + 1 by omega, show ((n : Int)).toNat = n from rfl, h2]
theorem dg_slice (n : Nat) (hn : n < 10) (w : World) : (Instr.slice 9 (.string ⟨#[48, 49, 50, 51, 52, 53, 54, 55, 56, 57]⟩) (some (.int .i64 (n : Int))) (some (.int .i64 ((n : Int) + 1))) none).run Tryd.prog w = .ok (.string ⟨#[UInt8.ofNat (48 + n)]⟩) w := by
  have hz : (⟨#[48, 49, 50, 51, 52, 53, 54, 55, 56, 57]⟩ : ByteArray).size = 10 := rfl
  have h := dg_all ⟨n, hn⟩
  have h2 : (⟨#[48, 49, 50, 51, 52, 53, 54, 55, 56, 57]⟩ : ByteArray).extract n (n + 1) = ⟨#[UInt8.ofNat (48 + n)]⟩ := Dc.ba_eq _ _ h
  rw [run_slice_string_if w _ _ .i64 .i64 _ _ Tryd.underlying9, if_pos (by omega), if_pos (by omega), show ((n : Int) + 1).toNat = n + 1 by omega, show ((n : Int)).toNat = n from rfl, h2]

theorem r15_letters_one (n : Nat) (hn : n < 26) (w : World) : Calls Tryd.prog 40 #[.int .i64 n] w (Ret0 (.string ⟨(Ce.letters n).toArray⟩) w) := by
  have hsl := az_slice n hn
  rw [Ce.letters, if_pos hn]
  obtain ⟨X, hX⟩ : ∃ X : ByteArray, X = ⟨#[UInt8.ofNat (65 + n)]⟩ := ⟨_, rfl⟩
  rw [← hX] at hsl
  change Calls _ _ _ _ (Ret0 (.string ⟨#[UInt8.ofNat (65 + n)]⟩) w)
  rw [← hX]
  clear hX
  go_enter Tryd.func40, Tryd.ntmps40
  go_wp2
  go_ret
  exact Ret0.of rfl

theorem r15_digits_any (n : Nat) (hn : n ≤ 1000) (w : World) : Calls Tryd.prog 41 #[.int .i64 n] w (Ret0 (.string ⟨(Lib.decDigits n).toArray⟩) w) := by
  induction n using Nat.strongRecOn generalizing w with
  | _ n ih =>
    by_cases h : n < 10
    · have hsl := dg_slice n h
      rw [Lib.decDigits, dif_pos h]
      obtain ⟨X, hX⟩ : ∃ X : ByteArray, X = ⟨#[UInt8.ofNat (48 + n)]⟩ := ⟨_, rfl⟩
      rw [← hX] at hsl
      change Calls _ _ _ _ (Ret0 (.string ⟨#[UInt8.ofNat (48 + n)]⟩) w)
      rw [← hX]
      clear ih hX
      go_enter Tryd.func41, Tryd.ntmps41
      go_wp2
      go_ret
      exact Ret0.of rfl
    · obtain ⟨q, hq⟩ : ∃ q : Nat, q = n / 10 := ⟨_, rfl⟩
      obtain ⟨r, hr⟩ : ∃ r : Nat, r = n % 10 := ⟨_, rfl⟩
      have h1 := fun w => ih q (by omega) (by omega) w
      have h2 := fun w => ih r (by omega) (by omega) w
      obtain ⟨A1, hA1⟩ : ∃ A : ByteArray, A = ⟨(Lib.decDigits q).toArray⟩ := ⟨_, rfl⟩
      obtain ⟨A2, hA2⟩ : ∃ A : ByteArray, A = ⟨(Lib.decDigits r).toArray⟩ := ⟨_, rfl⟩
      obtain ⟨V, hV⟩ : ∃ A : ByteArray, A = ⟨(Lib.decDigits n).toArray⟩ := ⟨_, rfl⟩
      rw [← hA1] at h1; rw [← hA2] at h2; rw [← hV]
      have hVV : V = A1 ++ A2 := by
        rw [hV]
        refine (Dc.ba_eq _ _ ?_).symm
        have e0 : Lib.decDigits n = Lib.decDigits (n / 10) ++ [UInt8.ofNat (48 + n % 10)] := by
          conv => lhs; rw [Lib.decDigits, dif_neg h]
        rw [Dc.ba_app, hA1, hA2, e0, ← hq]
        have e : Lib.decDigits r = [UInt8.ofNat (48 + n % 10)] := by rw [Lib.decDigits, dif_pos (by omega), hr]
        simp only [e]
      have z1 : A1.size ≤ 7 := by rw [hA1, size_mk]; exact Ce.dec_len4 q (by omega)
      have z2 : A2.size ≤ 7 := by rw [hA2, size_mk]; exact Ce.dec_len4 r (by omega)
      have s1 : ¬ 9223372036854775807 < A1.size + A2.size := by omega
      have e1 : (n : Int) / 10 = (q : Int) := by omega
      have e2 : (n : Int) % 10 = (r : Int) := by omega
      have H1 := Lib.hid h1; have H2 := Lib.hid h2; have HV := Lib.hid hVV
      clear h1 h2 hVV hV hA1 hA2 hq hr ih
      go_enter Tryd.func41, Tryd.ntmps41
      go_wp2_with (first
        | (go_at_call 41; (with_reducible refine (H1.out _).mono ?_); rintro e w' ⟨rfl, rfl⟩)
        | (go_at_call 41; (with_reducible refine (H2.out _).mono ?_); rintro e w' ⟨rfl, rfl⟩))
      go_ret
      exact Ret0.of (congrArg Value.string HV.out.symm)
end Go.Proofs.YtbbeeglfgnabmaaDoor
