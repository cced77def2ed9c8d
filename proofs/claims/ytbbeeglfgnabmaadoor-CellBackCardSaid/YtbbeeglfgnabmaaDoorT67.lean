/- A text with capital letters, by the statements' own function. -/
import Derived.Test.YtbbeeglfgnabmaaDoorBase
import Derived.Test.YtbbeeglfgnabmaaDoorCell
import Derived.Test.YtbbeeglfgnabmaaDoorBytes
import Derived.Maps.AppendAt
namespace Go.Proofs.YtbbeeglfgnabmaaDoor
set_option linter.all false
open Go.RowKit

def capB (c : UInt8) : UInt8 := if 97 ≤ c.toNat ∧ c.toNat ≤ 122 then c - 32 else c
theorem capB_yes {c : UInt8} (h : 97 ≤ (c.toNat : Int)) (h2 : (c.toNat : Int) ≤ 122) : ((capB c).toNat : Int) = (c.toNat : Int) - 32 := by
  unfold capB
  rw [if_pos (by omega), UInt8.toNat_sub_of_le _ _ (by simp [UInt8.le_iff_toNat_le]; omega)]
  simp; omega
theorem capB_no {c : UInt8} (h : ¬ (97 ≤ (c.toNat : Int) ∧ (c.toNat : Int) ≤ 122)) : capB c = c := by
  unfold capB
  rw [if_neg (by omega)]
theorem cap_snoc (s : ByteArray) (k : Nat) (h : k < s.size) : Ce.capital (s.data.toList.take (k + 1)) = Ce.capital (s.data.toList.take k) ++ [capB s[k]] := by
  rw [List.take_add_one, bs_getElem? s k h]
  simp [Ce.capital, capB]

set_option maxRecDepth 100000 in
set_option maxHeartbeats 2000000 in
theorem l15_capital_any (s : ByteArray) (w : World) (hs : s.size ≤ 1000000) : Calls Tryd.prog 21 #[.string s] w (RetB (.string ⟨(Ce.capital s.data.toList).toArray⟩) w) := by
  obtain ⟨R, hR⟩ : ∃ R : ByteArray, R = ⟨(Ce.capital s.data.toList).toArray⟩ := ⟨_, rfl⟩
  rw [← hR]
  have HR := Lib.hid hR; clear hR
  obtain ⟨i0, hI⟩ := info_parts Tryd.infoU8
  obtain ⟨hi, hz0, hz1, hz2⟩ := hI
  go_enter Tryd.func21, Tryd.ntmps21
  go_wp2_with fail
  go_loopw [3, 4] (fun v i wr => ∃ k : Nat, k ≤ s.size ∧ i = .int .i64 k ∧ RowB wr w.heap.size v (Ce.capital (s.data.toList.take k)) ∧ Below w.heap.size w wr) (fun _ i _ => s.size - (intOf i).toNat)
  case atStart => exact ⟨0, Nat.zero_le _, rfl, by simpa [Ce.capital] using RowB.nil _ _, Below.refl _ _⟩
  case round =>
    obtain ⟨k, hk, rfl, hrow, hbw⟩ := hrel
    have hsz := hbw.size
    by_cases hlt : k < s.size
    · have hsn := Lib.hid (cap_snoc s k hlt)
      obtain ⟨l, hl⟩ : ∃ l, l = Ce.capital (s.data.toList.take k) := ⟨_, rfl⟩
      rw [← hl] at hrow
      have hlen : l.length ≤ 1000000 := by rw [hl]; simp [Ce.capital]; omega
      have hown := hrow.own
      have HL := Lib.hid hl; clear hl
      obtain ⟨cc, hcc⟩ : ∃ c, c = capB s[k] := ⟨_, rfl⟩
      have HCC := Lib.hid hcc; clear hcc
      have hu : ((s[k].toNat : Int)) < 256 := by have := s[k].toNat_lt; omega
      by_cases h1 : 97 ≤ (s[k].toNat : Int) ∧ (s[k].toNat : Int) ≤ 122
      · have he : (cc.toNat : Int) = (s[k].toNat : Int) - 32 := by rw [HCC.out]; exact capB_yes h1.1 h1.2
        obtain ⟨h11, h12⟩ := h1
        have HE := Lib.hid he; clear he
        go_wp2_with (at_builtin; refine wpList_append_own _ rfl _ _ 61 rfl w.heap.size 5 i0 (.int .u8 0) 1 1 Tryd.underlying61 hi hz0 hz1 hz2 rfl (by decide) _ _ _ rfl (hown.alloc _) ⟨wr.heap.size, 0, none⟩ 1 1 [.int .u8 ((s[k].toNat : Int) - 32)] rfl rfl (cell_one_new _ _ _) (by simp [Value.oneCell']) (by unfold maxLen; omega) (by omega) (by simp; omega) ?_; intro v' w1 hown' hgrow hnil)
        have hrow' : RowB w1 w.heap.size v' (l ++ [cc]) := RowB.of hown' (by simp) (by simp [HE.out])
        have hbw' := (hbw.alloc (by omega) (.cells #[.int .u8 ((s[k].toNat : Int) - 32)] 5)).grown hgrow (by simp; omega) (fun j e => (hown.lt j e).1)
        clear hown' hgrow hnil
        go_wp2
        go_roundw
        case rel => exact ⟨k + 1, by omega, by go_num, by rw [hsn.out, ← HL.out, ← HCC.out]; exact hrow', hbw'⟩
        case measure => simp [intOf]; omega
      · have he : (cc.toNat : Int) = (s[k].toNat : Int) := by rw [HCC.out, capB_no h1]
        have HE := Lib.hid he; clear he
        by_cases h2 : 97 ≤ (s[k].toNat : Int)
        · have h3 : ¬ (s[k].toNat : Int) ≤ 122 := by omega
          clear h1
          go_wp2_with (at_builtin; refine wpList_append_own _ rfl _ _ 61 rfl w.heap.size 5 i0 (.int .u8 0) 1 1 Tryd.underlying61 hi hz0 hz1 hz2 rfl (by decide) _ _ _ rfl (hown.alloc _) ⟨wr.heap.size, 0, none⟩ 1 1 [.int .u8 (s[k].toNat : Int)] rfl rfl (cell_one_new _ _ _) (by simp [Value.oneCell']) (by unfold maxLen; omega) (by omega) (by simp; omega) ?_; intro v' w1 hown' hgrow hnil)
          have hrow' : RowB w1 w.heap.size v' (l ++ [cc]) := RowB.of hown' (by simp) (by simp [HE.out])
          have hbw' := (hbw.alloc (by omega) (.cells #[.int .u8 (s[k].toNat : Int)] 5)).grown hgrow (by simp; omega) (fun j e => (hown.lt j e).1)
          clear hown' hgrow hnil
          go_wp2
          go_roundw
          case rel => exact ⟨k + 1, by omega, by go_num, by rw [hsn.out, ← HL.out, ← HCC.out]; exact hrow', hbw'⟩
          case measure => simp [intOf]; omega
        · clear h1
          go_wp2_with (at_builtin; refine wpList_append_own _ rfl _ _ 61 rfl w.heap.size 5 i0 (.int .u8 0) 1 1 Tryd.underlying61 hi hz0 hz1 hz2 rfl (by decide) _ _ _ rfl (hown.alloc _) ⟨wr.heap.size, 0, none⟩ 1 1 [.int .u8 (s[k].toNat : Int)] rfl rfl (cell_one_new _ _ _) (by simp [Value.oneCell']) (by unfold maxLen; omega) (by omega) (by simp; omega) ?_; intro v' w1 hown' hgrow hnil)
          have hrow' : RowB w1 w.heap.size v' (l ++ [cc]) := RowB.of hown' (by simp) (by simp [HE.out])
          have hbw' := (hbw.alloc (by omega) (.cells #[.int .u8 (s[k].toNat : Int)] 5)).grown hgrow (by simp; omega) (fun j e => (hown.lt j e).1)
          clear hown' hgrow hnil
          go_wp2
          go_roundw
          case rel => exact ⟨k + 1, by omega, by go_num, by rw [hsn.out, ← HL.out, ← HCC.out]; exact hrow', hbw'⟩
          case measure => simp [intOf]; omega
    · have hkk : k = s.size := by omega
      subst hkk
      rw [List.take_of_length_le (by rw [bs_length]; omega)] at hrow
      obtain ⟨l, hl⟩ : ∃ l, l = Ce.capital s.data.toList := ⟨_, rfl⟩
      rw [← hl] at hrow
      have hlen : l.length = s.size := by rw [hl]; simp [Ce.capital]
      obtain ⟨av, cv, hv⟩ := hrow.shape
      subst hv
      have hstr : (convert 61 9 (.slice av l.length cv)).run Tryd.prog wr = .ok (.string R) wr := by
        have hr : R = ⟨l.toArray⟩ := by rw [hl]; exact HR.out
        by_cases h0 : 0 < l.length
        · rw [hr]; exact hrow.string h0
        · have e : l = [] := List.length_eq_zero_iff.1 (by omega)
          subst e
          rw [hr]
          cases av with
          | none => exact run_convert_bytes_nil _ _ 5 Tryd.underlying61 Tryd.underlying5 _ _ _ Tryd.underlying9
          | some ad => exact run_convert_bytes_back wr _ _ 5 ad cv [] Tryd.underlying61 Tryd.underlying5 Tryd.underlying9 (fun j hj => absurd hj (by simp))
      clear hl hrow hlen
      go_wp2
      go_ret
      exact RetB.of rfl hbw
end Go.Proofs.YtbbeeglfgnabmaaDoor
