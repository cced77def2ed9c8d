import Derived.Test.YtcbepojookbceaaDoorT31
namespace Go.Proofs.YtcbepojookbceaaDoor
set_option linter.all false
open Go.RowKit

theorem out_succ' (z : Nat) (g : Dc.Bs) (s : ByteArray) (k : Nat) (hk : k < s.size) : Lc.out z g s.data.toList 0 (k + 1) = Lc.out z g s.data.toList 0 k ++ ((if (decide (0 < k) && Lc.sep z (s.size - k)) = true then g else []) ++ [s[k]]) := by
  have e : s.data.toList.getD k 48 = s[k] := by rw [List.getD_eq_getElem?_getD, bs_getElem? s k hk]; rfl
  rw [Lc.out, Nat.zero_add, e, bs_length]

set_option maxRecDepth 100000 in
set_option maxHeartbeats 2000000 in
theorem r11_grouped_any (l : Lc.Loc) (s : ByteArray) (w : World) (hs : s.size ≤ 100000) (hg : l.grp.length ≤ 10) :
    Calls Tryd.prog 18 #[RV l, .string s] w (RetB (tx (Lc.grouped l.second l.grp s.data.toList)) w) := by
  obtain ⟨z, hz⟩ : ∃ z, z = l.second := ⟨_, rfl⟩
  have hz23 := Lc.second_pos l
  obtain ⟨r, hr⟩ : ∃ r : ByteArray, r = ⟨(Lc.grouped z l.grp s.data.toList).toArray⟩ := ⟨_, rfl⟩
  unfold RV tx
  rw [← hz] at hz23 ⊢
  rw [← hr]
  obtain ⟨hz2, hz3⟩ := hz23
  obtain ⟨G, hG⟩ : ∃ G : ByteArray, G = ⟨l.grp.toArray⟩ := ⟨_, rfl⟩
  have hGs : G.size ≤ 10 := by rw [hG, size_mk]; exact hg
  rw [← hG]
  have HR := Lib.hid hr; have HGG := Lib.hid hG; have HZ := Lib.hid hz
  clear hr hG hz
  obtain ⟨v0, hv0⟩ : ∃ v : ByteArray, v = ⟨l.name.toArray⟩ := ⟨_, rfl⟩
  obtain ⟨v1, hv1⟩ : ∃ v : ByteArray, v = ⟨l.dec.toArray⟩ := ⟨_, rfl⟩
  obtain ⟨v3, hv3⟩ : ∃ v : ByteArray, v = ⟨l.list.toArray⟩ := ⟨_, rfl⟩
  obtain ⟨v4, hv4⟩ : ∃ v : ByteArray, v = ⟨l.minus.toArray⟩ := ⟨_, rfl⟩
  obtain ⟨v6, hv6⟩ : ∃ v : ByteArray, v = ⟨l.cur.toArray⟩ := ⟨_, rfl⟩
  obtain ⟨f7, hf7⟩ : ∃ v, v = l.first := ⟨_, rfl⟩
  obtain ⟨f8, hf8⟩ : ∃ v, v = l.space := ⟨_, rfl⟩
  rw [← hv0, ← hv1, ← hv3, ← hv4, ← hv6, ← hf7, ← hf8]
  clear hv0 hv1 hv3 hv4 hv6 hf7 hf8
  have hz1 : 1 ≤ (z : Int) := by omega
  have hzb : (z : Int) ≤ 3 := by omega
  go_enter Tryd.func18, Tryd.ntmps18
  go_wp2_with fail
  go_loop [5, 6] (fun ss i => ∃ (j : Nat) (S : ByteArray), j ≤ s.size ∧ i = .int .i64 j ∧ ss = .string S ∧ S = ⟨(Lc.out z l.grp s.data.toList 0 j).toArray⟩) (fun _ i => s.size - (intOf i).toNat)
  case atStart => exact ⟨0, ⟨#[]⟩, Nat.zero_le _, rfl, rfl, rfl⟩
  case round =>
    obtain ⟨j, S, hj, rfl, rfl, hS⟩ := hrel
    have hSs : S.size ≤ 2000000 := by
      rw [hS, size_mk]
      have h1 := out_len z l.grp s.data.toList 0 j
      have h2 : j * (l.grp.length + 1) ≤ 100000 * 11 := Nat.mul_le_mul (by omega) (by omega)
      omega
    have HSS := Lib.hid hS; clear hS
    by_cases hlt : j < s.size
    · have hsc := out_succ' z l.grp s j hlt
      obtain ⟨T, hT⟩ : ∃ T, T = s.extract j (j + 1) := ⟨_, rfl⟩
      have hTs : T.size = 1 := by rw [hT, ByteArray.size_extract]; omega
      have hTd : T.data.toList = [s[j]] := by
        rw [hT, Lib.extract_data, show j + 1 - j = 1 by omega]
        have h1 := bs_getElem? s j hlt
        have h2 : j < s.data.toList.length := by rw [bs_length]; exact hlt
        rw [List.drop_eq_getElem_cons h2]
        rw [List.getElem?_eq_getElem h2] at h1
        rw [Option.some.inj h1]; rfl
      have hsl : ∀ w : World, (Instr.slice 9 (.string s) (some (.int .i64 j)) (some (.int .i64 ((j : Int) + 1))) none).run Tryd.prog w = .ok (.string T) w := fun w => by
        rw [hT, run_slice_string_if w _ s .i64 .i64 j ((j : Int) + 1) Tryd.underlying9, if_pos (by omega), if_pos (by omega)]; rfl
      have s1 : ¬ 9223372036854775807 < S.size + G.size := by omega
      have s2 : ¬ 9223372036854775807 < S.size + T.size := by omega
      have s3 : ¬ 9223372036854775807 < S.size + G.size + T.size := by omega
      have HSC := Lib.hid hsc; have HT := Lib.hid hTd; have HTs := Lib.hid hTs; clear hsc hT hTs hTd
      by_cases hsep : (decide (0 < j) && Lc.sep z (s.size - j)) = true
      · have h1 : 0 < j ∧ 3 ≤ s.size - j ∧ (s.size - j - 3) % z = 0 := by simpa [Lc.sep] using hsep
        obtain ⟨h2, h3, h4⟩ := h1
        have e1 : 3 ≤ (s.size : Int) - j := by omega
        have e2 : (((s.size : Int) - j - 3) % (z : Int) == 0) = true := by
          have : (((s.size - j - 3 : Nat) : Int)) % (z : Int) = ((s.size - j - 3) % z : Nat) := by omega
          rw [show ((s.size : Int) - j - 3) = ((s.size - j - 3 : Nat) : Int) by omega, this, h4]; rfl
        have HSEP := Lib.hid hsep; clear hsep h3 h4
        go_wp2
        go_round
        case rel => exact ⟨j + 1, S ++ G ++ T, by omega, by go_num, rfl, Dc.ba_eq _ _ (by rw [HSC.out, if_pos HSEP.out, Dc.ba_app, Dc.ba_app, HT.out, HSS.out, HGG.out, List.append_assoc])⟩
        case measure => simp [intOf]; omega
      · have hsf : (decide (0 < j) && Lc.sep z (s.size - j)) = false := by simpa using hsep
        have hrel2 : S ++ T = ⟨(Lc.out z l.grp s.data.toList 0 (j + 1)).toArray⟩ := Dc.ba_eq _ _ (by rw [HSC.out, if_neg hsep, Dc.ba_app, HT.out, HSS.out]; rfl)
        have HREL := Lib.hid hrel2
        by_cases c1 : 0 < j
        · by_cases c2 : 3 ≤ (s.size : Int) - j
          · have h4 : ¬ (s.size - j - 3) % z = 0 := by
              intro e
              apply hsep
              simp [Lc.sep, c1, e]; omega
            have e2 : (((s.size : Int) - j - 3) % (z : Int) == 0) = false := by
              rw [show ((s.size : Int) - j - 3) = ((s.size - j - 3 : Nat) : Int) by omega]
              rw [beq_eq_false_iff_ne]; omega
            clear hsep hsf h4 hrel2
            go_wp2
            go_round
            case rel => exact ⟨j + 1, S ++ T, by omega, by go_num, rfl, HREL.out⟩
            case measure => simp [intOf]; omega
          · clear hsep hsf hrel2
            go_wp2
            go_round
            case rel => exact ⟨j + 1, S ++ T, by omega, by go_num, rfl, HREL.out⟩
            case measure => simp [intOf]; omega
        · clear hsep hsf hrel2
          go_wp2
          go_round
          case rel => exact ⟨j + 1, S ++ T, by omega, by go_num, rfl, HREL.out⟩
          case measure => simp [intOf]; omega
    · have hf : S = r := by rw [HSS.out, HR.out, Lc.grouped, bs_length, show j = s.size by omega]
      have HF := Lib.hid hf; clear hf
      go_wp2
      go_ret
      exact RetB.of (congrArg Value.string HF.out) (by (repeat (first | exact Below.refl _ _ | assumption | refine Below.setCell ?_ (by first | omega | (simp <;> omega)) _ | refine Below.alloc ?_ (by first | omega | (simp <;> omega)) _ | refine Below.drew ?_ | refine below_drewN' ?_ _)))
end Go.Proofs.YtcbepojookbceaaDoor
