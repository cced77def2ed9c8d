import Derived.Test.YtcbepojookbceaaDoorT2
import Derived.Test.YtcbepojookbceaaDoorDec2
namespace Go.Proofs.YtcbepojookbceaaDoor
set_option linter.all false
open Go.RowKit

set_option maxHeartbeats 1000000 in
theorem r7_make_any (n : Bool) (s : ByteArray) (x : Int) (w : World) (hs : s.size ≤ 1000000000) (hx : -9223372036854775808 ≤ x ∧ x ≤ 9223372036854775807) :
    Calls Tryd.prog 25 #[.bool n, .string s, .int .i64 x] w (RetB (Dc.mk n s.data.toList x).val w) := by
  obtain ⟨hx1, hx2⟩ := hx
  go_enter Tryd.func25, Tryd.ntmps25
  go_wp2_with fail
  go_loop [8] (fun i => ∃ k : Nat, k ≤ s.size ∧ i = .int .i64 k ∧ (s.data.toList.take k).all Dc.isDig = true) (fun i => s.size - (intOf i).toNat)
  case atStart => exact ⟨0, Nat.zero_le _, rfl, rfl⟩
  case round =>
    obtain ⟨k, hk, rfl, hall⟩ := hrel
    have HA := Lib.hid hall; clear hall
    by_cases hlt : k < s.size
    · have hsn := Lib.hid (all_take_snoc s k hlt Dc.isDig)
      have hno : Dc.isDig s[k] = false → Dc.mk n s.data.toList x = ⟨false, [], 0, 3⟩ := fun h => Dc.mk_bad (by rw [show Dc.allDig s.data.toList = false from all_take_snoc_false s k hlt _ h]; simp)
      have HNO := Lib.hid hno; clear hno
      go_wp2_with (go_at_call 48; (with_reducible refine (r7_digit_any _ _).mono ?_); rintro e w' ⟨rfl, rfl⟩)
      · have hd : (!Dc.isDig s[k]) = true := by assumption
        (refine bodyPost_ret (v := Dc.Res.val ⟨false, [], 0, 3⟩) (by (simp [results, Tryd.results25, go_sem, Dc.Res.val]; done)) rfl (RetB.of (by rw [HNO.out (by simpa using hd)]) (by (repeat (first | exact Below.refl _ _ | assumption | refine Below.setCell ?_ (by first | omega | (simp <;> omega)) _ | refine Below.alloc ?_ (by first | omega | (simp <;> omega)) _ | refine Below.drew ?_ | refine below_drewN' ?_ _)))))
      · have hd : (!Dc.isDig s[k]) = false := by assumption
        go_round
        case rel => exact ⟨k + 1, by omega, by go_num, by rw [hsn.out, HA.out]; simpa using hd⟩
        case measure => simp [intOf]; omega
    · have hdig : Dc.allDig s.data.toList = true := by have := HA.out; rwa [List.take_of_length_le (by simp; omega)] at this
      have HD := Lib.hid hdig; clear hdig HA
      go_wp2_with fail
      go_loop [10] (fun i => ∃ f : Nat, f ≤ s.size ∧ i = .int .i64 f ∧ (s.data.toList.take f).all Dc.is0 = true) (fun i => s.size - (intOf i).toNat)
      case atStart => exact ⟨0, Nat.zero_le _, rfl, rfl⟩
      case round =>
        obtain ⟨f, hf, rfl, hall⟩ := hrel
        have HA := Lib.hid hall; clear hall
        by_cases hgo : f < s.size ∧ ∃ h : f < s.size, (s[f].toNat : Int) = 48
        · obtain ⟨hlt2, _, h48⟩ := hgo
          have hb : ((s[f].toNat : Int) == 48) = true := by simpa using h48
          have hsn := Lib.hid (all_take_snoc s f hlt2 Dc.is0)
          have H48 := Lib.hid ((Dc.is0_iff s[f]).2 h48); clear h48
          go_wp2
          go_round
          case rel => exact ⟨f + 1, by omega, by go_num, by rw [hsn.out, HA.out, H48.out]; rfl⟩
          case measure => simp [intOf]; omega
        · have hex : ∀ h : f < s.size, ((s[f].toNat : Int) == 48) = false := fun h => by
            have : ¬ (s[f].toNat : Int) = 48 := fun e => hgo ⟨h, h, e⟩
            simpa using this
          have HEX := Lib.hid hex
          clear hgo
          by_cases hlt2 : f < s.size
          · have hfb := hex hlt2; clear hex
            go_wp2_with fail
            go_loop [11, 12] (fun t m => ∃ q : Nat, f ≤ q ∧ q ≤ s.size ∧ t = .int .i64 q ∧ m = .int .i64 (s.size - q) ∧ (s.data.toList.drop q).all Dc.is0 = true) (fun t _ => (intOf t).toNat)
            case atStart => exact ⟨s.size, hf, Nat.le_refl _, rfl, by simp, by rw [List.drop_of_length_le (by simp)]; rfl⟩
            case round =>
              obtain ⟨q, hfq, hqs, rfl, rfl, hall⟩ := hrel
              have HB := Lib.hid hall; clear hall
              by_cases hgo2 : ∃ h : f < q, (s[q - 1].toNat : Int) = 48
              · obtain ⟨hlt3, h48⟩ := hgo2
                have hfs : f < s.size := by omega
                have hb3 : ((s[q - 1].toNat : Int) == 48) = true := by simpa using h48
                have H48 := Lib.hid ((Dc.is0_iff s[q - 1]).2 h48); clear h48
                have hdc := Lib.hid (all_drop_cons s (q - 1) (by omega) Dc.is0)
                go_wp2
                go_round
                case rel => exact ⟨q - 1, by omega, by omega, by congr 1; omega, by congr 1; omega, by rw [hdc.out, H48.out, show q - 1 + 1 = q by omega, HB.out]; rfl⟩
                case measure => simp [intOf]; omega
              · by_cases hlt3 : f < q
                · by_cases hfs : f < s.size
                  case neg => exfalso; omega
                  case pos =>
                    have h48 : ¬ (s[q - 1].toNat : Int) = 48 := fun e => hgo2 ⟨hlt3, e⟩
                    have hb3 : ((s[q - 1].toNat : Int) == 48) = false := by simpa using h48
                    have hcc := Dc.cut_core s f q hlt3 hqs HA.out HB.out (fun e => by have := HEX.out (by omega); rw [e] at this; simp at this) h48
                    have hne : Dc.core s.data.toList ≠ [] := by
                      rw [hcc.1]; intro e
                      have := congrArg List.length e
                      rw [bs_length, ByteArray.size_extract] at this; simp at this; omega
                    have hrc := Dc.right_core (x + Dc.tz s.data.toList) HD.out hne
                    have hcl : (Dc.core s.data.toList).length = q - f := by rw [hcc.1, bs_length, ByteArray.size_extract]; omega
                    rw [hcl, hcc.2] at hrc
                    clear hgo2
                    by_cases hok : q - f ≤ 1100 ∧ x ≤ 100000 ∧ -100000 - ((s.size : Int) - q) ≤ x ∧ x + ((s.size : Int) - q) ≤ 100000
                    · have hmk : Dc.mk n s.data.toList x = ⟨n, (s.extract f q).data.toList, x + ((s.size : Int) - q), 0⟩ := by
                        rw [Dc.mk_ok HD.out hne (by rw [hcc.2]; exact hrc.2 (by omega)), hcc.1, hcc.2]
                      have HM := Lib.hid hmk; clear hmk hrc hcc hne hcl h48
                      obtain ⟨k1, k2, k3, k4⟩ := hok
                      have k0 : ((f : Int) == q) = false := by simp; omega
                      go_wp2
                      (refine bodyPost_ret (v := .tuple #[.agg #[.bool n, .string (s.extract f q), .int .i64 (x + ((s.size : Int) - q))], .int .i64 0]) (by (simp [results, Tryd.results25, go_sem]; done)) rfl (RetB.of (by rw [HM.out]; rfl) (by (repeat (first | exact Below.refl _ _ | assumption | refine Below.setCell ?_ (by first | omega | (simp <;> omega)) _ | refine Below.alloc ?_ (by first | omega | (simp <;> omega)) _ | refine Below.drew ?_ | refine below_drewN' ?_ _)))))
                    · have hmk : Dc.mk n s.data.toList x = ⟨false, [], 0, 2⟩ := by
                        rw [Dc.mk_over HD.out hne (by rw [hcc.2]; intro e; exact hok (by have := hrc.1 e; omega))]
                      have HM := Lib.hid hmk; have HK := Lib.hid hok; clear hmk hrc hcc hne hcl h48 hok
                      have k0 : ((f : Int) == q) = false := by simp; omega
                      go_wp2
                      all_goals first
                        | (exfalso; exact HK.out (by omega))
                        | (refine bodyPost_ret (v := Dc.Res.val ⟨false, [], 0, 2⟩) (by (simp [results, Tryd.results25, go_sem, Dc.Res.val]; done)) rfl (RetB.of (by rw [HM.out]) (by (repeat (first | exact Below.refl _ _ | assumption | refine Below.setCell ?_ (by first | omega | (simp <;> omega)) _ | refine Below.alloc ?_ (by first | omega | (simp <;> omega)) _ | refine Below.drew ?_ | refine below_drewN' ?_ _)))))
                · obtain rfl : q = f := by omega
                  have hmk : Dc.mk n s.data.toList x = ⟨n, [], 0, 0⟩ := Dc.mk_zero HD.out (Dc.cut_core_zero _ q HA.out HB.out)
                  have HM := Lib.hid hmk; clear hmk hgo2
                  go_wp2
                  (refine bodyPost_ret (v := Dc.Res.val ⟨n, [], 0, 0⟩) (by (simp [results, Tryd.results25, go_sem, Dc.Res.val]; done)) rfl (RetB.of (by rw [HM.out]) (by (repeat (first | exact Below.refl _ _ | assumption | refine Below.setCell ?_ (by first | omega | (simp <;> omega)) _ | refine Below.alloc ?_ (by first | omega | (simp <;> omega)) _ | refine Below.drew ?_ | refine below_drewN' ?_ _)))))
          · clear hex
            have e : f = s.size := by omega
            subst e
            have hmk : Dc.mk n s.data.toList x = ⟨n, [], 0, 0⟩ := Dc.mk_zero HD.out (Dc.cut_core_zero _ _ HA.out (by rw [List.drop_of_length_le (by simp)]; rfl))
            have HM := Lib.hid hmk; clear hmk
            go_wp2_with fail
            go_loop [11, 12] (fun t m => t = .int .i64 s.size ∧ m = .int .i64 0) (fun _ _ => 0)
            case atStart => exact ⟨rfl, rfl⟩
            case round =>
              obtain ⟨rfl, rfl⟩ := hrel
              go_wp2
              (refine bodyPost_ret (v := Dc.Res.val ⟨n, [], 0, 0⟩) (by (simp [results, Tryd.results25, go_sem, Dc.Res.val]; done)) rfl (RetB.of (by rw [HM.out]) (by (repeat (first | exact Below.refl _ _ | assumption | refine Below.setCell ?_ (by first | omega | (simp <;> omega)) _ | refine Below.alloc ?_ (by first | omega | (simp <;> omega)) _ | refine Below.drew ?_ | refine below_drewN' ?_ _)))))
end Go.Proofs.YtcbepojookbceaaDoor
