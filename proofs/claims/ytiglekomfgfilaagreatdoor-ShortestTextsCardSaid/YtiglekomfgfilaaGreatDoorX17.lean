import Derived.Test.YtiglekomfgfilaaGreatDoorX14
import Derived.Test.YtiglekomfgfilaaGreatDoorX5
import Derived.Test.YtiglekomfgfilaaGreatDoorX16
import Derived.Shelf.Strings.SlTrimAscii
import Derived.Deep.QuietTactic
import Derived.BigQuiet
namespace Go.Proofs.YtiglekomfgfilaaGreatDoor
set_option maxRecDepth 100000
set_option maxHeartbeats 1000000
set_option linter.all false
open Go.RowKit
theorem r7_make_any (n : Bool) (s : ByteArray) (x : Int) (w : World) (hs : s.size ≤ 1000000000) (hx : -9223372036854775808 ≤ x ∧ x ≤ 9223372036854775807) :
    Calls Tryz.prog 24 #[.bool n, .string s, .int .i64 x] w (RetB (Dc.mk n s.data.toList x).val w) := by
  obtain ⟨hx1, hx2⟩ := hx
  go_enter Tryz.func24, Tryz.ntmps24
  go_wp2_with fail
  go_loop [8] (fun i => ∃ k : Nat, k ≤ s.size ∧ i = .int .i64 k ∧ (s.data.toList.take k).all Dc.isDig = true) (fun i => s.size - (intOf i).toNat)
  case atStart => exact ⟨0, Nat.zero_le _, rfl, rfl⟩
  case round =>
    obtain ⟨k, hk, rfl, hall⟩ := hrel
    have HA := Lib.hid hall; clear hall
    by_cases hlt : k < s.size
    · have hsn := Lib.hid (all_take_snoc s k hlt Dc.isDig)
      have hno : Dc.isDig s[k] = false → Dc.mk n s.data.toList x = ⟨false, [], 0, 3⟩ := fun h => Dc.mk_bad (by rw [show Dc.allDig s.data.toList = false from all_take_snoc_false s k hlt _ h]; simp)
      have HNO := Lib.hid hno; clear hno
      go_wp2_with (go_at_call 61; (with_reducible refine (r7_digit_any _ _).mono ?_); rintro e w' ⟨rfl, rfl⟩)
      · have hd : (!Dc.isDig s[k]) = true := by assumption
        (refine bodyPost_ret (v := Dc.Res.val ⟨false, [], 0, 3⟩) (by (simp [results, Tryz.results24, go_sem, Dc.Res.val]; done)) rfl (RetB.of (by rw [HNO.out (by simpa using hd)]) (by (repeat (first | exact Below.refl _ _ | assumption | refine Below.setCell ?_ (by first | omega | (simp <;> omega)) _ | refine Below.alloc ?_ (by first | omega | (simp <;> omega)) _ | refine Below.drew ?_ | refine below_drewN' ?_ _)))))
      · have hd : (!Dc.isDig s[k]) = false := by assumption
        go_round
        case rel => exact ⟨k + 1, by omega, by go_num, by rw [hsn.out, HA.out]; simpa using hd⟩
        case measure => simp [intOf]; omega
    · have hdig : Dc.allDig s.data.toList = true := by have := HA.out; rwa [List.take_of_length_le (by simp; omega)] at this
      have HD := Lib.hid hdig; clear hdig HA
      go_wp2_with fail
      go_loop [10] (fun i => ∃ f : Nat, f ≤ s.size ∧ i = .int .i64 f ∧ (s.data.toList.take f).all Dc.is0 = true) (fun i => s.size - (intOf i).toNat)
      case atStart => exact ⟨0, Nat.zero_le _, rfl, rfl⟩
      case round =>
        obtain ⟨f, hf, rfl, hall⟩ := hrel
        have HA := Lib.hid hall; clear hall
        by_cases hgo : f < s.size ∧ ∃ h : f < s.size, (s[f].toNat : Int) = 48
        · obtain ⟨hlt2, _, h48⟩ := hgo
          have hb : ((s[f].toNat : Int) == 48) = true := by simpa using h48
          have hsn := Lib.hid (all_take_snoc s f hlt2 Dc.is0)
          have H48 := Lib.hid ((Dc.is0_iff s[f]).2 h48); clear h48
          go_wp2
          go_round
          case rel => exact ⟨f + 1, by omega, by go_num, by rw [hsn.out, HA.out, H48.out]; rfl⟩
          case measure => simp [intOf]; omega
        · have hex : ∀ h : f < s.size, ((s[f].toNat : Int) == 48) = false := fun h => by
            have : ¬ (s[f].toNat : Int) = 48 := fun e => hgo ⟨h, h, e⟩
            simpa using this
          have HEX := Lib.hid hex
          clear hgo
          by_cases hlt2 : f < s.size
          · have hfb := hex hlt2; clear hex
            go_wp2_with fail
            go_loop [11, 12] (fun t m => ∃ q : Nat, f ≤ q ∧ q ≤ s.size ∧ t = .int .i64 q ∧ m = .int .i64 (s.size - q) ∧ (s.data.toList.drop q).all Dc.is0 = true) (fun t _ => (intOf t).toNat)
            case atStart => exact ⟨s.size, hf, Nat.le_refl _, rfl, by simp, by rw [List.drop_of_length_le (by simp)]; rfl⟩
            case round =>
              obtain ⟨q, hfq, hqs, rfl, rfl, hall⟩ := hrel
              have HB := Lib.hid hall; clear hall
              by_cases hgo2 : ∃ h : f < q, (s[q - 1].toNat : Int) = 48
              · obtain ⟨hlt3, h48⟩ := hgo2
                have hfs : f < s.size := by omega
                have hb3 : ((s[q - 1].toNat : Int) == 48) = true := by simpa using h48
                have H48 := Lib.hid ((Dc.is0_iff s[q - 1]).2 h48); clear h48
                have hdc := Lib.hid (all_drop_cons s (q - 1) (by omega) Dc.is0)
                go_wp2
                go_round
                case rel => exact ⟨q - 1, by omega, by omega, by congr 1; omega, by congr 1; omega, by rw [hdc.out, H48.out, show q - 1 + 1 = q by omega, HB.out]; rfl⟩
                case measure => simp [intOf]; omega
              · by_cases hlt3 : f < q
                · by_cases hfs : f < s.size
                  case neg => exfalso; omega
                  case pos =>
                    have h48 : ¬ (s[q - 1].toNat : Int) = 48 := fun e => hgo2 ⟨hlt3, e⟩
                    have hb3 : ((s[q - 1].toNat : Int) == 48) = false := by simpa using h48
                    have hcc := Dc.cut_core s f q hlt3 hqs HA.out HB.out (fun e => by have := HEX.out (by omega); rw [e] at this; simp at this) h48
                    have hne : Dc.core s.data.toList ≠ [] := by
                      rw [hcc.1]; intro e
                      have := congrArg List.length e
                      rw [bs_length, ByteArray.size_extract] at this; simp at this; omega
                    have hrc := Dc.right_core (x + Dc.tz s.data.toList) HD.out hne
                    have hcl : (Dc.core s.data.toList).length = q - f := by rw [hcc.1, bs_length, ByteArray.size_extract]; omega
                    rw [hcl, hcc.2] at hrc
                    clear hgo2
                    by_cases hok : q - f ≤ 1100 ∧ x ≤ 100000 ∧ -100000 - ((s.size : Int) - q) ≤ x ∧ x + ((s.size : Int) - q) ≤ 100000
                    · have hmk : Dc.mk n s.data.toList x = ⟨n, (s.extract f q).data.toList, x + ((s.size : Int) - q), 0⟩ := by
                        rw [Dc.mk_ok HD.out hne (by rw [hcc.2]; exact hrc.2 (by omega)), hcc.1, hcc.2]
                      have HM := Lib.hid hmk; clear hmk hrc hcc hne hcl h48
                      obtain ⟨k1, k2, k3, k4⟩ := hok
                      have k0 : ((f : Int) == q) = false := by simp; omega
                      go_wp2
                      (refine bodyPost_ret (v := .tuple #[.agg #[.bool n, .string (s.extract f q), .int .i64 (x + ((s.size : Int) - q))], .int .i64 0]) (by (simp [results, Tryz.results24, go_sem]; done)) rfl (RetB.of (by rw [HM.out]; rfl) (by (repeat (first | exact Below.refl _ _ | assumption | refine Below.setCell ?_ (by first | omega | (simp <;> omega)) _ | refine Below.alloc ?_ (by first | omega | (simp <;> omega)) _ | refine Below.drew ?_ | refine below_drewN' ?_ _)))))
                    · have hmk : Dc.mk n s.data.toList x = ⟨false, [], 0, 2⟩ := by
                        rw [Dc.mk_over HD.out hne (by rw [hcc.2]; intro e; exact hok (by have := hrc.1 e; omega))]
                      have HM := Lib.hid hmk; have HK := Lib.hid hok; clear hmk hrc hcc hne hcl h48 hok
                      have k0 : ((f : Int) == q) = false := by simp; omega
                      go_wp2
                      all_goals first
                        | (exfalso; exact HK.out (by omega))
                        | (refine bodyPost_ret (v := Dc.Res.val ⟨false, [], 0, 2⟩) (by (simp [results, Tryz.results24, go_sem, Dc.Res.val]; done)) rfl (RetB.of (by rw [HM.out]) (by (repeat (first | exact Below.refl _ _ | assumption | refine Below.setCell ?_ (by first | omega | (simp <;> omega)) _ | refine Below.alloc ?_ (by first | omega | (simp <;> omega)) _ | refine Below.drew ?_ | refine below_drewN' ?_ _)))))
                · obtain rfl : q = f := by omega
                  have hmk : Dc.mk n s.data.toList x = ⟨n, [], 0, 0⟩ := Dc.mk_zero HD.out (Dc.cut_core_zero _ q HA.out HB.out)
                  have HM := Lib.hid hmk; clear hmk hgo2
                  go_wp2
                  (refine bodyPost_ret (v := Dc.Res.val ⟨n, [], 0, 0⟩) (by (simp [results, Tryz.results24, go_sem, Dc.Res.val]; done)) rfl (RetB.of (by rw [HM.out]) (by (repeat (first | exact Below.refl _ _ | assumption | refine Below.setCell ?_ (by first | omega | (simp <;> omega)) _ | refine Below.alloc ?_ (by first | omega | (simp <;> omega)) _ | refine Below.drew ?_ | refine below_drewN' ?_ _)))))
          · clear hex
            have e : f = s.size := by omega
            subst e
            have hmk : Dc.mk n s.data.toList x = ⟨n, [], 0, 0⟩ := Dc.mk_zero HD.out (Dc.cut_core_zero _ _ HA.out (by rw [List.drop_of_length_le (by simp)]; rfl))
            have HM := Lib.hid hmk; clear hmk
            go_wp2_with fail
            go_loop [11, 12] (fun t m => t = .int .i64 s.size ∧ m = .int .i64 0) (fun _ _ => 0)
            case atStart => exact ⟨rfl, rfl⟩
            case round =>
              obtain ⟨rfl, rfl⟩ := hrel
              go_wp2
              (refine bodyPost_ret (v := Dc.Res.val ⟨n, [], 0, 0⟩) (by (simp [results, Tryz.results24, go_sem, Dc.Res.val]; done)) rfl (RetB.of (by rw [HM.out]) (by (repeat (first | exact Below.refl _ _ | assumption | refine Below.setCell ?_ (by first | omega | (simp <;> omega)) _ | refine Below.alloc ?_ (by first | omega | (simp <;> omega)) _ | refine Below.drew ?_ | refine below_drewN' ?_ _)))))
end Go.Proofs.YtiglekomfgfilaaGreatDoor

/- The reference: a natural times a power of two as a decimal. -/
namespace Go.Proofs.YtiglekomfgfilaaGreatDoor
set_option maxRecDepth 100000
set_option maxHeartbeats 4000000
set_option linter.all false
open Go.RowKit
attribute [local go_sem] Fl.dv
theorem Fl.make7_any (s : Bool) (v : Nat) (x : Int) (w : World) (hv : (Na.limbs v).length ≤ 1000) (hx : -9223372036854775808 ≤ x ∧ x ≤ 9223372036854775807) :
    Calls Tryz.prog 24 #[.bool s, .string ⟨(Lib.decDigits v).toArray⟩, .int .i64 x] w (RetB (.tuple #[Fl.dv (Dc.mk s (Lib.decDigits v) x), .int .i64 (Dc.mk s (Lib.decDigits v) x).e]) w) := by
  have h1 := dec_len_le (Na.limbs v) (Na.ok_limbs v)
  rw [Na.val_limbs] at h1
  exact r7_make_any s ⟨(Lib.decDigits v).toArray⟩ x w (by rw [size_mk]; omega) hx
theorem Fl.digits1_any (a : Option Addr) (c v : Nat) (w : World) (hs : Sl w a c (Na.limbs v)) (hz : a = none → c = 0) (hv : (Na.limbs v).length ≤ 1000) :
    Calls Tryz.prog 87 #[.slice a (Na.limbs v).length c] w (RetB (.string ⟨(Lib.decDigits v).toArray⟩) w) := by
  have := r1_digits_any a c (Na.limbs v) w hs hz (by omega)
  rwa [Na.val_limbs] at this
theorem r9_of_up (s : Bool) (a : Option Addr) (c n k : Nat) (w : World) (h : Sl w a c (Na.limbs n)) (hz : a = none → c = 0) (hn : n < Na.B ^ 2) (hk : k ≤ 1100) :
    Calls Tryz.prog 57 #[.bool s, .slice a (Na.limbs n).length c, .int .i64 k] w (RetB (Fl.dv (Fl.of s n k)) w) := by
  have hof : Fl.of s n k = Dc.mk s (Lib.decDigits (n * 2 ^ k)) 0 := by rw [Fl.of, if_pos (by omega), Int.toNat_natCast]
  have hln := Fl.len2 hn
  have hl := Fl.len_mul_pow n 2 k hn (by decide) (by omega)
  have hup := fun wr (hb : Below w.heap.size w wr) => r3_up_any a c (Na.limbs n) k wr (h.on hb) hz (by omega) (by omega)
  rw [Na.val_limbs] at hup
  rw [hof]
  obtain ⟨v, hv⟩ : ∃ v, v = n * 2 ^ k := ⟨_, rfl⟩
  rw [← hv] at hup hl ⊢
  have HD := Lib.hid (fun w1 a1 c1 (hs : Sl w1 a1 c1 (Na.limbs v)) (hz : a1 = none → c1 = 0) => Fl.digits1_any a1 c1 v w1 hs hz (by omega))
  have HM := Lib.hid (fun w1 => Fl.make7_any s v 0 w1 (by omega) (by omega))
  have HS := Lib.hid hup
  obtain ⟨S, hS⟩ : ∃ S : ByteArray, S = ⟨(Lib.decDigits v).toArray⟩ := ⟨_, rfl⟩
  obtain ⟨R, hR⟩ : ∃ R, R = Dc.mk s (Lib.decDigits v) 0 := ⟨_, rfl⟩
  rw [← hS] at HD HM
  rw [← hR] at HM ⊢
  clear hv hof hS hR hup
  go_enter Tryz.func57, Tryz.ntmps57
  go_wp2_with (first
    | (go_at_call 54; (with_reducible refine (HS.out _ ?_).mono ?_); exact (Below.refl _ _).alloc (Nat.le_refl _) _; rintro e w1 ⟨a1, c1, rfl, s1, z1, -, hb1⟩; have zz1 := (Z3.new w).on hb1; have hB1 : Below w.heap.size w w1 := Below.trans ((Below.refl _ _).alloc (Nat.le_refl _) _) (hb1.mono (by simp)))
    | (go_at_call 87; (with_reducible refine (HD.out _ _ _ s1 z1).mono ?_); rintro e w2 ⟨rfl, hb2⟩; have zz2 := zz1.on hb2; have hB2 := hB1.trans (hb2.mono hB1.size))
    | (go_at_call 24; (with_reducible refine (HM.out _).mono ?_); rintro e w3 ⟨rfl, hb3⟩; have hB3 := hB2.trans (hb3.mono hB2.size); have zz3 := zz2.on hb3; obtain ⟨y0, y1, y2, yf, yl⟩ := zz3; have yf0 := yf 0; have yf1 := yf 1; have yf2 := yf 2; have yn : ¬ w.heap.size = w3.heap.size := (by omega); have yn' : ¬ w3.heap.size = w.heap.size := (by omega)))
  refine bodyPost_ret (v := Fl.dv R) (by simp [results, Tryz.results57, go_sem, y0, y1, y2, yf0, yf1, yf2, yn, yn', yl]; done) rfl (RetB.of rfl (by (repeat (first | exact Below.refl _ _ | assumption | refine Below.setCell ?_ (by first | omega | (simp <;> omega)) _ | refine Below.alloc ?_ (by first | omega | (simp <;> omega)) _ | refine Below.drew ?_ | refine below_drewN' ?_ _))))
def halfLoop9 (n k : Nat) (w : World) (nv ev : Value) (wr : World) : Prop := ∃ (m j : Nat) (z : Int) (a : Option Addr) (c : Nat), nv = .slice a (Na.limbs m).length c ∧ ev = .int .i64 z ∧ Hid (z = -(j : Int)) ∧ j ≤ k ∧ m < Na.B ^ 2 ∧ Hid (Fl.halve k n = Fl.halve j m) ∧ Hid (Sl wr a c (Na.limbs m)) ∧ Hid (a = none → c = 0) ∧ Hid (Z3 wr w.heap.size) ∧ Hid (Below w.heap.size w wr)
theorem lit_two (w : World) : Sl (w.alloc (Obj.cells #[Value.int IntKind.u32 2] 81)) (some ⟨w.heap.size, 0, none⟩) 1 [2] := lit_sl w 2 (by decide)
theorem Na.bit0 (m : Nat) : Na.bit m 0 = decide (m % 2 = 1) := by rw [Na.bit, Nat.pow_zero, Nat.div_one]
theorem r9_of_down (s : Bool) (a : Option Addr) (c n k : Nat) (w : World) (h : Sl w a c (Na.limbs n)) (hz : a = none → c = 0) (hn : n < Na.B ^ 2) (hk0 : 0 < k) (hk : k ≤ 1100) :
    Calls Tryz.prog 57 #[.bool s, .slice a (Na.limbs n).length c, .int .i64 (-(k : Int))] w (RetB (Fl.dv (Fl.of s n (-(k : Int)))) w) := by
  have HOF := Lib.hid (show Fl.of s n (-(k : Int)) = Dc.mk s (Lib.decDigits ((Fl.halve k n).1 * 5 ^ (Fl.halve k n).2)) (-((Fl.halve k n).2 : Int)) by
    rw [Fl.of, if_neg (by omega), Int.neg_neg, Int.toNat_natCast])
  have H := Lib.hid h; have HZA := Lib.hid hz
  have hln := Fl.len2 hn
  obtain ⟨z0, hz0⟩ : ∃ z : Int, z = -(k : Int) := ⟨_, rfl⟩
  have hneg : ¬ 0 ≤ z0 := by omega
  have HZ0 := Lib.hid hz0
  rw [← hz0]; rw [← hz0] at HOF
  clear h hz hz0
  go_enter Tryz.func57, Tryz.ntmps57
  go_wp2_with fail
  go_loopw [1, 2] (halfLoop9 n k w) (fun _ e _ => (-(intOf e)).toNat)
  case atStart => exact ⟨n, k, z0, a, c, rfl, rfl, HZ0, Nat.le_refl _, hn, Lib.hid rfl, Lib.hid (H.out.on ((Below.refl _ _).alloc (Nat.le_refl _) _)), HZA, Lib.hid (Z3.new w), Lib.hid ((Below.refl _ _).alloc (Nat.le_refl _) _)⟩
  case round =>
    clear H hln HZ0 HZA
    obtain ⟨m, j, z, a, c, rfl, rfl, HZ, hj, hm, HH, HSl, HZA, HZR, HBe⟩ := hrel
    have hml := Fl.len2 hm
    have hz := HZ.out
    have hbit := fun i => r1_bit_any a c (Na.limbs m) i wr HSl.out (by omega)
    have hbit0 := hbit 0 (by omega)
    rw [Na.val_limbs, Na.bit0] at hbit0
    clear hbit
    by_cases hgo : 0 < j ∧ m ≠ 0 ∧ m % 2 = 0
    · obtain ⟨h1, h2, h3⟩ := hgo
      obtain ⟨j, rfl⟩ : ∃ t, j = t + 1 := ⟨j - 1, by omega⟩
      have hpos : 0 < (Na.limbs m).length := (Na.limbs_head h2).1
      rw [decide_eq_false (by omega)] at hbit0
      have HBT := Lib.hid (show Calls Tryz.prog 81 #[.slice a (Na.limbs m).length c, .int .i64 0] wr (Ret0 (.bool false) wr) from hbit0)
      have hzn : z < 0 := by omega
      have hz1 : z + 1 ≤ 0 := by omega
      have hz2 : -1200 ≤ z := by omega
      have hSA : Sl (wr.alloc (.cells #[Value.int .u32 2] 81)) a c (Na.limbs m) := HSl.out.on ((Below.refl _ _).alloc (Nat.le_refl _) _)
      have hpt := r1_parts_z a c (Na.limbs m) _ _ [2] _ hSA HZA.out (lit_two wr) (fun e => by cases e) (by omega) (by simp) (by simp [Na.val])
      rw [Na.val_limbs, show Na.val [2] = 2 by simp [Na.val]] at hpt
      have HPT := Lib.hid (show Calls Tryz.prog 53 #[.slice a (Na.limbs m).length c, .slice (some ⟨wr.heap.size, 0, none⟩) 1 1] (wr.alloc (.cells #[Value.int .u32 2] 81)) (GvPz (m / 2) (m % 2) (wr.alloc (.cells #[Value.int .u32 2] 81))) from hpt)
      have HBA := Lib.hid (HBe.out.alloc HBe.out.size (.cells #[Value.int .u32 2] 81))
      have HH2 := Lib.hid (HH.out.trans (Fl.halve_yes h2 h3))
      have HZZ := Lib.hid (show z + 1 = -(j : Int) by omega)
      clear hpt hSA h2 h3 hz h1 hbit0
      go_wp2_with (first | (go_at_call 81; (with_reducible refine (HBT.out).mono ?_); rintro e w' ⟨rfl, rfl⟩) | (go_at_call 53; (with_reducible refine (HPT.out).mono ?_); rintro e w1 ⟨a1, c1, a2, c2, rfl, s1, -, z1, -, hb1⟩; have hB1 := HBA.out.trans (hb1.mono HBA.out.size)))
      go_roundw
      case rel => exact ⟨m / 2, j, z + 1, a1, c1, rfl, rfl, HZZ, by omega, by omega, HH2, Lib.hid s1, Lib.hid z1, Lib.hid ((HZR.out.alloc _).on hb1), Lib.hid hB1⟩
      case measure => simp [intOf]; omega
    · have hend : Fl.halve k n = (m, j) := by
        rw [HH.out]
        cases j with
        | zero => rfl
        | succ j => exact Fl.halve_no (by omega)
      have hsp := HOF.out
      rw [hend] at hsp
      have hz3 : -1200 ≤ z ∧ z ≤ 0 := by omega
      obtain ⟨hz3, hz4⟩ := hz3
      have hzj : -z = (j : Int) := by omega
      have hzz : -(j : Int) = z := by omega
      by_cases hm0 : m = 0
      · have hl0 : (Na.limbs m).length = 0 := by rw [hm0, Na.limbs_zero]; rfl
        have HR := Lib.hid (show Fl.of s n z0 = ⟨s, [], 0, 0⟩ by
          rw [hsp, hm0, Nat.zero_mul, show Lib.decDigits 0 = [48] by rw [Lib.decDigits, dif_pos (by decide)]; rfl]
          exact Dc.mk_zero (by decide) (by decide))
        rw [hl0, decide_eq_false (show ¬ m % 2 = 1 by omega)] at hbit0
        have HBT := Lib.hid (show Calls Tryz.prog 81 #[.slice a 0 c, .int .i64 0] wr (Ret0 (.bool false) wr) from hbit0)
        have hzc : z = 0 ∨ z < 0 := by omega
        obtain ⟨y0, y1, y2, yf, yl⟩ := HZR.out; have yf0 := yf 0; have yf1 := yf 1; have yf2 := yf 2
        have hB := HBe.out
        clear hm0 hbit0 hsp hend hz HZ HH HOF hzz hgo hm hml
        rcases hzc with hz0 | hzn
        · have hznn : ¬ z < 0 := by omega
          clear hz0
          go_wp2
          refine bodyPost_ret (v := .agg #[.bool s, .string ⟨#[]⟩, .int .i64 0]) (by simp [results, Tryz.results57, go_sem, y0, y1, y2, yf0, yf1, yf2, yl]; done) rfl (RetB.of (by rw [HR.out]; first | done | rfl) (by (repeat (first | exact Below.refl _ _ | assumption | refine Below.setCell ?_ (by first | omega | (simp <;> omega)) _ | refine Below.alloc ?_ (by first | omega | (simp <;> omega)) _ | refine Below.drew ?_ | refine below_drewN' ?_ _))))
        · go_wp2_with (first | (go_at_call 81; (with_reducible refine (HBT.out).mono ?_); rintro e w' ⟨rfl, rfl⟩))
          refine bodyPost_ret (v := .agg #[.bool s, .string ⟨#[]⟩, .int .i64 0]) (by simp [results, Tryz.results57, go_sem, y0, y1, y2, yf0, yf1, yf2, yl]; done) rfl (RetB.of (by rw [HR.out]; first | done | rfl) (by (repeat (first | exact Below.refl _ _ | assumption | refine Below.setCell ?_ (by first | omega | (simp <;> omega)) _ | refine Below.alloc ?_ (by first | omega | (simp <;> omega)) _ | refine Below.drew ?_ | refine below_drewN' ?_ _))))
      · obtain ⟨v, hv⟩ : ∃ v, v = m * 5 ^ j := ⟨_, rfl⟩
        have hl := Fl.len_mul_pow m 5 j hm (by decide) (by omega)
        have hfl := Na.limbs_len_le _ _ (Nat.lt_of_le_of_lt (Fl.pow_le_B 5 j (by decide) (by omega)) (show Na.B ^ 120 < Na.B ^ 121 from Nat.pow_lt_pow_right (by decide) (by decide)))
        have HF := Lib.hid (fun w1 => r9_fives_any j w1 (by omega))
        have HM := Lib.hid (fun w1 a1 c1 (hs : Sl w1 a c (Na.limbs m)) (hs1 : Sl w1 a1 c1 (Na.limbs (5 ^ j))) => (by
          have := r1_times_any a c (Na.limbs m) a1 c1 (Na.limbs (5 ^ j)) w1 hs hs1 (by omega) (by omega)
          rw [Na.val_limbs, Na.val_limbs, ← hv] at this
          exact this : Calls Tryz.prog 50 #[.slice a (Na.limbs m).length c, .slice a1 (Na.limbs (5 ^ j)).length c1] w1 (GivesZ (Na.limbs v) w1)))
        rw [← hv] at hl hsp
        have HD := Lib.hid (fun w1 a1 c1 (hs : Sl w1 a1 c1 (Na.limbs v)) (hz : a1 = none → c1 = 0) => Fl.digits1_any a1 c1 v w1 hs hz (by omega))
        have HMK := Lib.hid (fun w1 => Fl.make7_any s v z w1 (by omega) (by omega))
        obtain ⟨S, hS⟩ : ∃ S : ByteArray, S = ⟨(Lib.decDigits v).toArray⟩ := ⟨_, rfl⟩
        obtain ⟨R, hR⟩ : ∃ R, R = Dc.mk s (Lib.decDigits v) z := ⟨_, rfl⟩
        rw [← hS] at HD HMK
        rw [← hR] at HMK
        have HR := Lib.hid (show Fl.of s n z0 = R by rw [hsp, hR]; show Dc.mk _ _ (-(j : Int)) = _; rw [hzz])
        have hpos : 0 < (Na.limbs m).length := (Na.limbs_head hm0).1
        have hpz : (((Na.limbs m).length : Int) == 0) = false := by simp only [beq_eq_false_iff_ne, ne_eq]; omega
        have hcase : z = 0 ∨ (z < 0 ∧ m % 2 = 1) := by omega
        have HBT0 := Lib.hid hbit0
        clear hv hS hR hsp hend hz HZ HH HOF hzz hgo hfl hbit0
        rcases hcase with hz0 | ⟨hzn, hm1⟩
        · have hznn : ¬ z < 0 := by omega
          have HBT := HBT0
          clear hz0 hm0
          go_wp2_with (first
            | (go_at_call 81; (with_reducible refine (HBT.out).mono ?_); rintro e w' ⟨rfl, rfl⟩)
            | (go_at_call 88; (with_reducible refine (HF.out _).mono ?_); rintro e w1 ⟨a1, c1, rfl, s1, z1, -, hb1⟩; have hB1 := HBe.out.trans (hb1.mono HBe.out.size))
            | (go_at_call 50; (with_reducible refine (HM.out _ _ _ (HSl.out.on hb1) s1).mono ?_); rintro e w2 ⟨a2, c2, rfl, s2, z2, -, hb2⟩; have hB2 := hB1.trans (hb2.mono hB1.size))
            | (go_at_call 87; (with_reducible refine (HD.out _ _ _ s2 z2).mono ?_); rintro e w3 ⟨rfl, hb3⟩; have hB3 := hB2.trans (hb3.mono hB2.size))
            | (go_at_call 24; (with_reducible refine (HMK.out _).mono ?_); rintro e w4 ⟨rfl, hb4⟩; have hB4 := hB3.trans (hb4.mono hB3.size); have zz4 := (((HZR.out.on hb1).on hb2).on hb3).on hb4; obtain ⟨y0, y1, y2, yf, yl⟩ := zz4; have yf0 := yf 0; have yf1 := yf 1; have yf2 := yf 2; have yn : ¬ w.heap.size = w4.heap.size := (by omega); have yn' : ¬ w4.heap.size = w.heap.size := (by omega)))
          refine bodyPost_ret (v := Fl.dv R) (by simp [results, Tryz.results57, go_sem, y0, y1, y2, yf0, yf1, yf2, yn, yn', yl]; done) rfl (RetB.of (by rw [HR.out]) (by (repeat (first | exact Below.refl _ _ | assumption | refine Below.setCell ?_ (by first | omega | (simp <;> omega)) _ | refine Below.alloc ?_ (by first | omega | (simp <;> omega)) _ | refine Below.drew ?_ | refine below_drewN' ?_ _))))
        · have hb1 := HBT0.out
          rw [decide_eq_true hm1] at hb1
          have HBT := Lib.hid (show Calls Tryz.prog 81 #[.slice a (Na.limbs m).length c, .int .i64 0] wr (Ret0 (.bool true) wr) from hb1)
          clear hb1 hm1 hm0 HBT0
          go_wp2_with (first
            | (go_at_call 81; (with_reducible refine (HBT.out).mono ?_); rintro e w' ⟨rfl, rfl⟩)
            | (go_at_call 88; (with_reducible refine (HF.out _).mono ?_); rintro e w1 ⟨a1, c1, rfl, s1, z1, -, hb1⟩; have hB1 := HBe.out.trans (hb1.mono HBe.out.size))
            | (go_at_call 50; (with_reducible refine (HM.out _ _ _ (HSl.out.on hb1) s1).mono ?_); rintro e w2 ⟨a2, c2, rfl, s2, z2, -, hb2⟩; have hB2 := hB1.trans (hb2.mono hB1.size))
            | (go_at_call 87; (with_reducible refine (HD.out _ _ _ s2 z2).mono ?_); rintro e w3 ⟨rfl, hb3⟩; have hB3 := hB2.trans (hb3.mono hB2.size))
            | (go_at_call 24; (with_reducible refine (HMK.out _).mono ?_); rintro e w4 ⟨rfl, hb4⟩; have hB4 := hB3.trans (hb4.mono hB3.size); have zz4 := (((HZR.out.on hb1).on hb2).on hb3).on hb4; obtain ⟨y0, y1, y2, yf, yl⟩ := zz4; have yf0 := yf 0; have yf1 := yf 1; have yf2 := yf 2; have yn : ¬ w.heap.size = w4.heap.size := (by omega); have yn' : ¬ w4.heap.size = w.heap.size := (by omega)))
          refine bodyPost_ret (v := Fl.dv R) (by simp [results, Tryz.results57, go_sem, y0, y1, y2, yf0, yf1, yf2, yn, yn', yl]; done) rfl (RetB.of (by rw [HR.out]) (by (repeat (first | exact Below.refl _ _ | assumption | refine Below.setCell ?_ (by first | omega | (simp <;> omega)) _ | refine Below.alloc ?_ (by first | omega | (simp <;> omega)) _ | refine Below.drew ?_ | refine below_drewN' ?_ _))))
theorem r9_of_any (s : Bool) (a : Option Addr) (c n : Nat) (e : Int) (w : World) (h : Sl w a c (Na.limbs n)) (hz : a = none → c = 0) (hn : n < Na.B ^ 2) (he : -1100 ≤ e ∧ e ≤ 1100) :
    Calls Tryz.prog 57 #[.bool s, .slice a (Na.limbs n).length c, .int .i64 e] w (RetB (Fl.dv (Fl.of s n e)) w) := by
  by_cases h0 : 0 ≤ e
  · obtain ⟨k, rfl⟩ : ∃ k : Nat, e = k := ⟨e.toNat, by omega⟩
    exact r9_of_up s a c n k w h hz hn (by omega)
  · obtain ⟨k, rfl⟩ : ∃ k : Nat, e = -(k : Int) := ⟨(-e).toNat, by omega⟩
    exact r9_of_down s a c n k w h hz hn (by omega) (by omega)
end Go.Proofs.YtiglekomfgfilaaGreatDoor

namespace Go.Proofs.YtiglekomfgfilaaGreatDoor
set_option maxRecDepth 100000
set_option maxHeartbeats 1000000
set_option linter.all false
open Go.RowKit
theorem d_up_any (n : Bool) (kept rest : ByteArray) (way : Int) (w : World) (hk : kept.size ≤ 1000000000) (hw : 0 ≤ way ∧ way ≤ 5) :
    Calls Tryz.prog 97 #[.bool n, .string kept, .string rest, .int .i64 way] w (Ret0 (.bool (Dc.up n kept.data.toList rest.data.toList way)) w) := by
  obtain ⟨r, hr⟩ : ∃ r, r = Dc.up n kept.data.toList rest.data.toList way := ⟨_, rfl⟩
  rw [← hr]
  by_cases h0 : rest.size = 0
  · have he := isEmpty_of_zero h0
    have hz : rest.data.toList = [] := List.length_eq_zero_iff.1 (by simpa using h0)
    rw [Dc.up, if_pos hz] at hr
    have HR := Lib.hid hr; clear hr h0 hz
    go_enter Tryz.func97, Tryz.ntmps97
    go_wp2
    go_ret
    exact Ret0.of (congrArg _ HR.out.symm)
  · have he := isEmpty_of_pos (by omega : 0 < rest.size)
    have hz : rest.data.toList ≠ [] := fun e => h0 (by have := congrArg List.length e; simpa using this)
    rw [Dc.up, if_neg hz] at hr
    obtain ⟨h, hh⟩ : ∃ h, h = Dc.half rest.data.toList := ⟨_, rfl⟩
    rw [← hh] at hr
    have hcmp : ∀ w, Calls Tryz.prog 121 #[.string rest, .string ⟨#[53]⟩] w (Ret0 (.int .i64 h) w) := fun w => (Tryz.strings_Compare rest ⟨#[53]⟩ w).mono fun _ _ e => ⟨by rw [e.1, hh]; rfl, e.2.symm⟩
    have HC := Lib.hid hcmp; clear hcmp hh h0 hz
    have hcase : way = 0 ∨ way = 1 ∨ way = 2 ∨ way = 3 ∨ way = 4 ∨ way = 5 := by omega
    clear hw
    rcases hcase with rfl | rfl | rfl | rfl | rfl | rfl
    case inl =>
      have HR := Lib.hid hr; clear hr
      by_cases hk0 : kept.size = 0
      · have hke := isEmpty_of_zero hk0
        have HZ := Lib.hid hk0; clear hk0
        go_enter Tryz.func97, Tryz.ntmps97
        go_wp2_with (go_at_call 121; (with_reducible refine (HC.out _).mono ?_); rintro e w' ⟨rfl, rfl⟩)
        all_goals go_ret
        all_goals refine Ret0.of (congrArg _ (HR.out.trans ?_).symm)
        all_goals rw [if_pos trivial, Dc.odd_nil (by simpa using HZ.out)]
        all_goals simp [*]
      · have hke := isEmpty_of_pos (by omega : 0 < kept.size)
        replace hk0 : 0 < kept.size := by omega
        go_enter Tryz.func97, Tryz.ntmps97
        go_wp2_with (go_at_call 121; (with_reducible refine (HC.out _).mono ?_); rintro e w' ⟨rfl, rfl⟩)
        all_goals go_ret
        all_goals refine Ret0.of (congrArg _ (HR.out.trans ?_).symm)
        all_goals rw [if_pos trivial, Dc.odd_last kept hk0]
        all_goals simp [*, Dc.and_one]
        all_goals (rw [Bool.eq_iff_iff]; simp)
    all_goals (
      have HR := Lib.hid hr; clear hr
      go_enter Tryz.func97, Tryz.ntmps97
      go_wp2_with (go_at_call 121; (with_reducible refine (HC.out _).mono ?_); rintro e w' ⟨rfl, rfl⟩)
      go_ret
      exact Ret0.of (congrArg _ (HR.out.trans (by first | rfl | (cases n <;> rfl))).symm))
theorem trimR9 (s : ByteArray) (w : World) (hs : s.size ≤ 1000000000) : Calls Tryz.prog 119 #[.string s, .string ⟨#[57]⟩] w (Ret0 (.string ⟨(Dc.no9 s.data.toList).toArray⟩) w) :=
  (Tryz.strings_TrimRight_one s 57 (by decide) w (by omega)).mono fun _ _ h => ⟨h.1, h.2.symm⟩
theorem rep0 (k : Nat) (w : World) (hk : k ≤ 1000000000) : Calls Tryz.prog 74 #[.string ⟨#[48]⟩, .int .i64 k] w (RetB (.string ⟨(Lib.repeatL [48] k).toArray⟩) w) :=
  (Tryz.strings_Repeat ⟨#[48]⟩ k w (by omega) (by simp [ByteArray.size]; omega)).mono fun _ _ h => h
theorem d_more_any (s : ByteArray) (w : World) (hs : s.size ≤ 1000000000) (hd : Dc.allDig s.data.toList = true) :
    Calls Tryz.prog 98 #[.string s] w (RetB (.string ⟨(Dc.more s.data.toList).toArray⟩) w) := by
  obtain ⟨T, Z, hT, hZ, hTs, hcase⟩ := Dc.more_parts s hd
  have htr : ∀ w, Calls Tryz.prog 119 #[.string s, .string ⟨#[57]⟩] w (Ret0 (.string T) w) := fun w => by rw [hT]; exact trimR9 s w hs
  have hrep : ∀ w, Calls Tryz.prog 74 #[.string ⟨#[48]⟩, .int .i64 ((s.size : Int) - T.size)] w (RetB (.string Z) w) := fun w => by
    rw [hZ, show (s.size : Int) - T.size = ((s.size - T.size : Nat) : Int) by omega]; exact rep0 _ w (by omega)
  have hzs : Z.size ≤ 1000000000 := by rw [hZ, size_mk, Lib.repeatL_length]; simp; omega
  obtain ⟨r, hr⟩ : ∃ r, r = Dc.more s.data.toList := ⟨_, rfl⟩
  rw [← hr] at hcase ⊢
  have HP := Lib.hid hrep; have HT := Lib.hid htr; clear hr hrep hT hZ htr hd
  rcases hcase with ⟨h0, h2⟩ | ⟨c, hpos, hlast, hc1, hc2, h2⟩
  · have he' : T.toList.isEmpty = true := isEmpty_of_zero h0
    have HR := Lib.hid h2; clear h2 h0
    go_enter Tryz.func98, Tryz.ntmps98
    go_wp2_with (first
      | (go_at_call 119; (with_reducible refine (HT.out _).mono ?_); rintro e w' ⟨rfl, rfl⟩)
      | (go_at_call 74; (with_reducible refine (HP.out _).mono ?_); rintro e w1 ⟨rfl, hb_w1⟩; have hB_w1 : Below (w).heap.size (w) w1 := Below.trans (by (repeat (first | exact Below.refl _ _ | assumption | refine Below.setCell ?_ (by first | omega | (simp <;> omega)) _ | refine Below.alloc ?_ (by first | omega | (simp <;> omega)) _ | refine Below.drew ?_ | refine below_drewN' ?_ _))) (hb_w1.mono (by first | omega | (simp <;> omega))); obtain ⟨hc_w1, hf_w1⟩ := bcell hb_w1; have hz_w1 := hb_w1.size; (try simp only [zD, zN, zA, zS] at hz_w1)))
    go_ret
    exact RetB.of (congrArg _ HR.out) hB_w1
  · have he' : T.toList.isEmpty = false := isEmpty_of_pos hpos
    have HR := Lib.hid h2; clear h2
    have hi : ((T[T.size - 1].toNat : Int)) = c.toNat := by rw [hlast]
    clear hlast
    have hw : IntKind.i64.wrap ((T.size : Int) - 1) = (T.size : Int) - 1 := IntWalk.i64_in _ (by omega)
    have hw2 : IntKind.u8.wrap ((c.toNat : Int) + 1) = (c.toNat : Int) + 1 := IntWalk.u8_in _ (by omega)
    have hn : ((T.size : Int) - 1).toNat = T.size - 1 := by omega
    have hge : 0 ≤ (T.size : Int) - 1 := by omega
    have hlt : (T.size : Int) - 1 < T.size := by omega
    have hle : (T.size : Int) - 1 ≤ T.size := by omega
    have h1l : 1 ≤ (T.size : Int) := by omega
    have hen := Dc.encode_next c hc1 hc2
    have hs1 : ¬ 9223372036854775807 < T.size - 1 + 1 := by omega
    have hs2 : ¬ 9223372036854775807 < T.size - 1 + 1 + Z.size := by omega
    have h1n : T.size - 1 < T.size := by omega
    have h1s : T.size - 1 ≤ T.size := by omega
    go_enter Tryz.func98, Tryz.ntmps98
    go_wp2_with (first
      | (go_at_call 119; (with_reducible refine (HT.out _).mono ?_); rintro e w' ⟨rfl, rfl⟩)
      | (go_at_call 74; (with_reducible refine (HP.out _).mono ?_); rintro e w1 ⟨rfl, hb_w1⟩; have hB_w1 : Below (w).heap.size (w) w1 := Below.trans (by (repeat (first | exact Below.refl _ _ | assumption | refine Below.setCell ?_ (by first | omega | (simp <;> omega)) _ | refine Below.alloc ?_ (by first | omega | (simp <;> omega)) _ | refine Below.drew ?_ | refine below_drewN' ?_ _))) (hb_w1.mono (by first | omega | (simp <;> omega))); obtain ⟨hc_w1, hf_w1⟩ := bcell hb_w1; have hz_w1 := hb_w1.size; (try simp only [zD, zN, zA, zS] at hz_w1)))
    go_quiet (fail)
    go_wp2
    go_ret
    exact RetB.of (congrArg _ HR.out) (by (repeat (first | exact Below.refl _ _ | assumption | refine Below.setCell ?_ (by first | omega | (simp <;> omega)) _ | refine Below.alloc ?_ (by first | omega | (simp <;> omega)) _ | refine Below.drew ?_ | refine below_drewN' ?_ _)))
theorem trimLd (s : ByteArray) (w : World) : Calls Tryz.prog 118 #[.string s, .string ⟨#[48, 49, 50, 51, 52, 53, 54, 55, 56, 57]⟩] w (RetB (.string ⟨(s.data.toList.dropWhile Dc.isDig).toArray⟩) w) :=
  (Any.strings_TrimLeft_laid Tryz.lays161 (by kernel_rfl) s ⟨#[48, 49, 50, 51, 52, 53, 54, 55, 56, 57]⟩ w (by decide) (Go.Proofs.ascii_of_all (by decide))).mono fun _ _ h => ⟨by rw [h.1]; exact congrArg (fun l : Dc.Bs => Ending.returned (.string ⟨l.toArray⟩)) (Dc.dropWhile_digs _), h.2⟩
theorem d_digits_any (s : ByteArray) (w : World) (hs : s.size ≤ 1000000000) :
    Calls Tryz.prog 102 #[.string s] w (RetB (.tuple #[.string ⟨(s.data.toList.takeWhile Dc.isDig).toArray⟩, .string ⟨(s.data.toList.dropWhile Dc.isDig).toArray⟩]) w) := by
  obtain ⟨T, hT⟩ : ∃ T : ByteArray, T = ⟨(s.data.toList.dropWhile Dc.isDig).toArray⟩ := ⟨_, rfl⟩
  have h1 : T.size ≤ s.size := by rw [hT, size_mk]; have := (List.dropWhile_sublist Dc.isDig (l := s.data.toList)).length_le; rwa [bs_length] at this
  have h2 : s.extract 0 (s.size - T.size) = ⟨(s.data.toList.takeWhile Dc.isDig).toArray⟩ := by
    have e2 : (s.extract 0 (s.size - T.size)).data.toList = s.data.toList.takeWhile Dc.isDig := by
      rw [Lib.extract_data, List.drop_zero, Nat.sub_zero]
      refine Dc.take_tw _ _ _ ?_
      have hs' : T.size = (s.data.toList.dropWhile Dc.isDig).length := by rw [hT, size_mk]
      rw [bs_length]; omega
    rw [← e2]
  have h3 : ∀ w, Calls Tryz.prog 118 #[.string s, .string ⟨#[48, 49, 50, 51, 52, 53, 54, 55, 56, 57]⟩] w (RetB (.string T) w) := fun w => by rw [hT]; exact trimLd s w
  rw [← hT]
  have H2 := Lib.hid h2; have H3 := Lib.hid h3; clear h2 h3 hT
  go_enter Tryz.func102, Tryz.ntmps102
  go_wp2_with (go_at_call 118; (with_reducible refine (H3.out _).mono ?_); rintro e w1 ⟨rfl, hb_w1⟩; have hB_w1 : Below (w).heap.size (w) w1 := Below.trans (by (repeat (first | exact Below.refl _ _ | assumption | refine Below.setCell ?_ (by first | omega | (simp <;> omega)) _ | refine Below.alloc ?_ (by first | omega | (simp <;> omega)) _ | refine Below.drew ?_ | refine below_drewN' ?_ _))) (hb_w1.mono (by first | omega | (simp <;> omega))); obtain ⟨hc_w1, hf_w1⟩ := bcell hb_w1; have hz_w1 := hb_w1.size; (try simp only [zD, zN, zA, zS] at hz_w1))
  go_ret2
  exact RetB.of (by rw [← H2.out]; rfl) hB_w1
end Go.Proofs.YtiglekomfgfilaaGreatDoor
