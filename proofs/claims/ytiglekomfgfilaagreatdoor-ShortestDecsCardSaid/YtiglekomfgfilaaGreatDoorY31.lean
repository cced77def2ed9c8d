/- The reference of chapter 10: Abs, Dec. -/
import Derived.Test.YtiglekomfgfilaaGreatDoorY29
import Derived.Test.YtiglekomfgfilaaGreatDoorY30
import Derived.Test.YtiglekomfgfilaaGreatDoorY27
import Derived.Test.YtiglekomfgfilaaGreatDoorY18
import Derived.Test.YtiglekomfgfilaaGreatDoorY7
import Derived.Test.YtiglekomfgfilaaGreatDoorY17
import Derived.Deep.DeepCutAuto
import Derived.Maps.AppendAt
import Derived.Test.YtiglekomfgfilaaGreatDoorY25
import Derived.Test.YtiglekomfgfilaaGreatDoorY19
import Derived.Deep.RegionHeld3
import Derived.Test.YtiglekomfgfilaaGreatDoorY14
import Derived.Test.YtiglekomfgfilaaGreatDoorY28
namespace Go.Proofs.YtiglekomfgfilaaGreatDoor
set_option maxRecDepth 100000
set_option maxHeartbeats 8000000
set_option linter.all false
open Go.RowKit
attribute [local go_sem] dc_guard
theorem r3_abs_any (x : Nat) (hx : x < 18446744073709551616) (hk : Fl.kind x < 3) (w : World) : Calls Tryz.prog 35 #[.int .u64 x] w (Ret0 (.int .u64 (x % 9223372036854775808 : Nat)) w) := by
  have hK := fun w => r3_kind_any x hx w
  obtain ⟨k, hkk⟩ : ∃ k, k = Fl.kind x := ⟨_, rfl⟩
  obtain ⟨y, hy⟩ : ∃ y, y = x % 9223372036854775808 := ⟨_, rfl⟩
  rw [← hkk] at hK hk
  rw [← hy]
  have HK := Lib.hid hK
  have HY := Lib.hid hy
  clear hK hkk hy
  go_enter Tryz.func35, Tryz.ntmps35
  go_wp2_with (first
    | (go_at_call 12; (with_reducible refine (HK.out _).mono ?_); rintro e w' ⟨rfl, rfl⟩))
  refine bodyPost_ret (v := .int .u64 (y : Nat)) (by (simp [results, Tryz.results35, go_sem, HY.out]; done)) rfl (Ret0.of rfl)
def decLoop (P : Nat → Prop) (n : Bool) (s : ByteArray) (X : Int) (g2 g5 : Nat) (W : World) (iv : Value) (wr : World) : Prop :=
  ∃ m : Nat, 1 ≤ m ∧ m ≤ 17 ∧ iv = .int .i64 m ∧ Hid (P m) ∧ Hid (Cs wr g5 (dcs false s X)) ∧ Hid (CF wr g2 (dcs false ⟨#[]⟩ 0)) ∧ Hid (Below W.heap.size W wr)
theorem r10_dec_walk (x y : Nat) (n : Bool) (s fS RS : ByteArray) (X fX RX : Int) (lS hS : Nat → ByteArray) (lX hX : Nat → Int) (lB hB : Nat → Nat) (df ev : Nat → Bool) (nr : Nat → Int) (P : Nat → Prop) (W : World)
    (hne : s.size ≠ 0)
    (hI : ∀ w1, Calls Tryz.prog 34 #[.int .u64 x] w1 (Ret0 (.bool n) w1))
    (hA : ∀ w1, Calls Tryz.prog 35 #[.int .u64 x] w1 (Ret0 (.int .u64 y) w1))
    (hD : ∀ w1, Calls Tryz.prog 22 #[.int .u64 y] w1 (RetB (.tuple #[dag false s X, .int .i64 0]) w1))
    (hL : ∀ m : Nat, 1 ≤ m ∧ m ≤ 16 → ∀ w1, Calls Tryz.prog 23 #[dag false s X, .int .i64 m, .int .i64 2] w1 (RetB (.tuple #[dag false (lS m) (lX m), .int .i64 0]) w1))
    (hH : ∀ m : Nat, 1 ≤ m ∧ m ≤ 16 → ∀ w1, Calls Tryz.prog 23 #[dag false s X, .int .i64 m, .int .i64 3] w1 (RetB (.tuple #[dag false (hS m) (hX m), .int .i64 0]) w1))
    (hF : ∀ w1, Calls Tryz.prog 23 #[dag false s X, .int .i64 17, .int .i64 0] w1 (RetB (.tuple #[dag false fS fX, .int .i64 0]) w1))
    (hbL : ∀ m : Nat, 1 ≤ m ∧ m ≤ 16 → ∀ w1, Calls Tryz.prog 21 #[dag false (lS m) (lX m)] w1 (RetB (.int .u64 (lB m)) w1))
    (hbH : ∀ m : Nat, 1 ≤ m ∧ m ≤ 16 → ∀ w1, Calls Tryz.prog 21 #[dag false (hS m) (hX m)] w1 (RetB (.int .u64 (hB m)) w1))
    (hdf : ∀ m : Nat, ∀ w1, (binOp .neq 27 (.agg #[.bool false, .string (lS m), .int .i64 (lX m)]) (.agg #[.bool false, .string (hS m), .int .i64 (hX m)])).run Tryz.prog w1 = .ok (.bool (df m)) w1)
    (hnr : ∀ m : Nat, 1 ≤ m ∧ m ≤ 16 → ∀ w1, Calls Tryz.prog 36 #[dag false (lS m) (lX m), dag false s X, dag false (hS m) (hX m)] w1 (RetB (.int .i64 (nr m)) w1))
    (hev : ∀ m : Nat, 1 ≤ m ∧ m ≤ 16 → ∀ w1, Calls Tryz.prog 37 #[dag false (lS m) (lX m), .int .i64 m] w1 (RetB (.bool (ev m)) w1))
    (p1 : P 1)
    (pH : ∀ m : Nat, 1 ≤ m ∧ m ≤ 16 → P m → hB m = y → (lB m ≠ y ∨ df m = false ∨ nr m = 2 ∨ nr m = 0 ∧ ev m = false) → RS = hS m ∧ RX = hX m)
    (pL : ∀ m : Nat, 1 ≤ m ∧ m ≤ 16 → P m → lB m = y → (hB m ≠ y ∨ (df m = true ∧ nr m ≠ 2 ∧ (nr m ≠ 0 ∨ ev m = true))) → RS = lS m ∧ RX = lX m)
    (pN : ∀ m : Nat, 1 ≤ m ∧ m ≤ 16 → P m → lB m ≠ y → hB m ≠ y → P (m + 1))
    (pF : P 17 → RS = fS ∧ RX = fX) :
    Calls Tryz.prog 13 #[.int .u64 x] W (RetB (dag n RS RX) W) := by
  unfold dag at hD hL hH hF hbL hbH hnr hev ⊢
  have HI := Lib.hid hI; have HA := Lib.hid hA; have HD := Lib.hid hD; have HL := Lib.hid hL; have HH := Lib.hid hH; have HF := Lib.hid hF; have HBL := Lib.hid hbL; have HBH := Lib.hid hbH; have HNR := Lib.hid hnr; have HEV := Lib.hid hev; have HDF := Lib.hid hdf
  have P1 := Lib.hid p1; have PH := Lib.hid pH; have PL := Lib.hid pL; have PN := Lib.hid pN; have PF := Lib.hid pF
  have b0 : Below W.heap.size W (W.alloc (Obj.cells #[Value.bool false, Value.string ⟨#[]⟩, Value.int IntKind.i64 0] 27)) := (Below.refl _ _).alloc (Nat.le_refl _) _
  have f0 := CF.new W (dcs false ⟨#[]⟩ 0) 27
  clear hI hA hD hL hH hF hbL hbH hnr hev hdf p1 pH pL pN pF
  go_enter Tryz.func13, Tryz.ntmps13
  go_upto_region 6 with (first
    | (go_at_call 34; (with_reducible refine (HI.out _).mono ?_); rintro e w' ⟨rfl, rfl⟩)
    | (go_at_call 35; (with_reducible refine (HA.out _).mono ?_); rintro e w' ⟨rfl, rfl⟩)
    | (go_at_call 22; (with_reducible refine (HD.out _).mono ?_); rintro e w1 ⟨rfl, hb1⟩; have f1 := f0.on hb1; have hB1 := b0.trans (hb1.mono b0.size); have hz1 := hb1.size; have s1 := Cs.new w1 (dcs false s X) 27; have r0 := s1.get 0 rfl; have r1 := s1.get 1 rfl; have r2 := s1.get 2 rfl; have rl := s1.1))
  have hBV : Below W.heap.size W (w1.alloc (.cells #[.bool false, .string s, .int .i64 X] 27)) := hB1.alloc hB1.size _
  have fV := f1.alloc (.cells #[.bool false, .string s, .int .i64 X] 27)
  obtain ⟨V, hV⟩ : ∃ V, V = w1.alloc (.cells #[.bool false, .string s, .int .i64 X] 27) := ⟨_, rfl⟩
  have s1 : Cs V w1.heap.size (dcs false s X) := by rw [hV]; exact s1
  rw [← hV] at hBV fV ⊢
  obtain ⟨g5, hg5⟩ : ∃ g, g = w1.heap.size := ⟨_, rfl⟩
  obtain ⟨g2, hg2⟩ : ∃ g, g = W.heap.size := ⟨_, rfl⟩
  rw [← hg5] at s1
  rw [← hg2] at fV
  have hgg : W.heap.size ≤ g2 := by omega
  rw [← hg5, ← hg2]
  have HS := Lib.hid s1; have HFV := Lib.hid fV; have HBV := Lib.hid hBV
  clear hV hg5 hg2 hB1 hz1 f1 hb1 b0 f0 r0 r1 r2 rl fV hBV s1 HI HA HD
  go_wp2_with fail
  rw [show ((s.size : Int) == 0) = false from by rw [beq_eq_false_iff_ne]; omega]
  go_loopw [7] (decLoop P n s X g2 g5 W) (fun iv _ => 18 - (intOf iv).toNat)
  case atStart => exact ⟨1, by omega, by omega, rfl, P1, HS, HFV, HBV⟩
  case round =>
    clear HS HFV HBV
    obtain ⟨m, hm1, hm2, rfl, HP, HS, HG, HB⟩ := hrel
    have s0 := HS.out.get 0 rfl; have s1 := HS.out.get 1 rfl; have s2 := HS.out.get 2 rfl; have sl := HS.out.1
    rcases Nat.lt_or_ge m 17 with h17 | h17
    · have hm : 1 ≤ m ∧ m ≤ 16 := ⟨hm1, by omega⟩
      have KL := Lib.hid (HL.out m hm); have KH := Lib.hid (HH.out m hm); have KBL := Lib.hid (HBL.out m hm); have KBH := Lib.hid (HBH.out m hm); have KNR := Lib.hid (HNR.out m hm); have KEV := Lib.hid (HEV.out m hm); have KDF := HDF.out m
      have QH := Lib.hid (PH.out m hm HP.out); have QL := Lib.hid (PL.out m hm HP.out); have QN := Lib.hid (PN.out m hm HP.out)
      clear HL HH HBL HBH HNR HEV HDF PH PL PN PF HF
      go_upto_region 14 with (first
        | (go_at_call 23; (with_reducible refine (KL.out _).mono ?_); rintro e w3 ⟨rfl, hb3⟩; have S3 := (HS.out.on hb3).alloc (.cells #[.bool false, .string (lS m), .int .i64 (lX m)] 27); have G3 := (HG.out.on hb3).alloc (.cells #[.bool false, .string (lS m), .int .i64 (lX m)] 27); have hw3 := hb3.size; have B3 := (HB.out.trans (hb3.mono HB.out.size)).alloc (Nat.le_trans HB.out.size hw3) (.cells #[.bool false, .string (lS m), .int .i64 (lX m)] 27); have L3 := Cs.new w3 (dcs false (lS m) (lX m)) 27; have s30 := S3.get 0 rfl; have s31 := S3.get 1 rfl; have s32 := S3.get 2 rfl; have s3l := S3.1)
        | (go_at_call 23; (with_reducible refine (KH.out _).mono ?_); rintro e w4 ⟨rfl, hb4⟩; have S4 := (S3.on hb4).alloc (.cells #[.bool false, .string (hS m), .int .i64 (hX m)] 27); have G4 := (G3.on hb4).alloc (.cells #[.bool false, .string (hS m), .int .i64 (hX m)] 27); have hw4 := hb4.size; have B4 := (B3.trans (hb4.mono B3.size)).alloc (Nat.le_trans B3.size hw4) (.cells #[.bool false, .string (hS m), .int .i64 (hX m)] 27); have L4 := (L3.on hb4).alloc (.cells #[.bool false, .string (hS m), .int .i64 (hX m)] 27); have H4 := Cs.new w4 (dcs false (hS m) (hX m)) 27; have l40 := L4.get 0 rfl; have l41 := L4.get 1 rfl; have l42 := L4.get 2 rfl; have l4l := L4.1)
        | (go_at_call 21; (with_reducible refine (KBL.out _).mono ?_); rintro e w5 ⟨rfl, hb5⟩; have S5 := S4.on hb5; have G5 := G4.on hb5; have hw5 := hb5.size; have B5 := B4.trans (hb5.mono B4.size); have L5 := L4.on hb5; have H5 := H4.on hb5; have h50 := H5.get 0 rfl; have h51 := H5.get 1 rfl; have h52 := H5.get 2 rfl; have h5l := H5.1)
        | (go_at_call 21; (with_reducible refine (KBH.out _).mono ?_); rintro e w6 ⟨rfl, hb6⟩; have S6 := S5.on hb6; have G6 := G5.on hb6; have hw6 := hb6.size; have B6 := B5.trans (hb6.mono B5.size); have L6 := L5.on hb6; have H6 := H5.on hb6; have l60 := L6.get 0 rfl; have l61 := L6.get 1 rfl; have l62 := L6.get 2 rfl; have l6l := L6.1))
      have hBV := B6.alloc (Nat.le_trans B6.size (Nat.le_refl _)) (.cells #[.bool false, .string (lS m), .int .i64 (lX m)] 27)
      have S7 := S6.alloc (.cells #[.bool false, .string (lS m), .int .i64 (lX m)] 27)
      have G7 := G6.alloc (.cells #[.bool false, .string (lS m), .int .i64 (lX m)] 27)
      have L7 := L6.alloc (.cells #[.bool false, .string (lS m), .int .i64 (lX m)] 27)
      have H7 := H6.alloc (.cells #[.bool false, .string (lS m), .int .i64 (lX m)] 27)
      have O7 := CF.new w6 (dcs false (lS m) (lX m)) 27
      change CF (w6.alloc (.cells #[.bool false, .string (lS m), .int .i64 (lX m)] 27)) _ _ at O7
      obtain ⟨WW, hWW⟩ : ∃ V, V = w6.alloc (.cells #[.bool false, .string (lS m), .int .i64 (lX m)] 27) := ⟨_, rfl⟩
      rw [← hWW] at hBV S7 G7 L7 H7 O7 ⊢
      have z2 := HG.out.1.1; have z8 := L3.1; have z10 := H4.1; have z0 := HB.out.size
      have y3 := World.size_alloc w3 (.cells #[.bool false, .string (lS m), .int .i64 (lX m)] 27); have y4 := World.size_alloc w4 (.cells #[.bool false, .string (hS m), .int .i64 (hX m)] 27)
      obtain ⟨g14, hg14e⟩ : ∃ g, g = w6.heap.size := ⟨_, rfl⟩
      obtain ⟨g8, hg8e⟩ : ∃ g, g = w3.heap.size := ⟨_, rfl⟩
      obtain ⟨g10, hg10e⟩ : ∃ g, g = w4.heap.size := ⟨_, rfl⟩
      rw [← hg14e] at O7
      rw [← hg8e] at L7
      rw [← hg10e] at H7
      have hq : W.heap.size ≤ g14 ∧ g2 ≠ g14 ∧ g10 ≠ g14 ∧ g5 ≠ g14 ∧ g8 ≠ g14 := by omega
      obtain ⟨hg14, hg214, hg1014, hg514, hg814⟩ := hq
      rw [← hg14e, ← hg8e, ← hg10e]
      have OWW := Lib.hid O7; have GWW := Lib.hid G7; have BWW := Lib.hid hBV; have LWW := Lib.hid L7; have HWW := Lib.hid H7; have SWW := Lib.hid S7
      have k0 := L7.get 0 rfl; have k1 := L7.get 1 rfl; have k2 := L7.get 2 rfl; have kl := L7.1
      have j0 := H7.get 0 rfl; have j1 := H7.get 1 rfl; have j2 := H7.get 2 rfl; have jl := H7.1
      have i0 := S7.get 0 rfl; have i1 := S7.get 1 rfl; have i2 := S7.get 2 rfl; have il := S7.1
      have x0 := O7.1.get 0 rfl; have x1 := O7.1.get 1 rfl; have x2 := O7.1.get 2 rfl; have xl := O7.1.1; have xf0 := O7.2 0; have xf1 := O7.2 1; have xf2 := O7.2 2
      clear hWW hg14e hg8e hg10e hBV S7 G7 L7 H7 O7 z2 z8 z10 z0 y3 y4 KL KH KBL KBH S3 G3 B3 L3 S4 G4 B4 L4 H4 S5 G5 B5 L5 H5 S6 G6 B6 L6 H6 hw3 hw4 hw5 hw6 hb3 hb4 hb5 hb6 s0 s1 s2 sl s30 s31 s32 s3l l40 l41 l42 l4l h50 h51 h52 h5l l60 l61 l62 l6l HS HG HB
      by_cases c1 : lB m = y <;> by_cases c2 : hB m = y
      · have d1 : ((lB m : Int) == (y : Int)) = true := by rw [c1]; exact beq_self_eq_true _
        have d2 : ((hB m : Int) == (y : Int)) = true := by rw [c2]; exact beq_self_eq_true _
        rw [d1, d2]
        clear QN
        have QH1 := Lib.hid (QH.out c2); have QL1 := Lib.hid (QL.out c1)
        clear c1 c2 d1 d2 QH QL
        rcases hdm : df m with _ | _
        · rw [hdm] at KDF QH1
          have e1 := Lib.hid (QH1.out (Or.inr (Or.inl rfl)))
          clear hdm QH1 QL1 KNR KEV
          go_upto_region 21 with fail
          obtain ⟨Y, hY⟩ : ∃ Y, Y = WW.setCells g14 0 (dcs false (hS m) (hX m)) := ⟨_, rfl⟩
          change Code.wp _ _ _ _ (WW.setCells g14 0 (dcs false (hS m) (hX m)))
          have HD := Lib.hid (show CF Y g14 (dcs false (hS m) (hX m)) by rw [hY]; exact OWW.out.stored _ rfl)
          have HGY := Lib.hid (show CF Y g2 (dcs false ⟨#[]⟩ 0) by rw [hY]; exact GWW.out.other _ hg214)
          have HBY := Lib.hid (show Below W.heap.size W Y by rw [hY]; exact below_setCells hg14 _ _ BWW.out)
          rw [← hY]
          clear hY
          have a0 := HD.out.1.get 0 rfl; have a1 := HD.out.1.get 1 rfl; have a2 := HD.out.1.get 2 rfl; have al := HD.out.1.1; have af0 := HD.out.2 0; have af1 := HD.out.2 1; have af2 := HD.out.2 2
          have c0 := HGY.out.1.get 0 rfl; have c1 := HGY.out.1.get 1 rfl; have c2 := HGY.out.1.get 2 rfl; have cl := HGY.out.1.1; have cf0 := HGY.out.2 0; have cf1 := HGY.out.2 1; have cf2 := HGY.out.2 2
          go_wp2_with fail
          have e2 := Lib.hid (e1.out)
          obtain ⟨Z, hZ⟩ : ∃ Z, Z = (Y.setCells g14 0 [.bool n]).setCells g2 0 (dcs n (hS m) (hX m)) := ⟨_, rfl⟩
          change bodyPost _ _ _ _ _ ((Y.setCells g14 0 [.bool n]).setCells g2 0 (dcs n (hS m) (hX m)))
          have D : Cs Z g2 (dcs n (hS m) (hX m)) := by rw [hZ]; exact Cs.stored _ (HGY.out.other [.bool n] hg214).1 rfl
          have bZ : Below W.heap.size W Z := by rw [hZ]; exact below_setCells hgg _ _ (below_setCells hg14 _ _ HBY.out)
          rw [← hZ]
          have u0 := D.get 0 rfl; have u1 := D.get 1 rfl; have u2 := D.get 2 rfl; have ul := D.1
          refine bodyPost_ret (v := .agg #[.bool n, .string (hS m), .int .i64 (hX m)]) (by (simp [results, Tryz.results13, go_sem, u0, u1, u2]; done)) rfl ⟨by rw [e2.out.1, e2.out.2], bZ⟩
        · rw [hdm] at KDF QH1 QL1
          clear hdm
          by_cases k2 : nr m = 2
          · rw [k2] at KNR
            have e1 := Lib.hid (QH1.out (Or.inr (Or.inr (Or.inl k2))))
            clear QH1 QL1 k2
            cases hee : ev m <;> rw [hee] at KEV <;> clear hee
            all_goals (
              go_upto_region 21 with (first | (go_at_call 36; (with_reducible refine (KNR.out _).mono ?_); rintro e w7 ⟨rfl, hb7⟩; have L8 := LWW.out.on hb7; have H8 := HWW.out.on hb7; have O8 := OWW.out.on hb7; have G8 := GWW.out.on hb7; have B8 := BWW.out.trans (hb7.mono BWW.out.size); have b0 := L8.get 0 rfl; have b1 := L8.get 1 rfl; have b2 := L8.get 2 rfl; have bl := L8.1) | (go_at_call 37; (with_reducible refine (KEV.out _).mono ?_); rintro e w8 ⟨rfl, hb8⟩; have H9 := H8.on hb8; have O9 := Lib.hid (O8.on hb8); have G9 := Lib.hid (G8.on hb8); have B9 := Lib.hid (B8.trans (hb8.mono B8.size)); have v0 := H9.get 0 rfl; have v1 := H9.get 1 rfl; have v2 := H9.get 2 rfl; have vl := H9.1; have n0 := O9.out.1.get 0 rfl; have n1 := O9.out.1.get 1 rfl; have n2 := O9.out.1.get 2 rfl; have nl := O9.out.1.1; have nf0 := O9.out.2 0; have nf1 := O9.out.2 1; have nf2 := O9.out.2 2))
              obtain ⟨Y, hY⟩ : ∃ Y, Y = w8.setCells g14 0 (dcs false (hS m) (hX m)) := ⟨_, rfl⟩
              change Code.wp _ _ _ _ (w8.setCells g14 0 (dcs false (hS m) (hX m)))
              have HD := Lib.hid (show CF Y g14 (dcs false (hS m) (hX m)) by rw [hY]; exact O9.out.stored _ rfl)
              have HGY := Lib.hid (show CF Y g2 (dcs false ⟨#[]⟩ 0) by rw [hY]; exact G9.out.other _ hg214)
              have HBY := Lib.hid (show Below W.heap.size W Y by rw [hY]; exact below_setCells hg14 _ _ B9.out)
              rw [← hY]
              clear hY
              have a0 := HD.out.1.get 0 rfl; have a1 := HD.out.1.get 1 rfl; have a2 := HD.out.1.get 2 rfl; have al := HD.out.1.1; have af0 := HD.out.2 0; have af1 := HD.out.2 1; have af2 := HD.out.2 2
              have c0 := HGY.out.1.get 0 rfl; have c1 := HGY.out.1.get 1 rfl; have c2 := HGY.out.1.get 2 rfl; have cl := HGY.out.1.1; have cf0 := HGY.out.2 0; have cf1 := HGY.out.2 1; have cf2 := HGY.out.2 2
              go_wp2_with fail
              have e2 := Lib.hid (e1.out)
              obtain ⟨Z, hZ⟩ : ∃ Z, Z = (Y.setCells g14 0 [.bool n]).setCells g2 0 (dcs n (hS m) (hX m)) := ⟨_, rfl⟩
              change bodyPost _ _ _ _ _ ((Y.setCells g14 0 [.bool n]).setCells g2 0 (dcs n (hS m) (hX m)))
              have D : Cs Z g2 (dcs n (hS m) (hX m)) := by rw [hZ]; exact Cs.stored _ (HGY.out.other [.bool n] hg214).1 rfl
              have bZ : Below W.heap.size W Z := by rw [hZ]; exact below_setCells hgg _ _ (below_setCells hg14 _ _ HBY.out)
              rw [← hZ]
              have u0 := D.get 0 rfl; have u1 := D.get 1 rfl; have u2 := D.get 2 rfl; have ul := D.1
              refine bodyPost_ret (v := .agg #[.bool n, .string (hS m), .int .i64 (hX m)]) (by (simp [results, Tryz.results13, go_sem, u0, u1, u2]; done)) rfl ⟨by rw [e2.out.1, e2.out.2], bZ⟩
            )
          · by_cases k0' : nr m = 0
            · rw [k0'] at KNR
              cases hee : ev m
              · rw [hee] at KEV QH1
                have e1 := Lib.hid (QH1.out (Or.inr (Or.inr (Or.inr ⟨k0', rfl⟩))))
                clear QH1 QL1 k2 k0' hee
                go_upto_region 21 with (first | (go_at_call 36; (with_reducible refine (KNR.out _).mono ?_); rintro e w7 ⟨rfl, hb7⟩; have L8 := LWW.out.on hb7; have H8 := HWW.out.on hb7; have O8 := OWW.out.on hb7; have G8 := GWW.out.on hb7; have B8 := BWW.out.trans (hb7.mono BWW.out.size); have b0 := L8.get 0 rfl; have b1 := L8.get 1 rfl; have b2 := L8.get 2 rfl; have bl := L8.1) | (go_at_call 37; (with_reducible refine (KEV.out _).mono ?_); rintro e w8 ⟨rfl, hb8⟩; have H9 := H8.on hb8; have O9 := Lib.hid (O8.on hb8); have G9 := Lib.hid (G8.on hb8); have B9 := Lib.hid (B8.trans (hb8.mono B8.size)); have v0 := H9.get 0 rfl; have v1 := H9.get 1 rfl; have v2 := H9.get 2 rfl; have vl := H9.1; have n0 := O9.out.1.get 0 rfl; have n1 := O9.out.1.get 1 rfl; have n2 := O9.out.1.get 2 rfl; have nl := O9.out.1.1; have nf0 := O9.out.2 0; have nf1 := O9.out.2 1; have nf2 := O9.out.2 2))
                obtain ⟨Y, hY⟩ : ∃ Y, Y = w8.setCells g14 0 (dcs false (hS m) (hX m)) := ⟨_, rfl⟩
                change Code.wp _ _ _ _ (w8.setCells g14 0 (dcs false (hS m) (hX m)))
                have HD := Lib.hid (show CF Y g14 (dcs false (hS m) (hX m)) by rw [hY]; exact O9.out.stored _ rfl)
                have HGY := Lib.hid (show CF Y g2 (dcs false ⟨#[]⟩ 0) by rw [hY]; exact G9.out.other _ hg214)
                have HBY := Lib.hid (show Below W.heap.size W Y by rw [hY]; exact below_setCells hg14 _ _ B9.out)
                rw [← hY]
                clear hY
                have a0 := HD.out.1.get 0 rfl; have a1 := HD.out.1.get 1 rfl; have a2 := HD.out.1.get 2 rfl; have al := HD.out.1.1; have af0 := HD.out.2 0; have af1 := HD.out.2 1; have af2 := HD.out.2 2
                have c0 := HGY.out.1.get 0 rfl; have c1 := HGY.out.1.get 1 rfl; have c2 := HGY.out.1.get 2 rfl; have cl := HGY.out.1.1; have cf0 := HGY.out.2 0; have cf1 := HGY.out.2 1; have cf2 := HGY.out.2 2
                go_wp2_with fail
                have e2 := Lib.hid (e1.out)
                obtain ⟨Z, hZ⟩ : ∃ Z, Z = (Y.setCells g14 0 [.bool n]).setCells g2 0 (dcs n (hS m) (hX m)) := ⟨_, rfl⟩
                change bodyPost _ _ _ _ _ ((Y.setCells g14 0 [.bool n]).setCells g2 0 (dcs n (hS m) (hX m)))
                have D : Cs Z g2 (dcs n (hS m) (hX m)) := by rw [hZ]; exact Cs.stored _ (HGY.out.other [.bool n] hg214).1 rfl
                have bZ : Below W.heap.size W Z := by rw [hZ]; exact below_setCells hgg _ _ (below_setCells hg14 _ _ HBY.out)
                rw [← hZ]
                have u0 := D.get 0 rfl; have u1 := D.get 1 rfl; have u2 := D.get 2 rfl; have ul := D.1
                refine bodyPost_ret (v := .agg #[.bool n, .string (hS m), .int .i64 (hX m)]) (by (simp [results, Tryz.results13, go_sem, u0, u1, u2]; done)) rfl ⟨by rw [e2.out.1, e2.out.2], bZ⟩
              · rw [hee] at KEV QL1
                have e1 := Lib.hid (QL1.out (Or.inr ⟨rfl, k2, Or.inr rfl⟩))
                clear QH1 QL1 k2 k0' hee
                go_upto_region 21 with (first | (go_at_call 36; (with_reducible refine (KNR.out _).mono ?_); rintro e w7 ⟨rfl, hb7⟩; have L8 := LWW.out.on hb7; have H8 := HWW.out.on hb7; have O8 := OWW.out.on hb7; have G8 := GWW.out.on hb7; have B8 := BWW.out.trans (hb7.mono BWW.out.size); have b0 := L8.get 0 rfl; have b1 := L8.get 1 rfl; have b2 := L8.get 2 rfl; have bl := L8.1) | (go_at_call 37; (with_reducible refine (KEV.out _).mono ?_); rintro e w8 ⟨rfl, hb8⟩; have H9 := H8.on hb8; have O9 := Lib.hid (O8.on hb8); have G9 := Lib.hid (G8.on hb8); have B9 := Lib.hid (B8.trans (hb8.mono B8.size)); have v0 := H9.get 0 rfl; have v1 := H9.get 1 rfl; have v2 := H9.get 2 rfl; have vl := H9.1; have n0 := O9.out.1.get 0 rfl; have n1 := O9.out.1.get 1 rfl; have n2 := O9.out.1.get 2 rfl; have nl := O9.out.1.1; have nf0 := O9.out.2 0; have nf1 := O9.out.2 1; have nf2 := O9.out.2 2))
                obtain ⟨Y, hY⟩ : ∃ Y, Y = w8 := ⟨_, rfl⟩
                have HD := Lib.hid (show CF Y g14 (dcs false (lS m) (lX m)) by rw [hY]; exact O9.out)
                have HGY := Lib.hid (show CF Y g2 (dcs false ⟨#[]⟩ 0) by rw [hY]; exact G9.out)
                have HBY := Lib.hid (show Below W.heap.size W Y by rw [hY]; exact B9.out)
                rw [← hY]
                clear hY
                have a0 := HD.out.1.get 0 rfl; have a1 := HD.out.1.get 1 rfl; have a2 := HD.out.1.get 2 rfl; have al := HD.out.1.1; have af0 := HD.out.2 0; have af1 := HD.out.2 1; have af2 := HD.out.2 2
                have c0 := HGY.out.1.get 0 rfl; have c1 := HGY.out.1.get 1 rfl; have c2 := HGY.out.1.get 2 rfl; have cl := HGY.out.1.1; have cf0 := HGY.out.2 0; have cf1 := HGY.out.2 1; have cf2 := HGY.out.2 2
                go_wp2_with fail
                have e2 := Lib.hid (e1.out)
                obtain ⟨Z, hZ⟩ : ∃ Z, Z = (Y.setCells g14 0 [.bool n]).setCells g2 0 (dcs n (lS m) (lX m)) := ⟨_, rfl⟩
                change bodyPost _ _ _ _ _ ((Y.setCells g14 0 [.bool n]).setCells g2 0 (dcs n (lS m) (lX m)))
                have D : Cs Z g2 (dcs n (lS m) (lX m)) := by rw [hZ]; exact Cs.stored _ (HGY.out.other [.bool n] hg214).1 rfl
                have bZ : Below W.heap.size W Z := by rw [hZ]; exact below_setCells hgg _ _ (below_setCells hg14 _ _ HBY.out)
                rw [← hZ]
                have u0 := D.get 0 rfl; have u1 := D.get 1 rfl; have u2 := D.get 2 rfl; have ul := D.1
                refine bodyPost_ret (v := .agg #[.bool n, .string (lS m), .int .i64 (lX m)]) (by (simp [results, Tryz.results13, go_sem, u0, u1, u2]; done)) rfl ⟨by rw [e2.out.1, e2.out.2], bZ⟩
            · have e1 := Lib.hid (QL1.out (Or.inr ⟨rfl, k2, Or.inl k0'⟩))
              clear QH1 QL1
              go_upto_region 21 with (first | (go_at_call 36; (with_reducible refine (KNR.out _).mono ?_); rintro e w7 ⟨rfl, hb7⟩; have L8 := LWW.out.on hb7; have H8 := HWW.out.on hb7; have O8 := OWW.out.on hb7; have G8 := GWW.out.on hb7; have B8 := BWW.out.trans (hb7.mono BWW.out.size); have b0 := L8.get 0 rfl; have b1 := L8.get 1 rfl; have b2 := L8.get 2 rfl; have bl := L8.1) | (go_at_call 37; (with_reducible refine (KEV.out _).mono ?_); rintro e w8 ⟨rfl, hb8⟩; have H9 := H8.on hb8; have O9 := Lib.hid (O8.on hb8); have G9 := Lib.hid (G8.on hb8); have B9 := Lib.hid (B8.trans (hb8.mono B8.size)); have v0 := H9.get 0 rfl; have v1 := H9.get 1 rfl; have v2 := H9.get 2 rfl; have vl := H9.1; have n0 := O9.out.1.get 0 rfl; have n1 := O9.out.1.get 1 rfl; have n2 := O9.out.1.get 2 rfl; have nl := O9.out.1.1; have nf0 := O9.out.2 0; have nf1 := O9.out.2 1; have nf2 := O9.out.2 2))
              obtain ⟨Y, hY⟩ : ∃ Y, Y = w8 := ⟨_, rfl⟩
              have HD := Lib.hid (show CF Y g14 (dcs false (lS m) (lX m)) by rw [hY]; exact O9.out)
              have HGY := Lib.hid (show CF Y g2 (dcs false ⟨#[]⟩ 0) by rw [hY]; exact G9.out)
              have HBY := Lib.hid (show Below W.heap.size W Y by rw [hY]; exact B9.out)
              rw [← hY]
              clear hY
              have a0 := HD.out.1.get 0 rfl; have a1 := HD.out.1.get 1 rfl; have a2 := HD.out.1.get 2 rfl; have al := HD.out.1.1; have af0 := HD.out.2 0; have af1 := HD.out.2 1; have af2 := HD.out.2 2
              have c0 := HGY.out.1.get 0 rfl; have c1 := HGY.out.1.get 1 rfl; have c2 := HGY.out.1.get 2 rfl; have cl := HGY.out.1.1; have cf0 := HGY.out.2 0; have cf1 := HGY.out.2 1; have cf2 := HGY.out.2 2
              go_wp2_with fail
              have e2 := Lib.hid (e1.out)
              obtain ⟨Z, hZ⟩ : ∃ Z, Z = (Y.setCells g14 0 [.bool n]).setCells g2 0 (dcs n (lS m) (lX m)) := ⟨_, rfl⟩
              change bodyPost _ _ _ _ _ ((Y.setCells g14 0 [.bool n]).setCells g2 0 (dcs n (lS m) (lX m)))
              have D : Cs Z g2 (dcs n (lS m) (lX m)) := by rw [hZ]; exact Cs.stored _ (HGY.out.other [.bool n] hg214).1 rfl
              have bZ : Below W.heap.size W Z := by rw [hZ]; exact below_setCells hgg _ _ (below_setCells hg14 _ _ HBY.out)
              rw [← hZ]
              have u0 := D.get 0 rfl; have u1 := D.get 1 rfl; have u2 := D.get 2 rfl; have ul := D.1
              refine bodyPost_ret (v := .agg #[.bool n, .string (lS m), .int .i64 (lX m)]) (by (simp [results, Tryz.results13, go_sem, u0, u1, u2]; done)) rfl ⟨by rw [e2.out.1, e2.out.2], bZ⟩
      · have d1 : ((lB m : Int) == (y : Int)) = true := by rw [c1]; exact beq_self_eq_true _
        have d2 : ((hB m : Int) == (y : Int)) = false := by rw [beq_eq_false_iff_ne]; omega
        rw [d1, d2]
        have e1 := Lib.hid (QL.out c1 (Or.inl c2))
        clear c1 c2 d1 d2 QH QL QN KNR KEV KDF
        go_upto_region 21 with fail
        obtain ⟨Y, hY⟩ : ∃ Y, Y = WW := ⟨_, rfl⟩
        have HD := Lib.hid (show CF Y g14 (dcs false (lS m) (lX m)) by rw [hY]; exact OWW.out)
        have HGY := Lib.hid (show CF Y g2 (dcs false ⟨#[]⟩ 0) by rw [hY]; exact GWW.out)
        have HBY := Lib.hid (show Below W.heap.size W Y by rw [hY]; exact BWW.out)
        rw [← hY]
        clear hY
        have a0 := HD.out.1.get 0 rfl; have a1 := HD.out.1.get 1 rfl; have a2 := HD.out.1.get 2 rfl; have al := HD.out.1.1; have af0 := HD.out.2 0; have af1 := HD.out.2 1; have af2 := HD.out.2 2
        have c0 := HGY.out.1.get 0 rfl; have c1 := HGY.out.1.get 1 rfl; have c2 := HGY.out.1.get 2 rfl; have cl := HGY.out.1.1; have cf0 := HGY.out.2 0; have cf1 := HGY.out.2 1; have cf2 := HGY.out.2 2
        go_wp2_with fail
        have e2 := Lib.hid (e1.out)
        obtain ⟨Z, hZ⟩ : ∃ Z, Z = (Y.setCells g14 0 [.bool n]).setCells g2 0 (dcs n (lS m) (lX m)) := ⟨_, rfl⟩
        change bodyPost _ _ _ _ _ ((Y.setCells g14 0 [.bool n]).setCells g2 0 (dcs n (lS m) (lX m)))
        have D : Cs Z g2 (dcs n (lS m) (lX m)) := by rw [hZ]; exact Cs.stored _ (HGY.out.other [.bool n] hg214).1 rfl
        have bZ : Below W.heap.size W Z := by rw [hZ]; exact below_setCells hgg _ _ (below_setCells hg14 _ _ HBY.out)
        rw [← hZ]
        have u0 := D.get 0 rfl; have u1 := D.get 1 rfl; have u2 := D.get 2 rfl; have ul := D.1
        refine bodyPost_ret (v := .agg #[.bool n, .string (lS m), .int .i64 (lX m)]) (by (simp [results, Tryz.results13, go_sem, u0, u1, u2]; done)) rfl ⟨by rw [e2.out.1, e2.out.2], bZ⟩
      · have d1 : ((lB m : Int) == (y : Int)) = false := by rw [beq_eq_false_iff_ne]; omega
        have d2 : ((hB m : Int) == (y : Int)) = true := by rw [c2]; exact beq_self_eq_true _
        rw [d1, d2]
        have e1 := Lib.hid (QH.out c2 (Or.inl c1))
        clear c1 c2 d1 d2 QH QL QN KNR KEV KDF
        go_upto_region 21 with fail
        obtain ⟨Y, hY⟩ : ∃ Y, Y = WW.setCells g14 0 (dcs false (hS m) (hX m)) := ⟨_, rfl⟩
        change Code.wp _ _ _ _ (WW.setCells g14 0 (dcs false (hS m) (hX m)))
        have HD := Lib.hid (show CF Y g14 (dcs false (hS m) (hX m)) by rw [hY]; exact OWW.out.stored _ rfl)
        have HGY := Lib.hid (show CF Y g2 (dcs false ⟨#[]⟩ 0) by rw [hY]; exact GWW.out.other _ hg214)
        have HBY := Lib.hid (show Below W.heap.size W Y by rw [hY]; exact below_setCells hg14 _ _ BWW.out)
        rw [← hY]
        clear hY
        have a0 := HD.out.1.get 0 rfl; have a1 := HD.out.1.get 1 rfl; have a2 := HD.out.1.get 2 rfl; have al := HD.out.1.1; have af0 := HD.out.2 0; have af1 := HD.out.2 1; have af2 := HD.out.2 2
        have c0 := HGY.out.1.get 0 rfl; have c1 := HGY.out.1.get 1 rfl; have c2 := HGY.out.1.get 2 rfl; have cl := HGY.out.1.1; have cf0 := HGY.out.2 0; have cf1 := HGY.out.2 1; have cf2 := HGY.out.2 2
        go_wp2_with fail
        have e2 := Lib.hid (e1.out)
        obtain ⟨Z, hZ⟩ : ∃ Z, Z = (Y.setCells g14 0 [.bool n]).setCells g2 0 (dcs n (hS m) (hX m)) := ⟨_, rfl⟩
        change bodyPost _ _ _ _ _ ((Y.setCells g14 0 [.bool n]).setCells g2 0 (dcs n (hS m) (hX m)))
        have D : Cs Z g2 (dcs n (hS m) (hX m)) := by rw [hZ]; exact Cs.stored _ (HGY.out.other [.bool n] hg214).1 rfl
        have bZ : Below W.heap.size W Z := by rw [hZ]; exact below_setCells hgg _ _ (below_setCells hg14 _ _ HBY.out)
        rw [← hZ]
        have u0 := D.get 0 rfl; have u1 := D.get 1 rfl; have u2 := D.get 2 rfl; have ul := D.1
        refine bodyPost_ret (v := .agg #[.bool n, .string (hS m), .int .i64 (hX m)]) (by (simp [results, Tryz.results13, go_sem, u0, u1, u2]; done)) rfl ⟨by rw [e2.out.1, e2.out.2], bZ⟩
      · have d1 : ((lB m : Int) == (y : Int)) = false := by rw [beq_eq_false_iff_ne]; omega
        have d2 : ((hB m : Int) == (y : Int)) = false := by rw [beq_eq_false_iff_ne]; omega
        rw [d1, d2]
        have HP2 := Lib.hid (QN.out c1 c2)
        clear c1 c2 d1 d2 QH QL QN KNR KEV KDF
        go_wp2_with fail
        go_roundw
        case rel => exact ⟨m + 1, by omega, by omega, by go_num, HP2, SWW, GWW, BWW⟩
        case measure => simp [intOf]; omega
    · have hm17 : m = 17 := by omega
      subst hm17
      have hz := PF.out HP.out
      have KF := Lib.hid HF.out
      have HZ := Lib.hid hz
      clear hz HL HH HBL HBH HNR HEV HDF PH PL PN PF HP HF
      go_upto_region 25 with (first
        | (go_at_call 23; (with_reducible refine (KF.out _).mono ?_); rintro e w3 ⟨rfl, hb3⟩; have G3 := (HG.out.on hb3).alloc (.cells #[.bool false, .string fS, .int .i64 fX] 27); have hw3 := hb3.size; have B3 := (HB.out.trans (hb3.mono HB.out.size)).alloc (Nat.le_trans HB.out.size hw3) (.cells #[.bool false, .string fS, .int .i64 fX] 27); have L3 := CF.new w3 (dcs false fS fX) 27))
      change CF (w3.alloc (.cells #[.bool false, .string fS, .int .i64 fX] 27)) _ _ at L3
      obtain ⟨Y, hY⟩ : ∃ V, V = w3.alloc (.cells #[.bool false, .string fS, .int .i64 fX] 27) := ⟨_, rfl⟩
      rw [← hY] at G3 B3 L3 ⊢
      have z2 := HG.out.1.1
      have z0 := HB.out.size
      obtain ⟨g14, hg14e⟩ : ∃ g, g = w3.heap.size := ⟨_, rfl⟩
      rw [← hg14e] at L3
      have hq : W.heap.size ≤ g14 ∧ g2 ≠ g14 := by omega
      obtain ⟨hg14, hg214⟩ := hq
      rw [← hg14e]
      have HD := Lib.hid L3; have HGY := Lib.hid G3; have HBY := Lib.hid B3
      clear hY hg14e z2 z0 hw3 hb3 G3 B3 L3 s0 s1 s2 sl HS HG HB
      have a0 := HD.out.1.get 0 rfl; have a1 := HD.out.1.get 1 rfl; have a2 := HD.out.1.get 2 rfl; have al := HD.out.1.1; have af0 := HD.out.2 0; have af1 := HD.out.2 1; have af2 := HD.out.2 2
      have c0 := HGY.out.1.get 0 rfl; have c1 := HGY.out.1.get 1 rfl; have c2 := HGY.out.1.get 2 rfl; have cl := HGY.out.1.1; have cf0 := HGY.out.2 0; have cf1 := HGY.out.2 1; have cf2 := HGY.out.2 2
      go_wp2_with fail
      have e2 := Lib.hid (HZ.out)
      obtain ⟨Z, hZ⟩ : ∃ Z, Z = (Y.setCells g14 0 [.bool n]).setCells g2 0 (dcs n fS fX) := ⟨_, rfl⟩
      change bodyPost _ _ _ _ _ ((Y.setCells g14 0 [.bool n]).setCells g2 0 (dcs n fS fX))
      have D : Cs Z g2 (dcs n fS fX) := by rw [hZ]; exact Cs.stored _ (HGY.out.other [.bool n] hg214).1 rfl
      have bZ : Below W.heap.size W Z := by rw [hZ]; exact below_setCells hgg _ _ (below_setCells hg14 _ _ HBY.out)
      rw [← hZ]
      have u0 := D.get 0 rfl; have u1 := D.get 1 rfl; have u2 := D.get 2 rfl; have ul := D.1
      refine bodyPost_ret (v := .agg #[.bool n, .string fS, .int .i64 fX]) (by (simp [results, Tryz.results13, go_sem, u0, u1, u2]; done)) rfl ⟨by rw [e2.out.1, e2.out.2], bZ⟩
end Go.Proofs.YtiglekomfgfilaaGreatDoor

/- The reference of chapter 10: Dec. -/
namespace Go.Proofs.YtiglekomfgfilaaGreatDoor
set_option maxRecDepth 100000
set_option maxHeartbeats 4000000
set_option linter.all false
open Go.RowKit
theorem r10_dec_nil (x y : Nat) (n : Bool) (X : Int) (W : World)
    (hI : ∀ w1, Calls Tryz.prog 34 #[.int .u64 x] w1 (Ret0 (.bool n) w1))
    (hA : ∀ w1, Calls Tryz.prog 35 #[.int .u64 x] w1 (Ret0 (.int .u64 y) w1))
    (hD : ∀ w1, Calls Tryz.prog 22 #[.int .u64 y] w1 (RetB (.tuple #[dag false ⟨#[]⟩ X, .int .i64 0]) w1)) :
    Calls Tryz.prog 13 #[.int .u64 x] W (RetB (dag n ⟨#[]⟩ 0) W) := by
  unfold dag at hD ⊢
  have HI := Lib.hid hI; have HA := Lib.hid hA; have HD := Lib.hid hD
  have b0 : Below W.heap.size W (W.alloc (Obj.cells #[Value.bool false, Value.string ⟨#[]⟩, Value.int IntKind.i64 0] 27)) := (Below.refl _ _).alloc (Nat.le_refl _) _
  have f0 := CF.new W (dcs false ⟨#[]⟩ 0) 27
  clear hI hA hD
  go_enter Tryz.func13, Tryz.ntmps13
  go_upto_region 5 with (first
    | (go_at_call 34; (with_reducible refine (HI.out _).mono ?_); rintro e w' ⟨rfl, rfl⟩)
    | (go_at_call 35; (with_reducible refine (HA.out _).mono ?_); rintro e w' ⟨rfl, rfl⟩)
    | (go_at_call 22; (with_reducible refine (HD.out _).mono ?_); rintro e w1 ⟨rfl, hb1⟩; have f1 := f0.on hb1; have hB1 := b0.trans (hb1.mono b0.size); have hz1 := hb1.size; have s1 := Cs.new w1 (dcs false ⟨#[]⟩ X) 27; have r0 := s1.get 0 rfl; have r1 := s1.get 1 rfl; have r2 := s1.get 2 rfl; have rl := s1.1))
  have hBV : Below W.heap.size W (w1.alloc (.cells #[.bool false, .string ⟨#[]⟩, .int .i64 X] 27)) := hB1.alloc hB1.size _
  have fV := f1.alloc (.cells #[.bool false, .string ⟨#[]⟩, .int .i64 X] 27)
  obtain ⟨V, hV⟩ : ∃ V, V = w1.alloc (.cells #[.bool false, .string ⟨#[]⟩, .int .i64 X] 27) := ⟨_, rfl⟩
  rw [← hV] at hBV fV ⊢
  obtain ⟨g2, hg2⟩ : ∃ g, g = W.heap.size := ⟨_, rfl⟩
  rw [← hg2] at fV
  have hgg : W.heap.size ≤ g2 := by omega
  rw [← hg2]
  have HGY := Lib.hid fV; have HBY := Lib.hid hBV
  have c0 := fV.1.get 0 rfl; have c1 := fV.1.get 1 rfl; have c2 := fV.1.get 2 rfl; have cl := fV.1.1; have cf0 := fV.2 0; have cf1 := fV.2 1; have cf2 := fV.2 2
  clear hV hg2 hB1 hz1 f1 hb1 b0 f0 r0 r1 r2 rl fV hBV s1 HI HA HD
  go_wp2_with fail
  obtain ⟨Z, hZ⟩ : ∃ Z, Z = V.setCells g2 0 (dcs n ⟨#[]⟩ 0) := ⟨_, rfl⟩
  change bodyPost _ _ _ _ _ (V.setCells g2 0 (dcs n ⟨#[]⟩ 0))
  have D : Cs Z g2 (dcs n ⟨#[]⟩ 0) := by rw [hZ]; exact Cs.stored _ HGY.out.1 rfl
  have bZ : Below W.heap.size W Z := by rw [hZ]; exact below_setCells hgg _ _ HBY.out
  rw [← hZ]
  have u0 := D.get 0 rfl; have u1 := D.get 1 rfl; have u2 := D.get 2 rfl; have ul := D.1
  refine bodyPost_ret (v := .agg #[.bool n, .string ⟨#[]⟩, .int .i64 0]) (by (simp [results, Tryz.results13, go_sem, u0, u1, u2]; done)) rfl ⟨rfl, bZ⟩
theorem r10_dec_any (x : Nat) (W : World) (hx : x < 18446744073709551616) (hk : Fl.kind x < 3) :
    Calls Tryz.prog 13 #[.int .u64 x] W (RetB (drv (Fl.wdec x)) W) := by
  obtain ⟨d1, d2, d3, d4, d5, d6, d7⟩ := Fl.decx_fine x hk
  obtain ⟨k1, k2, k3, -⟩ := Fl.wdec_fine x hk
  have hab := Fl.abs_dec hx hk
  have hI := fun w1 => r3_is_any x w1
  have hA := fun w1 => r3_abs_any x hx hk w1
  have hD := fun w1 => r9_dec_any (x % 9223372036854775808) (by omega) w1
  rw [hab, drv_val] at hD
  by_cases hne : (Fl.dec x).l = []
  · have hv : drv (Fl.wdec x) = dag (Fl.neg x) ⟨#[]⟩ 0 := by
      have h0 : (Fl.dec x).x = 0 := by
        rw [hne, Dc.right_nil _ _ rfl] at d3
        simpa using d3
      have e : Fl.wdec x = Fl.dec x := by rw [Fl.wdec, if_neg (by omega), if_pos hne]
      rw [e, drv, d2, hne, h0]
    rw [hv]
    unfold drv at hD
    simp only [hne] at hD
    exact r10_dec_nil x _ _ _ W hI hA hD
  · have hv : Fl.wdec x = Fl.setn (Fl.neg x) (Fl.search false (Fl.dec x).l (Fl.dec x).x (x % 9223372036854775808) 16 1) := by
      rw [Fl.wdec, if_neg (by omega), if_neg hne]
      exact Fl.short_setn d3 hne (by omega)
    obtain ⟨p1, p2⟩ := Fl.dec_point hk hne
    obtain ⟨x1, x2⟩ := Fl.dec_x1 hk
    have hdv : drv (Fl.wdec x) = dag (Fl.neg x) ⟨(Fl.wdec x).l.toArray⟩ (Fl.wdec x).x := by rw [drv, k2]
    have hwl : (Fl.wdec x).l = (Fl.search false (Fl.dec x).l (Fl.dec x).x (x % 9223372036854775808) 16 1).l := by rw [hv]; rfl
    have hwx : (Fl.wdec x).x = (Fl.search false (Fl.dec x).l (Fl.dec x).x (x % 9223372036854775808) 16 1).x := by rw [hv]; rfl
    rw [hdv, hwl, hwx]
    obtain ⟨s, hs⟩ : ∃ s : ByteArray, s = ⟨(Fl.dec x).l.toArray⟩ := ⟨_, rfl⟩
    obtain ⟨X, hX⟩ : ∃ X, X = (Fl.dec x).x := ⟨_, rfl⟩
    have hsl : (Fl.dec x).l = s.data.toList := by rw [hs]
    unfold drv at hD
    simp only [← hs, ← hX] at hD
    rw [hsl, ← hX] at d3 p1 p2 ⊢
    rw [hsl] at hne
    rw [← hX] at d4 d5 x1 x2
    clear hv hdv hwl hwx k1 k2 k3 d1 d2 d6 d7 hab hs hsl hX
    obtain ⟨y, hy⟩ : ∃ y, y = x % 9223372036854775808 := ⟨_, rfl⟩
    rw [← hy] at hD ⊢
    have hA : ∀ w1, Calls Tryz.prog 35 #[.int .u64 x] w1 (Ret0 (.int .u64 y) w1) := by rw [hy]; exact hA
    clear hy
    have hlen := Dc.right_len d3
    rw [bs_length] at hlen p1 p2
    have hsz : s.size ≠ 0 := fun h => hne (List.eq_nil_of_length_eq_zero (by rw [bs_length]; exact h))
    have ho := fun (k : Nat) (hk : 1 ≤ k ∧ k ≤ 100) (way : Int) (hw : 0 ≤ way ∧ way ≤ 5) => Fl.sig_ok (s := false) (k := k) (way := way) d3 hne hk hw (by omega)
    have hpt := fun (k : Nat) (hk : 1 ≤ k ∧ k ≤ 100) (way : Int) (hw : 0 ≤ way ∧ way ≤ 5) => Fl.sig_point (s := false) (k := k) (way := way) d3 hne hk hw (by omega)
    have sig : ∀ (k : Nat) (hk : 1 ≤ k ∧ k ≤ 100) (way : Int) (hw : 0 ≤ way ∧ way ≤ 5) (w1 : World), Calls Tryz.prog 23 #[dag false s X, .int .i64 k, .int .i64 way] w1 (RetB (.tuple #[dag false ⟨(Dc.sig false s.data.toList X k way).l.toArray⟩ (Dc.sig false s.data.toList X k way).x, .int .i64 0]) w1) := fun k hk way hw w1 => by
      have h := r7_sig_any false s X k way w1 (by omega) (by omega) (by omega)
      rw [drv_val, drv, (ho k hk way hw).n, (ho k hk way hw).e] at h
      exact h
    have bit : ∀ (k : Nat) (hk : 1 ≤ k ∧ k ≤ 100) (way : Int) (hw : 0 ≤ way ∧ way ≤ 5) (w1 : World), Calls Tryz.prog 21 #[dag false ⟨(Dc.sig false s.data.toList X k way).l.toArray⟩ (Dc.sig false s.data.toList X k way).x] w1 (RetB (.int .u64 (Fl.bits (Dc.sig false s.data.toList X k way).l (Dc.sig false s.data.toList X k way).x : Nat)) w1) := fun k hk way hw w1 => by
      have h := r8_bits_any false ⟨(Dc.sig false s.data.toList X k way).l.toArray⟩ (Dc.sig false s.data.toList X k way).x w1 (ho k hk way hw).right
      rw [show Fl.wsign false = 0 from rfl, Nat.zero_add] at h
      exact h
    have bnd : ∀ (k : Nat) (hk : 1 ≤ k ∧ k ≤ 16) (way : Int) (hw : 0 ≤ way ∧ way ≤ 5), (Dc.sig false s.data.toList X k way).l.length ≤ 16 ∧ -1400 ≤ (Dc.sig false s.data.toList X k way).x ∧ (Dc.sig false s.data.toList X k way).x ≤ 1400 := fun k hk way hw => by
      have h1 := (ho k (by omega) way hw).len
      have h2 := (hpt k (by omega) way hw).2
      rw [bs_length] at h2
      omega
    refine r10_dec_walk x y (Fl.neg x) s ⟨(Dc.sig false s.data.toList X (17 : Nat) 0).l.toArray⟩ _ X (Dc.sig false s.data.toList X (17 : Nat) 0).x _
      (fun m => ⟨(Dc.sig false s.data.toList X m 2).l.toArray⟩) (fun m => ⟨(Dc.sig false s.data.toList X m 3).l.toArray⟩) (fun m => (Dc.sig false s.data.toList X m 2).x) (fun m => (Dc.sig false s.data.toList X m 3).x)
      (fun m => Fl.bits (Dc.sig false s.data.toList X m 2).l (Dc.sig false s.data.toList X m 2).x) (fun m => Fl.bits (Dc.sig false s.data.toList X m 3).l (Dc.sig false s.data.toList X m 3).x)
      (fun m => !(Fl.same (Dc.sig false s.data.toList X m 2) (Dc.sig false s.data.toList X m 3))) (fun m => Fl.evenN (Dc.sig false s.data.toList X m 2).l m)
      (fun m => Fl.nearV (Dc.vv (Dc.sig false s.data.toList X m 2).l (Dc.sig false s.data.toList X m 2).x) (Dc.vv s.data.toList X) (Dc.vv (Dc.sig false s.data.toList X m 3).l (Dc.sig false s.data.toList X m 3).x))
      (fun m => Fl.search false s.data.toList X y 16 1 = Fl.search false s.data.toList X y (17 - m) m) W hsz hI hA hD
      (fun m hm => sig m (by omega) 2 (by decide)) (fun m hm => sig m (by omega) 3 (by decide)) (sig 17 (by decide) 0 (by decide))
      (fun m hm => bit m (by omega) 2 (by decide)) (fun m hm => bit m (by omega) 3 (by decide)) ?_ ?_ ?_ rfl ?_ ?_ ?_ ?_
    · intro m w1
      rw [dc_neq]
      congr 3
      unfold dcEq Fl.same
      rw [toList_data, toList_data, bs_mk, bs_mk, Bool.eq_iff_iff]
      simp
    · intro m hm w1
      obtain ⟨a1, a2, a3⟩ := bnd m hm 2 (by decide)
      obtain ⟨b1, b2, b3⟩ := bnd m hm 3 (by decide)
      have o2 := ho m (by omega) 2 (by decide)
      have o3 := ho m (by omega) 3 (by decide)
      exact r10_nearer_any false false false _ s _ _ X _ w1 (by rw [← bs_length, bs_mk]; omega) (by omega) (by rw [← bs_length, bs_mk]; omega) (Dc.right_dig o2.right) (Dc.right_dig d3) (Dc.right_dig o3.right) ⟨a2, a3⟩ (by omega) ⟨b2, b3⟩
    · intro m hm w1
      have a1 := (bnd m hm 2 (by decide)).1
      exact r10_even_any false _ _ m w1 (by rw [← bs_length, bs_mk]; omega) (by omega)
    · intro m hm hP h1 h2
      have hst := Fl.step_high (b := y) (n := m) d3 hne (by omega) (by omega) (by
        refine ⟨decide_eq_true h1, ?_⟩
        rcases h2 with h2 | h2 | h2
        · exact Or.inl (decide_eq_false h2)
        · exact Or.inr (Or.inl (by simpa using h2))
        · exact Or.inr (Or.inr h2))
      have hr := hP.trans (Fl.search_step hm.2 hst)
      rw [hr]; exact ⟨rfl, rfl⟩
    · intro m hm hP h1 h2
      have hst := Fl.step_low (b := y) (n := m) d3 hne (by omega) (by omega) (by
        rintro ⟨q1, q2⟩
        have q1 := of_decide_eq_true q1
        rcases h2 with h2 | ⟨h2, h3, h4⟩
        · exact h2 q1
        · rcases q2 with q2 | q2 | q2 | ⟨q2, q3⟩
          · exact absurd h1 (of_decide_eq_false q2)
          · simp [q2] at h2
          · exact h3 q2
          · rcases h4 with h4 | h4
            · exact h4 q2
            · rw [h4] at q3; cases q3) (decide_eq_true h1)
      have hr := hP.trans (Fl.search_step hm.2 hst)
      rw [hr]; exact ⟨rfl, rfl⟩
    · intro m hm hP h1 h2
      have hst := Fl.step_none (b := y) (n := m) d3 hne (by omega) (by omega) (decide_eq_false h1) (decide_eq_false h2)
      exact hP.trans (Fl.search_next hm.2 hst)
    · intro hP
      have hr : Fl.search false s.data.toList X y 16 1 = Dc.sig false s.data.toList X (17 : Nat) 0 := by rw [hP]; rfl
      rw [hr]; exact ⟨rfl, rfl⟩
end Go.Proofs.YtiglekomfgfilaaGreatDoor

namespace Go.Proofs.YtiglekomfgfilaaGreatDoor
set_option linter.all false
open Go.RowKit
attribute [local go_sem] Dc.Res.val
end Go.Proofs.YtiglekomfgfilaaGreatDoor

/- The reference: Read and Parse. -/
namespace Go.Proofs.YtiglekomfgfilaaGreatDoor
set_option linter.all false
open Go.RowKit
end Go.Proofs.YtiglekomfgfilaaGreatDoor

namespace Go.Proofs.YtiglekomfgfilaaGreatDoor
set_option linter.all false
open Go.RowKit
end Go.Proofs.YtiglekomfgfilaaGreatDoor

namespace Go.Proofs.YtiglekomfgfilaaGreatDoor
set_option linter.all false
open Go.RowKit
attribute [local go_sem] Dc.Res.val
end Go.Proofs.YtiglekomfgfilaaGreatDoor

/- The reference of chapter 10: Print, Parse. -/
namespace Go.Proofs.YtiglekomfgfilaaGreatDoor
set_option linter.all false
open Go.RowKit
end Go.Proofs.YtiglekomfgfilaaGreatDoor

/- Chapter 10's laws: a number is written, a text is read or refused, as the document says; the decimals. -/
namespace Go.Proofs.YtiglekomfgfilaaGreatDoor
set_option linter.all false
open Go.RowKit
attribute [local go_sem] dc_guard
end Go.Proofs.YtiglekomfgfilaaGreatDoor
