/- exact.Dec, Mid, Sig, Place, and the reference's. -/
import Derived.Test.YtlhahbniigjkkaaGreatDoorZ17
import Derived.Test.YtlhahbniigjkkaaGreatDoorZ18
import Derived.Test.YtlhahbniigjkkaaGreatDoorZ22
import Derived.Test.YtlhahbniigjkkaaGreatDoorZ25
namespace Go.Proofs.YtlhahbniigjkkaaGreatDoor
set_option linter.all false
open Go.RowKit
attribute [local go_sem] Fl.dv Dc.Res.val

theorem Fl.dec_bounds (x : Nat) : Fl.mant x < Na.B ^ 2 ∧ 2 * Fl.mant x + 1 < Na.B ^ 2 ∧ (-1100 ≤ Fl.expn x ∧ Fl.expn x ≤ 1100) ∧ (-1100 ≤ Fl.expn x - 1 ∧ Fl.expn x - 1 ≤ 1100) := by
  have h1 := Fl.mant_lt x
  have h2 := Fl.expn_bound x
  have h3 : Na.B ^ 2 = 18446744073709551616 := rfl
  omega

set_option maxHeartbeats 1000000 in
theorem r3_nat_any (v : Nat) (hv : v < 18446744073709551616) (w : World) : Calls Tryz.prog 28 #[.int .u64 v] w (GivesZ (Na.limbs v) w) := by
  have H := Lib.hid (r1_of_any v hv w)
  go_enter Tryz.func28, Tryz.ntmps28
  go_wp2_with (first | (go_at_call 72; (with_reducible refine (H.out).mono ?_); rintro e w1 ⟨a1, c1, rfl, s1, z1, r1, hb1⟩))
  go_ret
  exact ⟨a1, c1, rfl, s1, z1, r1, hb1⟩

set_option maxHeartbeats 1000000 in
theorem r9_finite_any (x : Nat) (hx : x < 18446744073709551616) (w : World) : Calls Tryz.prog 35 #[.int .u64 x] w (Ret0 (.bool (decide (Fl.kind x < 3))) w) := by
  have HK := Lib.hid (fun w => r3_kind_any x hx w)
  obtain ⟨k, hk⟩ : ∃ k, k = Fl.kind x := ⟨_, rfl⟩
  rw [← hk] at HK ⊢
  clear hk
  have hi : decide ((k : Int) < 3) = decide (k < 3) := decide_eq_decide.2 (by omega)
  have HI := Lib.hid hi
  clear hi
  go_enter Tryz.func35, Tryz.ntmps35
  go_wp2_with (go_at_call 20; (with_reducible refine (HK.out _).mono ?_); rintro e w' ⟨rfl, rfl⟩)
  refine bodyPost_ret (v := .bool (decide ((k : Int) < 3))) (by simp [results, Tryz.results35, go_sem]) rfl (Ret0.of (by rw [HI.out]))

set_option maxHeartbeats 2000000 in
theorem ex_dec_any (x : Nat) (hx : x < 18446744073709551616) (w : World) (ht : Tab w) : Calls Tryz.prog 10 #[.int .u64 x] w (RetB (Fl.dec x).val w) := by
  obtain ⟨b1, b2, b3, b4⟩ := Fl.dec_bounds x
  have hk := fun w => fl_kind_any x hx w
  have hsp := fun w => fl_split_any x hx w
  by_cases h : 3 ≤ Fl.kind x
  · have hd := Lib.hid (show Fl.dec x = ⟨false, [], 0, 11⟩ from if_pos h)
    obtain ⟨k, hkk⟩ : ∃ k, k = Fl.kind x := ⟨_, rfl⟩
    rw [← hkk] at hk h
    have HK := Lib.hid hk
    clear hkk hk hsp b1 b2 b3 b4
    go_enter Tryz.func10, Tryz.ntmps10
    go_wp2_with (go_at_call 31; (with_reducible refine (HK.out _).mono ?_); rintro e w' ⟨rfl, rfl⟩)
    refine bodyPost_ret (v := .tuple #[.agg #[.bool false, .string ⟨#[]⟩, .int .i64 0], .int .i64 11]) (by simp [results, Tryz.results10, go_sem]; done) rfl (RetB.of (by rw [hd.out]; first | done | rfl) (by (repeat (first | exact Below.refl _ _ | assumption | refine Below.setCell ?_ (by first | omega | (simp <;> omega)) _ | refine Below.alloc ?_ (by first | omega | (simp <;> omega)) _ | refine Below.drew ?_ | refine below_drewN' ?_ _))))
  · have hd := Lib.hid (show Fl.dec x = Fl.okd (Fl.of (Fl.neg x) (Fl.mant x) (Fl.expn x)) from if_neg h)
    obtain ⟨k, hkk⟩ : ∃ k, k = Fl.kind x := ⟨_, rfl⟩
    obtain ⟨m, hm⟩ : ∃ k, k = Fl.mant x := ⟨_, rfl⟩
    obtain ⟨e, he⟩ : ∃ k, k = Fl.expn x := ⟨_, rfl⟩
    obtain ⟨s, hs⟩ : ∃ k, k = Fl.neg x := ⟨_, rfl⟩
    rw [← hm, ← he, ← hs] at hsp hd
    rw [← hm] at b1 b2
    rw [← he] at b3 b4
    rw [← hkk] at hk h
    have hml : m < 18446744073709551616 := b1
    obtain ⟨e3, e4⟩ := b3
    have HK := Lib.hid hk; have HSP := Lib.hid hsp
    have HO := Lib.hid (fun w => na_of_any m hml w)
    have HEX := Lib.hid (fun w1 g (hb : Below w.heap.size w w1) (hk : Blk w1 g (Na.limbs m)) => ex_of_any s (some ⟨g, 0, none⟩) (Na.limbs m).length m e w1 (hk.sl (Na.ok_limbs m) (Nat.le_refl _)) b1 (by omega) (ht.below hb))
    obtain ⟨R, hR⟩ : ∃ R, R = Fl.of s m e := ⟨_, rfl⟩
    rw [← hR] at hd HEX
    clear hkk hm he hs hk hsp b1 b2 hR
    go_enter Tryz.func10, Tryz.ntmps10
    go_wp2_with (first
      | (go_at_call 31; (with_reducible refine (HK.out _).mono ?_); rintro e w' ⟨rfl, rfl⟩)
      | (go_at_call 32; (with_reducible refine (HSP.out _).mono ?_); rintro e w' ⟨rfl, rfl⟩)
      | (go_at_call 34; (with_reducible refine (HO.out _).mono ?_); rintro e w1 ⟨g, rfl, hg, hk, hb1⟩; have zz1 := (Z3.new w).on hb1; have hB1 : Below w.heap.size w w1 := Below.trans ((Below.refl _ _).alloc (Nat.le_refl _) _) (hb1.mono (by simp)))
      | (go_at_call 33; (with_reducible refine (HEX.out _ _ hB1 hk).mono ?_); rintro e w2 ⟨rfl, hb2⟩; have hB2 := hB1.trans (hb2.mono hB1.size); have zz2 := zz1.on hb2; obtain ⟨y0, y1, y2, yf, yl⟩ := zz2; have yf0 := yf 0; have yf1 := yf 1; have yf2 := yf 2; have yn : ¬ w.heap.size = w2.heap.size := (by omega); have yn' : ¬ w2.heap.size = w.heap.size := (by omega)))
    refine bodyPost_ret (v := .tuple #[Fl.dv R, .int .i64 0]) (by simp [results, Tryz.results10, go_sem, y0, y1, y2, yf0, yf1, yf2, yn, yn', yl]; done) rfl (RetB.of (by rw [hd.out]; first | done | rfl) (by (repeat (first | exact Below.refl _ _ | assumption | refine Below.setCell ?_ (by first | omega | (simp <;> omega)) _ | refine Below.alloc ?_ (by first | omega | (simp <;> omega)) _ | refine Below.drew ?_ | refine below_drewN' ?_ _))))

set_option maxHeartbeats 2000000 in
theorem r9_dec_any (x : Nat) (hx : x < 18446744073709551616) (w : World) : Calls Tryz.prog 11 #[.int .u64 x] w (RetB (Fl.dec x).val w) := by
  obtain ⟨b1, b2, b3, b4⟩ := Fl.dec_bounds x
  have hk := fun w => r9_finite_any x hx w
  have hsp := fun w => r3_split_any x hx w
  by_cases h : 3 ≤ Fl.kind x
  · have hd := Lib.hid (show Fl.dec x = ⟨false, [], 0, 11⟩ from if_pos h)
    obtain ⟨k, hkk⟩ : ∃ k, k = Fl.kind x := ⟨_, rfl⟩
    rw [← hkk] at hk h
    rw [decide_eq_false (show ¬ k < 3 by omega)] at hk
    have HK := Lib.hid hk
    clear hkk hk hsp b1 b2 b3 b4
    go_enter Tryz.func11, Tryz.ntmps11
    go_wp2_with (go_at_call 35; (with_reducible refine (HK.out _).mono ?_); rintro e w' ⟨rfl, rfl⟩)
    refine bodyPost_ret (v := .tuple #[.agg #[.bool false, .string ⟨#[]⟩, .int .i64 0], .int .i64 11]) (by simp [results, Tryz.results11, go_sem]; done) rfl (RetB.of (by rw [hd.out]; first | done | rfl) (by (repeat (first | exact Below.refl _ _ | assumption | refine Below.setCell ?_ (by first | omega | (simp <;> omega)) _ | refine Below.alloc ?_ (by first | omega | (simp <;> omega)) _ | refine Below.drew ?_ | refine below_drewN' ?_ _))))
  · have hd := Lib.hid (show Fl.dec x = Fl.okd (Fl.of (Fl.neg x) (Fl.mant x) (Fl.expn x)) from if_neg h)
    obtain ⟨k, hkk⟩ : ∃ k, k = Fl.kind x := ⟨_, rfl⟩
    obtain ⟨m, hm⟩ : ∃ k, k = Fl.mant x := ⟨_, rfl⟩
    obtain ⟨e, he⟩ : ∃ k, k = Fl.expn x := ⟨_, rfl⟩
    obtain ⟨s, hs⟩ : ∃ k, k = Fl.neg x := ⟨_, rfl⟩
    rw [← hm, ← he, ← hs] at hsp hd
    rw [← hm] at b1 b2
    rw [← he] at b3 b4
    rw [← hkk] at hk h
    rw [decide_eq_true (show k < 3 by omega)] at hk
    have hml : m < 18446744073709551616 := b1
    obtain ⟨e3, e4⟩ := b3
    have HK := Lib.hid hk; have HSP := Lib.hid hsp
    have HO := Lib.hid (fun w => r3_nat_any m hml w)
    have HEX := Lib.hid (fun w1 a1 c1 (hs : Sl w1 a1 c1 (Na.limbs m)) (hz : a1 = none → c1 = 0) => r9_of_any s a1 c1 m e w1 hs hz b1 (by omega))
    obtain ⟨R, hR⟩ : ∃ R, R = Fl.of s m e := ⟨_, rfl⟩
    rw [← hR] at hd HEX
    clear hkk hm he hs hk hsp b1 b2 hR
    go_enter Tryz.func11, Tryz.ntmps11
    go_wp2_with (first
      | (go_at_call 35; (with_reducible refine (HK.out _).mono ?_); rintro e w' ⟨rfl, rfl⟩)
      | (go_at_call 26; (with_reducible refine (HSP.out _).mono ?_); rintro e w' ⟨rfl, rfl⟩)
      | (go_at_call 28; (with_reducible refine (HO.out _).mono ?_); rintro e w1 ⟨a1, c1, rfl, s1, z1, -, hb1⟩; have zz1 := (Z3.new w).on hb1; have hB1 : Below w.heap.size w w1 := Below.trans ((Below.refl _ _).alloc (Nat.le_refl _) _) (hb1.mono (by simp)))
      | (go_at_call 36; (with_reducible refine (HEX.out _ _ _ s1 z1).mono ?_); rintro e w2 ⟨rfl, hb2⟩; have hB2 := hB1.trans (hb2.mono hB1.size); have zz2 := zz1.on hb2; obtain ⟨y0, y1, y2, yf, yl⟩ := zz2; have yf0 := yf 0; have yf1 := yf 1; have yf2 := yf 2; have yn : ¬ w.heap.size = w2.heap.size := (by omega); have yn' : ¬ w2.heap.size = w.heap.size := (by omega)))
    refine bodyPost_ret (v := .tuple #[Fl.dv R, .int .i64 0]) (by simp [results, Tryz.results11, go_sem, y0, y1, y2, yf0, yf1, yf2, yn, yn', yl]; done) rfl (RetB.of (by rw [hd.out]; first | done | rfl) (by (repeat (first | exact Below.refl _ _ | assumption | refine Below.setCell ?_ (by first | omega | (simp <;> omega)) _ | refine Below.alloc ?_ (by first | omega | (simp <;> omega)) _ | refine Below.drew ?_ | refine below_drewN' ?_ _))))

set_option maxHeartbeats 2000000 in
theorem ex_mid_any (x : Nat) (hx : x < 18446744073709551616) (w : World) (ht : Tab w) : Calls Tryz.prog 16 #[.int .u64 x] w (RetB (Fl.mid x).val w) := by
  obtain ⟨b1, b2, b3, b4⟩ := Fl.dec_bounds x
  have hk := fun w => fl_kind_any x hx w
  have hsp := fun w => fl_split_any x hx w
  by_cases h : 3 ≤ Fl.kind x
  · have hd := Lib.hid (show Fl.mid x = ⟨false, [], 0, 11⟩ from if_pos h)
    obtain ⟨k, hkk⟩ : ∃ k, k = Fl.kind x := ⟨_, rfl⟩
    rw [← hkk] at hk h
    have HK := Lib.hid hk
    clear hkk hk hsp b1 b2 b3 b4
    go_enter Tryz.func16, Tryz.ntmps16
    go_wp2_with (go_at_call 31; (with_reducible refine (HK.out _).mono ?_); rintro e w' ⟨rfl, rfl⟩)
    refine bodyPost_ret (v := .tuple #[.agg #[.bool false, .string ⟨#[]⟩, .int .i64 0], .int .i64 11]) (by simp [results, Tryz.results16, go_sem]; done) rfl (RetB.of (by rw [hd.out]; first | done | rfl) (by (repeat (first | exact Below.refl _ _ | assumption | refine Below.setCell ?_ (by first | omega | (simp <;> omega)) _ | refine Below.alloc ?_ (by first | omega | (simp <;> omega)) _ | refine Below.drew ?_ | refine below_drewN' ?_ _))))
  · have hd := Lib.hid (show Fl.mid x = Fl.okd (Fl.of (Fl.neg x) (2 * (Fl.mant x) + 1) (Fl.expn x - 1)) from if_neg h)
    obtain ⟨k, hkk⟩ : ∃ k, k = Fl.kind x := ⟨_, rfl⟩
    obtain ⟨m, hm⟩ : ∃ k, k = Fl.mant x := ⟨_, rfl⟩
    obtain ⟨e, he⟩ : ∃ k, k = Fl.expn x := ⟨_, rfl⟩
    obtain ⟨s, hs⟩ : ∃ k, k = Fl.neg x := ⟨_, rfl⟩
    rw [← hm, ← he, ← hs] at hsp hd
    rw [← hm] at b1 b2
    rw [← he] at b3 b4
    rw [← hkk] at hk h
    have hml : (2 * m + 1) < 18446744073709551616 := b2
    obtain ⟨e3, e4⟩ := b3
    have HK := Lib.hid hk; have HSP := Lib.hid hsp
    have HO := Lib.hid (fun w => na_of_any (2 * m + 1) hml w)
    have HEX := Lib.hid (fun w1 g (hb : Below w.heap.size w w1) (hk : Blk w1 g (Na.limbs (2 * m + 1))) => ex_of_any s (some ⟨g, 0, none⟩) (Na.limbs (2 * m + 1)).length (2 * m + 1) (e - 1) w1 (hk.sl (Na.ok_limbs (2 * m + 1)) (Nat.le_refl _)) b2 (by omega) (ht.below hb))
    obtain ⟨R, hR⟩ : ∃ R, R = Fl.of s (2 * m + 1) (e - 1) := ⟨_, rfl⟩
    rw [← hR] at hd HEX
    obtain ⟨m2, hm2⟩ : ∃ k, k = 2 * m + 1 := ⟨_, rfl⟩
    have hm2i : 2 * (m : Int) + 1 = (m2 : Int) := by omega
    rw [← hm2] at hml
    simp only [← hm2] at HO HEX
    clear hm2
    clear hkk hm he hs hk hsp b1 b2 hR
    go_enter Tryz.func16, Tryz.ntmps16
    go_wp2_with (first
      | (go_at_call 31; (with_reducible refine (HK.out _).mono ?_); rintro e w' ⟨rfl, rfl⟩)
      | (go_at_call 32; (with_reducible refine (HSP.out _).mono ?_); rintro e w' ⟨rfl, rfl⟩)
      | (go_at_call 34; (with_reducible refine (HO.out _).mono ?_); rintro e w1 ⟨g, rfl, hg, hk, hb1⟩; have zz1 := (Z3.new w).on hb1; have hB1 : Below w.heap.size w w1 := Below.trans ((Below.refl _ _).alloc (Nat.le_refl _) _) (hb1.mono (by simp)))
      | (go_at_call 33; (with_reducible refine (HEX.out _ _ hB1 hk).mono ?_); rintro e w2 ⟨rfl, hb2⟩; have hB2 := hB1.trans (hb2.mono hB1.size); have zz2 := zz1.on hb2; obtain ⟨y0, y1, y2, yf, yl⟩ := zz2; have yf0 := yf 0; have yf1 := yf 1; have yf2 := yf 2; have yn : ¬ w.heap.size = w2.heap.size := (by omega); have yn' : ¬ w2.heap.size = w.heap.size := (by omega)))
    refine bodyPost_ret (v := .tuple #[Fl.dv R, .int .i64 0]) (by simp [results, Tryz.results16, go_sem, y0, y1, y2, yf0, yf1, yf2, yn, yn', yl]; done) rfl (RetB.of (by rw [hd.out]; first | done | rfl) (by (repeat (first | exact Below.refl _ _ | assumption | refine Below.setCell ?_ (by first | omega | (simp <;> omega)) _ | refine Below.alloc ?_ (by first | omega | (simp <;> omega)) _ | refine Below.drew ?_ | refine below_drewN' ?_ _))))

set_option maxHeartbeats 2000000 in
theorem r9_mid_any (x : Nat) (hx : x < 18446744073709551616) (w : World) : Calls Tryz.prog 17 #[.int .u64 x] w (RetB (Fl.mid x).val w) := by
  obtain ⟨b1, b2, b3, b4⟩ := Fl.dec_bounds x
  have hk := fun w => r9_finite_any x hx w
  have hsp := fun w => r3_split_any x hx w
  by_cases h : 3 ≤ Fl.kind x
  · have hd := Lib.hid (show Fl.mid x = ⟨false, [], 0, 11⟩ from if_pos h)
    obtain ⟨k, hkk⟩ : ∃ k, k = Fl.kind x := ⟨_, rfl⟩
    rw [← hkk] at hk h
    rw [decide_eq_false (show ¬ k < 3 by omega)] at hk
    have HK := Lib.hid hk
    clear hkk hk hsp b1 b2 b3 b4
    go_enter Tryz.func17, Tryz.ntmps17
    go_wp2_with (go_at_call 35; (with_reducible refine (HK.out _).mono ?_); rintro e w' ⟨rfl, rfl⟩)
    refine bodyPost_ret (v := .tuple #[.agg #[.bool false, .string ⟨#[]⟩, .int .i64 0], .int .i64 11]) (by simp [results, Tryz.results17, go_sem]; done) rfl (RetB.of (by rw [hd.out]; first | done | rfl) (by (repeat (first | exact Below.refl _ _ | assumption | refine Below.setCell ?_ (by first | omega | (simp <;> omega)) _ | refine Below.alloc ?_ (by first | omega | (simp <;> omega)) _ | refine Below.drew ?_ | refine below_drewN' ?_ _))))
  · have hd := Lib.hid (show Fl.mid x = Fl.okd (Fl.of (Fl.neg x) (2 * (Fl.mant x) + 1) (Fl.expn x - 1)) from if_neg h)
    obtain ⟨k, hkk⟩ : ∃ k, k = Fl.kind x := ⟨_, rfl⟩
    obtain ⟨m, hm⟩ : ∃ k, k = Fl.mant x := ⟨_, rfl⟩
    obtain ⟨e, he⟩ : ∃ k, k = Fl.expn x := ⟨_, rfl⟩
    obtain ⟨s, hs⟩ : ∃ k, k = Fl.neg x := ⟨_, rfl⟩
    rw [← hm, ← he, ← hs] at hsp hd
    rw [← hm] at b1 b2
    rw [← he] at b3 b4
    rw [← hkk] at hk h
    rw [decide_eq_true (show k < 3 by omega)] at hk
    have hml : (2 * m + 1) < 18446744073709551616 := b2
    obtain ⟨e3, e4⟩ := b3
    have HK := Lib.hid hk; have HSP := Lib.hid hsp
    have HO := Lib.hid (fun w => r3_nat_any (2 * m + 1) hml w)
    have HEX := Lib.hid (fun w1 a1 c1 (hs : Sl w1 a1 c1 (Na.limbs (2 * m + 1))) (hz : a1 = none → c1 = 0) => r9_of_any s a1 c1 (2 * m + 1) (e - 1) w1 hs hz b2 (by omega))
    obtain ⟨R, hR⟩ : ∃ R, R = Fl.of s (2 * m + 1) (e - 1) := ⟨_, rfl⟩
    rw [← hR] at hd HEX
    obtain ⟨m2, hm2⟩ : ∃ k, k = 2 * m + 1 := ⟨_, rfl⟩
    have hm2i : 2 * (m : Int) + 1 = (m2 : Int) := by omega
    rw [← hm2] at hml
    simp only [← hm2] at HO HEX
    clear hm2
    clear hkk hm he hs hk hsp b1 b2 hR
    go_enter Tryz.func17, Tryz.ntmps17
    go_wp2_with (first
      | (go_at_call 35; (with_reducible refine (HK.out _).mono ?_); rintro e w' ⟨rfl, rfl⟩)
      | (go_at_call 26; (with_reducible refine (HSP.out _).mono ?_); rintro e w' ⟨rfl, rfl⟩)
      | (go_at_call 28; (with_reducible refine (HO.out _).mono ?_); rintro e w1 ⟨a1, c1, rfl, s1, z1, -, hb1⟩; have zz1 := (Z3.new w).on hb1; have hB1 : Below w.heap.size w w1 := Below.trans ((Below.refl _ _).alloc (Nat.le_refl _) _) (hb1.mono (by simp)))
      | (go_at_call 36; (with_reducible refine (HEX.out _ _ _ s1 z1).mono ?_); rintro e w2 ⟨rfl, hb2⟩; have hB2 := hB1.trans (hb2.mono hB1.size); have zz2 := zz1.on hb2; obtain ⟨y0, y1, y2, yf, yl⟩ := zz2; have yf0 := yf 0; have yf1 := yf 1; have yf2 := yf 2; have yn : ¬ w.heap.size = w2.heap.size := (by omega); have yn' : ¬ w2.heap.size = w.heap.size := (by omega)))
    refine bodyPost_ret (v := .tuple #[Fl.dv R, .int .i64 0]) (by simp [results, Tryz.results17, go_sem, y0, y1, y2, yf0, yf1, yf2, yn, yn', yl]; done) rfl (RetB.of (by rw [hd.out]; first | done | rfl) (by (repeat (first | exact Below.refl _ _ | assumption | refine Below.setCell ?_ (by first | omega | (simp <;> omega)) _ | refine Below.alloc ?_ (by first | omega | (simp <;> omega)) _ | refine Below.drew ?_ | refine below_drewN' ?_ _))))

theorem Fl.dec_fine (x : Nat) (h : Fl.kind x < 3) : (Fl.dec x).e = 0 ∧ Dc.right (Fl.dec x).l (Fl.dec x).x = true := by
  rw [Fl.dec, if_neg (by omega)]
  exact ⟨rfl, (Fl.dec_worth x h).1.right⟩

set_option maxHeartbeats 2000000 in
theorem ex_sig_any (x : Nat) (k way : Int) (hx : x < 18446744073709551616) (hk : -9223372036854775808 ≤ k ∧ k ≤ 9223372036854775807) (w : World) (ht : Tab w) :
    Calls Tryz.prog 12 #[.int .u64 x, .int .i64 k, .int .i64 way] w (RetB (Fl.sig x k way).val w) := by
  have hde := fun w1 (hb : Below w.heap.size w w1) => ex_dec_any x hx w1 (ht.below hb)
  by_cases h : 3 ≤ Fl.kind x
  · have hd := Lib.hid (show Fl.sig x k way = ⟨false, [], 0, 11⟩ from if_pos h)
    rw [show Fl.dec x = ⟨false, [], 0, 11⟩ from if_pos h] at hde
    have HD := Lib.hid (show ∀ w1, Below w.heap.size w w1 → Calls Tryz.prog 10 #[.int .u64 x] w1 (RetB (.tuple #[.agg #[.bool false, .string ⟨#[]⟩, .int .i64 0], .int .i64 11]) w1) from hde)
    clear h hde
    go_enter Tryz.func12, Tryz.ntmps12
    go_wp2_with (first
      | (go_at_call 10; (with_reducible refine (HD.out _ ?_).mono ?_); exact (Below.refl _ _).alloc (Nat.le_refl _) _; rintro e w1 ⟨rfl, hb1⟩; have zz1 := (Z3.new w).on hb1; have hB1 : Below w.heap.size w w1 := Below.trans ((Below.refl _ _).alloc (Nat.le_refl _) _) (hb1.mono (by simp)); obtain ⟨y0, y1, y2, yf, yl⟩ := zz1; have yf0 := yf 0; have yf1 := yf 1; have yf2 := yf 2; have yn : ¬ w.heap.size = w1.heap.size := (by omega); have yn' : ¬ w1.heap.size = w.heap.size := (by omega)))
    refine bodyPost_ret (v := .tuple #[.agg #[.bool false, .string ⟨#[]⟩, .int .i64 0], .int .i64 11]) (by simp [results, Tryz.results12, go_sem, y0, y1, y2, yf0, yf1, yf2, yn, yn', yl]; done) rfl (RetB.of (by rw [hd.out]; first | done | rfl) (by (repeat (first | exact Below.refl _ _ | assumption | refine Below.setCell ?_ (by first | omega | (simp <;> omega)) _ | refine Below.alloc ?_ (by first | omega | (simp <;> omega)) _ | refine Below.drew ?_ | refine below_drewN' ?_ _))))
  · obtain ⟨f1, f2⟩ := Fl.dec_fine x (by omega)
    have hd := (show Fl.sig x k way = Dc.sig (Fl.dec x).n (Fl.dec x).l (Fl.dec x).x k way from if_neg h)
    have hlen := Dc.right_len f2
    obtain ⟨hx1, hx2⟩ := Dc.right_exp f2
    obtain ⟨⟨rn, rl, rx, re⟩, hR⟩ : ∃ R, R = Fl.dec x := ⟨_, rfl⟩
    rw [← hR] at hd hde f1 hlen hx1 hx2
    simp only at f1 hd hlen hx1 hx2
    subst f1
    obtain ⟨s, hs⟩ : ∃ s : ByteArray, s = ⟨rl.toArray⟩ := ⟨_, rfl⟩
    have hsl : s.data.toList = rl := by rw [hs]
    have hss : s.size = rl.length := by rw [hs, size_mk]
    have hsg := fun w1 => d_sig_any rn s rx k way w1 (by omega) (by omega) hk
    rw [hsl, ← hd] at hsg
    have HSG := Lib.hid hsg
    have HD := Lib.hid (show ∀ w1, Below w.heap.size w w1 → Calls Tryz.prog 10 #[.int .u64 x] w1 (RetB (.tuple #[.agg #[.bool rn, .string s, .int .i64 rx], .int .i64 0]) w1) from by rw [hs]; exact hde)
    obtain ⟨R, hRR⟩ : ∃ R, R = Fl.sig x k way := ⟨_, rfl⟩
    rw [← hRR] at HSG ⊢
    clear h hde hd hR hs hsl hsg hRR f2
    go_enter Tryz.func12, Tryz.ntmps12
    go_wp2_with (first
      | (go_at_call 10; (with_reducible refine (HD.out _ ?_).mono ?_); exact (Below.refl _ _).alloc (Nat.le_refl _) _; rintro e w1 ⟨rfl, hb1⟩; have zz1 := (Z3.new w).on hb1; have hB1 : Below w.heap.size w w1 := Below.trans ((Below.refl _ _).alloc (Nat.le_refl _) _) (hb1.mono (by simp)); have hsz1 := hB1.size)
      | (go_at_call 37; (with_reducible refine (HSG.out _).mono ?_); rintro e w2 ⟨rfl, hb2⟩; have hB2 : Below w.heap.size w w2 := Below.trans (by (repeat (first | exact Below.refl _ _ | assumption | refine Below.setCell ?_ (by first | omega | (simp <;> omega)) _ | refine Below.alloc ?_ (by first | omega | (simp <;> omega)) _ | refine Below.drew ?_ | refine below_drewN' ?_ _))) (hb2.mono (by have := hB1.size; simp; omega)); have zz2 := Z3.step zz1 hb2; obtain ⟨y0, y1, y2, yf, yl⟩ := zz2; have yf0 := yf 0; have yf1 := yf 1; have yf2 := yf 2; have yn : ¬ w.heap.size = w2.heap.size := (by omega); have yn' : ¬ w2.heap.size = w.heap.size := (by omega)))
    refine bodyPost_ret (v := .tuple #[Fl.dv R, .int .i64 R.e]) (by simp [results, Tryz.results12, go_sem, y0, y1, y2, yf0, yf1, yf2, yn, yn', yl]; done) rfl (RetB.of rfl (by (repeat (first | exact Below.refl _ _ | assumption | refine Below.setCell ?_ (by first | omega | (simp <;> omega)) _ | refine Below.alloc ?_ (by first | omega | (simp <;> omega)) _ | refine Below.drew ?_ | refine below_drewN' ?_ _))))

set_option maxHeartbeats 2000000 in
theorem r9_sig_any (x : Nat) (k way : Int) (hx : x < 18446744073709551616) (hk : -9223372036854775808 ≤ k ∧ k ≤ 9223372036854775807) (w : World) :
    Calls Tryz.prog 13 #[.int .u64 x, .int .i64 k, .int .i64 way] w (RetB (Fl.sig x k way).val w) := by
  have hde := fun w1 (hb : Below w.heap.size w w1) => r9_dec_any x hx w1
  by_cases h : 3 ≤ Fl.kind x
  · have hd := Lib.hid (show Fl.sig x k way = ⟨false, [], 0, 11⟩ from if_pos h)
    rw [show Fl.dec x = ⟨false, [], 0, 11⟩ from if_pos h] at hde
    have HD := Lib.hid (show ∀ w1, Below w.heap.size w w1 → Calls Tryz.prog 11 #[.int .u64 x] w1 (RetB (.tuple #[.agg #[.bool false, .string ⟨#[]⟩, .int .i64 0], .int .i64 11]) w1) from hde)
    clear h hde
    go_enter Tryz.func13, Tryz.ntmps13
    go_wp2_with (first
      | (go_at_call 11; (with_reducible refine (HD.out _ ?_).mono ?_); exact (Below.refl _ _).alloc (Nat.le_refl _) _; rintro e w1 ⟨rfl, hb1⟩; have zz1 := (Z3.new w).on hb1; have hB1 : Below w.heap.size w w1 := Below.trans ((Below.refl _ _).alloc (Nat.le_refl _) _) (hb1.mono (by simp)); obtain ⟨y0, y1, y2, yf, yl⟩ := zz1; have yf0 := yf 0; have yf1 := yf 1; have yf2 := yf 2; have yn : ¬ w.heap.size = w1.heap.size := (by omega); have yn' : ¬ w1.heap.size = w.heap.size := (by omega)))
    refine bodyPost_ret (v := .tuple #[.agg #[.bool false, .string ⟨#[]⟩, .int .i64 0], .int .i64 11]) (by simp [results, Tryz.results13, go_sem, y0, y1, y2, yf0, yf1, yf2, yn, yn', yl]; done) rfl (RetB.of (by rw [hd.out]; first | done | rfl) (by (repeat (first | exact Below.refl _ _ | assumption | refine Below.setCell ?_ (by first | omega | (simp <;> omega)) _ | refine Below.alloc ?_ (by first | omega | (simp <;> omega)) _ | refine Below.drew ?_ | refine below_drewN' ?_ _))))
  · obtain ⟨f1, f2⟩ := Fl.dec_fine x (by omega)
    have hd := (show Fl.sig x k way = Dc.sig (Fl.dec x).n (Fl.dec x).l (Fl.dec x).x k way from if_neg h)
    have hlen := Dc.right_len f2
    obtain ⟨hx1, hx2⟩ := Dc.right_exp f2
    obtain ⟨⟨rn, rl, rx, re⟩, hR⟩ : ∃ R, R = Fl.dec x := ⟨_, rfl⟩
    rw [← hR] at hd hde f1 hlen hx1 hx2
    simp only at f1 hd hlen hx1 hx2
    subst f1
    obtain ⟨s, hs⟩ : ∃ s : ByteArray, s = ⟨rl.toArray⟩ := ⟨_, rfl⟩
    have hsl : s.data.toList = rl := by rw [hs]
    have hss : s.size = rl.length := by rw [hs, size_mk]
    have hsg := fun w1 => r7_sig_any rn s rx k way w1 (by omega) (by omega) hk
    rw [hsl, ← hd] at hsg
    have HSG := Lib.hid hsg
    have HD := Lib.hid (show ∀ w1, Below w.heap.size w w1 → Calls Tryz.prog 11 #[.int .u64 x] w1 (RetB (.tuple #[.agg #[.bool rn, .string s, .int .i64 rx], .int .i64 0]) w1) from by rw [hs]; exact hde)
    obtain ⟨R, hRR⟩ : ∃ R, R = Fl.sig x k way := ⟨_, rfl⟩
    rw [← hRR] at HSG ⊢
    clear h hde hd hR hs hsl hsg hRR f2
    go_enter Tryz.func13, Tryz.ntmps13
    go_wp2_with (first
      | (go_at_call 11; (with_reducible refine (HD.out _ ?_).mono ?_); exact (Below.refl _ _).alloc (Nat.le_refl _) _; rintro e w1 ⟨rfl, hb1⟩; have zz1 := (Z3.new w).on hb1; have hB1 : Below w.heap.size w w1 := Below.trans ((Below.refl _ _).alloc (Nat.le_refl _) _) (hb1.mono (by simp)); have hsz1 := hB1.size)
      | (go_at_call 38; (with_reducible refine (HSG.out _).mono ?_); rintro e w2 ⟨rfl, hb2⟩; have hB2 : Below w.heap.size w w2 := Below.trans (by (repeat (first | exact Below.refl _ _ | assumption | refine Below.setCell ?_ (by first | omega | (simp <;> omega)) _ | refine Below.alloc ?_ (by first | omega | (simp <;> omega)) _ | refine Below.drew ?_ | refine below_drewN' ?_ _))) (hb2.mono (by have := hB1.size; simp; omega)); have zz2 := Z3.step zz1 hb2; obtain ⟨y0, y1, y2, yf, yl⟩ := zz2; have yf0 := yf 0; have yf1 := yf 1; have yf2 := yf 2; have yn : ¬ w.heap.size = w2.heap.size := (by omega); have yn' : ¬ w2.heap.size = w.heap.size := (by omega)))
    refine bodyPost_ret (v := .tuple #[Fl.dv R, .int .i64 R.e]) (by simp [results, Tryz.results13, go_sem, y0, y1, y2, yf0, yf1, yf2, yn, yn', yl]; done) rfl (RetB.of rfl (by (repeat (first | exact Below.refl _ _ | assumption | refine Below.setCell ?_ (by first | omega | (simp <;> omega)) _ | refine Below.alloc ?_ (by first | omega | (simp <;> omega)) _ | refine Below.drew ?_ | refine below_drewN' ?_ _))))

set_option maxHeartbeats 2000000 in
theorem ex_place_any (x : Nat) (k way : Int) (hx : x < 18446744073709551616) (hk : -9223372036854775808 ≤ k ∧ k ≤ 9223372036854775807) (w : World) (ht : Tab w) :
    Calls Tryz.prog 14 #[.int .u64 x, .int .i64 k, .int .i64 way] w (RetB (Fl.place x k way).val w) := by
  have hde := fun w1 (hb : Below w.heap.size w w1) => ex_dec_any x hx w1 (ht.below hb)
  by_cases h : 3 ≤ Fl.kind x
  · have hd := Lib.hid (show Fl.place x k way = ⟨false, [], 0, 11⟩ from if_pos h)
    rw [show Fl.dec x = ⟨false, [], 0, 11⟩ from if_pos h] at hde
    have HD := Lib.hid (show ∀ w1, Below w.heap.size w w1 → Calls Tryz.prog 10 #[.int .u64 x] w1 (RetB (.tuple #[.agg #[.bool false, .string ⟨#[]⟩, .int .i64 0], .int .i64 11]) w1) from hde)
    clear h hde
    go_enter Tryz.func14, Tryz.ntmps14
    go_wp2_with (first
      | (go_at_call 10; (with_reducible refine (HD.out _ ?_).mono ?_); exact (Below.refl _ _).alloc (Nat.le_refl _) _; rintro e w1 ⟨rfl, hb1⟩; have zz1 := (Z3.new w).on hb1; have hB1 : Below w.heap.size w w1 := Below.trans ((Below.refl _ _).alloc (Nat.le_refl _) _) (hb1.mono (by simp)); obtain ⟨y0, y1, y2, yf, yl⟩ := zz1; have yf0 := yf 0; have yf1 := yf 1; have yf2 := yf 2; have yn : ¬ w.heap.size = w1.heap.size := (by omega); have yn' : ¬ w1.heap.size = w.heap.size := (by omega)))
    refine bodyPost_ret (v := .tuple #[.agg #[.bool false, .string ⟨#[]⟩, .int .i64 0], .int .i64 11]) (by simp [results, Tryz.results14, go_sem, y0, y1, y2, yf0, yf1, yf2, yn, yn', yl]; done) rfl (RetB.of (by rw [hd.out]; first | done | rfl) (by (repeat (first | exact Below.refl _ _ | assumption | refine Below.setCell ?_ (by first | omega | (simp <;> omega)) _ | refine Below.alloc ?_ (by first | omega | (simp <;> omega)) _ | refine Below.drew ?_ | refine below_drewN' ?_ _))))
  · obtain ⟨f1, f2⟩ := Fl.dec_fine x (by omega)
    have hd := (show Fl.place x k way = Dc.place (Fl.dec x).n (Fl.dec x).l (Fl.dec x).x k way from if_neg h)
    have hlen := Dc.right_len f2
    obtain ⟨hx1, hx2⟩ := Dc.right_exp f2
    obtain ⟨⟨rn, rl, rx, re⟩, hR⟩ : ∃ R, R = Fl.dec x := ⟨_, rfl⟩
    rw [← hR] at hd hde f1 hlen hx1 hx2
    simp only at f1 hd hlen hx1 hx2
    subst f1
    obtain ⟨s, hs⟩ : ∃ s : ByteArray, s = ⟨rl.toArray⟩ := ⟨_, rfl⟩
    have hsl : s.data.toList = rl := by rw [hs]
    have hss : s.size = rl.length := by rw [hs, size_mk]
    have hsg := fun w1 => d_place_any rn s rx k way w1 (by omega) (by omega) hk
    rw [hsl, ← hd] at hsg
    have HSG := Lib.hid hsg
    have HD := Lib.hid (show ∀ w1, Below w.heap.size w w1 → Calls Tryz.prog 10 #[.int .u64 x] w1 (RetB (.tuple #[.agg #[.bool rn, .string s, .int .i64 rx], .int .i64 0]) w1) from by rw [hs]; exact hde)
    obtain ⟨R, hRR⟩ : ∃ R, R = Fl.place x k way := ⟨_, rfl⟩
    rw [← hRR] at HSG ⊢
    clear h hde hd hR hs hsl hsg hRR f2
    go_enter Tryz.func14, Tryz.ntmps14
    go_wp2_with (first
      | (go_at_call 10; (with_reducible refine (HD.out _ ?_).mono ?_); exact (Below.refl _ _).alloc (Nat.le_refl _) _; rintro e w1 ⟨rfl, hb1⟩; have zz1 := (Z3.new w).on hb1; have hB1 : Below w.heap.size w w1 := Below.trans ((Below.refl _ _).alloc (Nat.le_refl _) _) (hb1.mono (by simp)); have hsz1 := hB1.size)
      | (go_at_call 39; (with_reducible refine (HSG.out _).mono ?_); rintro e w2 ⟨rfl, hb2⟩; have hB2 : Below w.heap.size w w2 := Below.trans (by (repeat (first | exact Below.refl _ _ | assumption | refine Below.setCell ?_ (by first | omega | (simp <;> omega)) _ | refine Below.alloc ?_ (by first | omega | (simp <;> omega)) _ | refine Below.drew ?_ | refine below_drewN' ?_ _))) (hb2.mono (by have := hB1.size; simp; omega)); have zz2 := Z3.step zz1 hb2; obtain ⟨y0, y1, y2, yf, yl⟩ := zz2; have yf0 := yf 0; have yf1 := yf 1; have yf2 := yf 2; have yn : ¬ w.heap.size = w2.heap.size := (by omega); have yn' : ¬ w2.heap.size = w.heap.size := (by omega)))
    refine bodyPost_ret (v := .tuple #[Fl.dv R, .int .i64 R.e]) (by simp [results, Tryz.results14, go_sem, y0, y1, y2, yf0, yf1, yf2, yn, yn', yl]; done) rfl (RetB.of rfl (by (repeat (first | exact Below.refl _ _ | assumption | refine Below.setCell ?_ (by first | omega | (simp <;> omega)) _ | refine Below.alloc ?_ (by first | omega | (simp <;> omega)) _ | refine Below.drew ?_ | refine below_drewN' ?_ _))))

set_option maxHeartbeats 2000000 in
theorem r9_place_any (x : Nat) (k way : Int) (hx : x < 18446744073709551616) (hk : -9223372036854775808 ≤ k ∧ k ≤ 9223372036854775807) (w : World) :
    Calls Tryz.prog 15 #[.int .u64 x, .int .i64 k, .int .i64 way] w (RetB (Fl.place x k way).val w) := by
  have hde := fun w1 (hb : Below w.heap.size w w1) => r9_dec_any x hx w1
  by_cases h : 3 ≤ Fl.kind x
  · have hd := Lib.hid (show Fl.place x k way = ⟨false, [], 0, 11⟩ from if_pos h)
    rw [show Fl.dec x = ⟨false, [], 0, 11⟩ from if_pos h] at hde
    have HD := Lib.hid (show ∀ w1, Below w.heap.size w w1 → Calls Tryz.prog 11 #[.int .u64 x] w1 (RetB (.tuple #[.agg #[.bool false, .string ⟨#[]⟩, .int .i64 0], .int .i64 11]) w1) from hde)
    clear h hde
    go_enter Tryz.func15, Tryz.ntmps15
    go_wp2_with (first
      | (go_at_call 11; (with_reducible refine (HD.out _ ?_).mono ?_); exact (Below.refl _ _).alloc (Nat.le_refl _) _; rintro e w1 ⟨rfl, hb1⟩; have zz1 := (Z3.new w).on hb1; have hB1 : Below w.heap.size w w1 := Below.trans ((Below.refl _ _).alloc (Nat.le_refl _) _) (hb1.mono (by simp)); obtain ⟨y0, y1, y2, yf, yl⟩ := zz1; have yf0 := yf 0; have yf1 := yf 1; have yf2 := yf 2; have yn : ¬ w.heap.size = w1.heap.size := (by omega); have yn' : ¬ w1.heap.size = w.heap.size := (by omega)))
    refine bodyPost_ret (v := .tuple #[.agg #[.bool false, .string ⟨#[]⟩, .int .i64 0], .int .i64 11]) (by simp [results, Tryz.results15, go_sem, y0, y1, y2, yf0, yf1, yf2, yn, yn', yl]; done) rfl (RetB.of (by rw [hd.out]; first | done | rfl) (by (repeat (first | exact Below.refl _ _ | assumption | refine Below.setCell ?_ (by first | omega | (simp <;> omega)) _ | refine Below.alloc ?_ (by first | omega | (simp <;> omega)) _ | refine Below.drew ?_ | refine below_drewN' ?_ _))))
  · obtain ⟨f1, f2⟩ := Fl.dec_fine x (by omega)
    have hd := (show Fl.place x k way = Dc.place (Fl.dec x).n (Fl.dec x).l (Fl.dec x).x k way from if_neg h)
    have hlen := Dc.right_len f2
    obtain ⟨hx1, hx2⟩ := Dc.right_exp f2
    obtain ⟨⟨rn, rl, rx, re⟩, hR⟩ : ∃ R, R = Fl.dec x := ⟨_, rfl⟩
    rw [← hR] at hd hde f1 hlen hx1 hx2
    simp only at f1 hd hlen hx1 hx2
    subst f1
    obtain ⟨s, hs⟩ : ∃ s : ByteArray, s = ⟨rl.toArray⟩ := ⟨_, rfl⟩
    have hsl : s.data.toList = rl := by rw [hs]
    have hss : s.size = rl.length := by rw [hs, size_mk]
    have hsg := fun w1 => r7_place_any rn s rx k way w1 (by omega) (by omega) hk
    rw [hsl, ← hd] at hsg
    have HSG := Lib.hid hsg
    have HD := Lib.hid (show ∀ w1, Below w.heap.size w w1 → Calls Tryz.prog 11 #[.int .u64 x] w1 (RetB (.tuple #[.agg #[.bool rn, .string s, .int .i64 rx], .int .i64 0]) w1) from by rw [hs]; exact hde)
    obtain ⟨R, hRR⟩ : ∃ R, R = Fl.place x k way := ⟨_, rfl⟩
    rw [← hRR] at HSG ⊢
    clear h hde hd hR hs hsl hsg hRR f2
    go_enter Tryz.func15, Tryz.ntmps15
    go_wp2_with (first
      | (go_at_call 11; (with_reducible refine (HD.out _ ?_).mono ?_); exact (Below.refl _ _).alloc (Nat.le_refl _) _; rintro e w1 ⟨rfl, hb1⟩; have zz1 := (Z3.new w).on hb1; have hB1 : Below w.heap.size w w1 := Below.trans ((Below.refl _ _).alloc (Nat.le_refl _) _) (hb1.mono (by simp)); have hsz1 := hB1.size)
      | (go_at_call 40; (with_reducible refine (HSG.out _).mono ?_); rintro e w2 ⟨rfl, hb2⟩; have hB2 : Below w.heap.size w w2 := Below.trans (by (repeat (first | exact Below.refl _ _ | assumption | refine Below.setCell ?_ (by first | omega | (simp <;> omega)) _ | refine Below.alloc ?_ (by first | omega | (simp <;> omega)) _ | refine Below.drew ?_ | refine below_drewN' ?_ _))) (hb2.mono (by have := hB1.size; simp; omega)); have zz2 := Z3.step zz1 hb2; obtain ⟨y0, y1, y2, yf, yl⟩ := zz2; have yf0 := yf 0; have yf1 := yf 1; have yf2 := yf 2; have yn : ¬ w.heap.size = w2.heap.size := (by omega); have yn' : ¬ w2.heap.size = w.heap.size := (by omega)))
    refine bodyPost_ret (v := .tuple #[Fl.dv R, .int .i64 R.e]) (by simp [results, Tryz.results15, go_sem, y0, y1, y2, yf0, yf1, yf2, yn, yn', yl]; done) rfl (RetB.of rfl (by (repeat (first | exact Below.refl _ _ | assumption | refine Below.setCell ?_ (by first | omega | (simp <;> omega)) _ | refine Below.alloc ?_ (by first | omega | (simp <;> omega)) _ | refine Below.drew ?_ | refine below_drewN' ?_ _))))

end Go.Proofs.YtlhahbniigjkkaaGreatDoor
