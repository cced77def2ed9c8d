/- exact.Dec, Mid, Sig, Place, and the reference's. -/
import Derived.Test.YtiglekomfgfilaaGreatDoorY18
import Derived.Test.YtiglekomfgfilaaGreatDoorY19
import Derived.Test.YtiglekomfgfilaaGreatDoorY20
import Derived.Test.YtiglekomfgfilaaGreatDoorY8
namespace Go.Proofs.YtiglekomfgfilaaGreatDoor
set_option maxRecDepth 100000
set_option maxHeartbeats 2000000
set_option linter.all false
open Go.RowKit
attribute [local go_sem] Fl.dv Dc.Res.val
theorem Fl.dec_bounds (x : Nat) : Fl.mant x < Na.B ^ 2 ∧ 2 * Fl.mant x + 1 < Na.B ^ 2 ∧ (-1100 ≤ Fl.expn x ∧ Fl.expn x ≤ 1100) ∧ (-1100 ≤ Fl.expn x - 1 ∧ Fl.expn x - 1 ≤ 1100) := by
  have h1 := Fl.mant_lt x
  have h2 := Fl.expn_bound x
  have h3 : Na.B ^ 2 = 18446744073709551616 := rfl
  omega
theorem r3_nat_any (v : Nat) (hv : v < 18446744073709551616) (w : World) : Calls Tryz.prog 58 #[.int .u64 v] w (GivesZ (Na.limbs v) w) := by
  have H := Lib.hid (r1_of_any v hv w)
  go_enter Tryz.func58, Tryz.ntmps58
  go_wp2_with (first | (go_at_call 89; (with_reducible refine (H.out).mono ?_); rintro e w1 ⟨a1, c1, rfl, s1, z1, r1, hb1⟩))
  go_ret
  exact ⟨a1, c1, rfl, s1, z1, r1, hb1⟩
theorem r9_finite_any (x : Nat) (hx : x < 18446744073709551616) (w : World) : Calls Tryz.prog 55 #[.int .u64 x] w (Ret0 (.bool (decide (Fl.kind x < 3))) w) := by
  have HK := Lib.hid (fun w => r3_kind_any x hx w)
  obtain ⟨k, hk⟩ : ∃ k, k = Fl.kind x := ⟨_, rfl⟩
  rw [← hk] at HK ⊢
  clear hk
  have hi : decide ((k : Int) < 3) = decide (k < 3) := decide_eq_decide.2 (by omega)
  have HI := Lib.hid hi
  clear hi
  go_enter Tryz.func55, Tryz.ntmps55
  go_wp2_with (go_at_call 12; (with_reducible refine (HK.out _).mono ?_); rintro e w' ⟨rfl, rfl⟩)
  refine bodyPost_ret (v := .bool (decide ((k : Int) < 3))) (by simp [results, Tryz.results55, go_sem]) rfl (Ret0.of (by rw [HI.out]))
theorem ex_dec_any (x : Nat) (hx : x < 18446744073709551616) (w : World) (ht : Tab w) : Calls Tryz.prog 28 #[.int .u64 x] w (RetB (Fl.dec x).val w) := by
  obtain ⟨b1, b2, b3, b4⟩ := Fl.dec_bounds x
  have hk := fun w => fl_kind_any x hx w
  have hsp := fun w => fl_split_any x hx w
  by_cases h : 3 ≤ Fl.kind x
  · have hd := Lib.hid (show Fl.dec x = ⟨false, [], 0, 11⟩ from if_pos h)
    obtain ⟨k, hkk⟩ : ∃ k, k = Fl.kind x := ⟨_, rfl⟩
    rw [← hkk] at hk h
    have HK := Lib.hid hk
    clear hkk hk hsp b1 b2 b3 b4
    go_enter Tryz.func28, Tryz.ntmps28
    go_wp2_with (go_at_call 62; (with_reducible refine (HK.out _).mono ?_); rintro e w' ⟨rfl, rfl⟩)
    refine bodyPost_ret (v := .tuple #[.agg #[.bool false, .string ⟨#[]⟩, .int .i64 0], .int .i64 11]) (by simp [results, Tryz.results28, go_sem]; done) rfl (RetB.of (by rw [hd.out]; first | done | rfl) (by (repeat (first | exact Below.refl _ _ | assumption | refine Below.setCell ?_ (by first | omega | (simp <;> omega)) _ | refine Below.alloc ?_ (by first | omega | (simp <;> omega)) _ | refine Below.drew ?_ | refine below_drewN' ?_ _))))
  · have hd := Lib.hid (show Fl.dec x = Fl.okd (Fl.of (Fl.neg x) (Fl.mant x) (Fl.expn x)) from if_neg h)
    obtain ⟨k, hkk⟩ : ∃ k, k = Fl.kind x := ⟨_, rfl⟩
    obtain ⟨m, hm⟩ : ∃ k, k = Fl.mant x := ⟨_, rfl⟩
    obtain ⟨e, he⟩ : ∃ k, k = Fl.expn x := ⟨_, rfl⟩
    obtain ⟨s, hs⟩ : ∃ k, k = Fl.neg x := ⟨_, rfl⟩
    rw [← hm, ← he, ← hs] at hsp hd
    rw [← hm] at b1 b2
    rw [← he] at b3 b4
    rw [← hkk] at hk h
    have hml : m < 18446744073709551616 := b1
    obtain ⟨e3, e4⟩ := b3
    have HK := Lib.hid hk; have HSP := Lib.hid hsp
    have HO := Lib.hid (fun w => na_of_any m hml w)
    have HEX := Lib.hid (fun w1 g (hb : Below w.heap.size w w1) (hk : Blk w1 g (Na.limbs m)) => ex_of_any s (some ⟨g, 0, none⟩) (Na.limbs m).length m e w1 (hk.sl (Na.ok_limbs m) (Nat.le_refl _)) b1 (by omega) (ht.below hb))
    obtain ⟨R, hR⟩ : ∃ R, R = Fl.of s m e := ⟨_, rfl⟩
    rw [← hR] at hd HEX
    clear hkk hm he hs hk hsp b1 b2 hR
    go_enter Tryz.func28, Tryz.ntmps28
    go_wp2_with (first
      | (go_at_call 62; (with_reducible refine (HK.out _).mono ?_); rintro e w' ⟨rfl, rfl⟩)
      | (go_at_call 63; (with_reducible refine (HSP.out _).mono ?_); rintro e w' ⟨rfl, rfl⟩)
      | (go_at_call 65; (with_reducible refine (HO.out _).mono ?_); rintro e w1 ⟨g, rfl, hg, hk, hb1⟩; have zz1 := (Z3.new w).on hb1; have hB1 : Below w.heap.size w w1 := Below.trans ((Below.refl _ _).alloc (Nat.le_refl _) _) (hb1.mono (by simp)))
      | (go_at_call 64; (with_reducible refine (HEX.out _ _ hB1 hk).mono ?_); rintro e w2 ⟨rfl, hb2⟩; have hB2 := hB1.trans (hb2.mono hB1.size); have zz2 := zz1.on hb2; obtain ⟨y0, y1, y2, yf, yl⟩ := zz2; have yf0 := yf 0; have yf1 := yf 1; have yf2 := yf 2; have yn : ¬ w.heap.size = w2.heap.size := (by omega); have yn' : ¬ w2.heap.size = w.heap.size := (by omega)))
    refine bodyPost_ret (v := .tuple #[Fl.dv R, .int .i64 0]) (by simp [results, Tryz.results28, go_sem, y0, y1, y2, yf0, yf1, yf2, yn, yn', yl]; done) rfl (RetB.of (by rw [hd.out]; first | done | rfl) (by (repeat (first | exact Below.refl _ _ | assumption | refine Below.setCell ?_ (by first | omega | (simp <;> omega)) _ | refine Below.alloc ?_ (by first | omega | (simp <;> omega)) _ | refine Below.drew ?_ | refine below_drewN' ?_ _))))
theorem r9_dec_any (x : Nat) (hx : x < 18446744073709551616) (w : World) : Calls Tryz.prog 22 #[.int .u64 x] w (RetB (Fl.dec x).val w) := by
  obtain ⟨b1, b2, b3, b4⟩ := Fl.dec_bounds x
  have hk := fun w => r9_finite_any x hx w
  have hsp := fun w => r3_split_any x hx w
  by_cases h : 3 ≤ Fl.kind x
  · have hd := Lib.hid (show Fl.dec x = ⟨false, [], 0, 11⟩ from if_pos h)
    obtain ⟨k, hkk⟩ : ∃ k, k = Fl.kind x := ⟨_, rfl⟩
    rw [← hkk] at hk h
    rw [decide_eq_false (show ¬ k < 3 by omega)] at hk
    have HK := Lib.hid hk
    clear hkk hk hsp b1 b2 b3 b4
    go_enter Tryz.func22, Tryz.ntmps22
    go_wp2_with (go_at_call 55; (with_reducible refine (HK.out _).mono ?_); rintro e w' ⟨rfl, rfl⟩)
    refine bodyPost_ret (v := .tuple #[.agg #[.bool false, .string ⟨#[]⟩, .int .i64 0], .int .i64 11]) (by simp [results, Tryz.results22, go_sem]; done) rfl (RetB.of (by rw [hd.out]; first | done | rfl) (by (repeat (first | exact Below.refl _ _ | assumption | refine Below.setCell ?_ (by first | omega | (simp <;> omega)) _ | refine Below.alloc ?_ (by first | omega | (simp <;> omega)) _ | refine Below.drew ?_ | refine below_drewN' ?_ _))))
  · have hd := Lib.hid (show Fl.dec x = Fl.okd (Fl.of (Fl.neg x) (Fl.mant x) (Fl.expn x)) from if_neg h)
    obtain ⟨k, hkk⟩ : ∃ k, k = Fl.kind x := ⟨_, rfl⟩
    obtain ⟨m, hm⟩ : ∃ k, k = Fl.mant x := ⟨_, rfl⟩
    obtain ⟨e, he⟩ : ∃ k, k = Fl.expn x := ⟨_, rfl⟩
    obtain ⟨s, hs⟩ : ∃ k, k = Fl.neg x := ⟨_, rfl⟩
    rw [← hm, ← he, ← hs] at hsp hd
    rw [← hm] at b1 b2
    rw [← he] at b3 b4
    rw [← hkk] at hk h
    rw [decide_eq_true (show k < 3 by omega)] at hk
    have hml : m < 18446744073709551616 := b1
    obtain ⟨e3, e4⟩ := b3
    have HK := Lib.hid hk; have HSP := Lib.hid hsp
    have HO := Lib.hid (fun w => r3_nat_any m hml w)
    have HEX := Lib.hid (fun w1 a1 c1 (hs : Sl w1 a1 c1 (Na.limbs m)) (hz : a1 = none → c1 = 0) => r9_of_any s a1 c1 m e w1 hs hz b1 (by omega))
    obtain ⟨R, hR⟩ : ∃ R, R = Fl.of s m e := ⟨_, rfl⟩
    rw [← hR] at hd HEX
    clear hkk hm he hs hk hsp b1 b2 hR
    go_enter Tryz.func22, Tryz.ntmps22
    go_wp2_with (first
      | (go_at_call 55; (with_reducible refine (HK.out _).mono ?_); rintro e w' ⟨rfl, rfl⟩)
      | (go_at_call 56; (with_reducible refine (HSP.out _).mono ?_); rintro e w' ⟨rfl, rfl⟩)
      | (go_at_call 58; (with_reducible refine (HO.out _).mono ?_); rintro e w1 ⟨a1, c1, rfl, s1, z1, -, hb1⟩; have zz1 := (Z3.new w).on hb1; have hB1 : Below w.heap.size w w1 := Below.trans ((Below.refl _ _).alloc (Nat.le_refl _) _) (hb1.mono (by simp)))
      | (go_at_call 57; (with_reducible refine (HEX.out _ _ _ s1 z1).mono ?_); rintro e w2 ⟨rfl, hb2⟩; have hB2 := hB1.trans (hb2.mono hB1.size); have zz2 := zz1.on hb2; obtain ⟨y0, y1, y2, yf, yl⟩ := zz2; have yf0 := yf 0; have yf1 := yf 1; have yf2 := yf 2; have yn : ¬ w.heap.size = w2.heap.size := (by omega); have yn' : ¬ w2.heap.size = w.heap.size := (by omega)))
    refine bodyPost_ret (v := .tuple #[Fl.dv R, .int .i64 0]) (by simp [results, Tryz.results22, go_sem, y0, y1, y2, yf0, yf1, yf2, yn, yn', yl]; done) rfl (RetB.of (by rw [hd.out]; first | done | rfl) (by (repeat (first | exact Below.refl _ _ | assumption | refine Below.setCell ?_ (by first | omega | (simp <;> omega)) _ | refine Below.alloc ?_ (by first | omega | (simp <;> omega)) _ | refine Below.drew ?_ | refine below_drewN' ?_ _))))
theorem Fl.dec_fine (x : Nat) (h : Fl.kind x < 3) : (Fl.dec x).e = 0 ∧ Dc.right (Fl.dec x).l (Fl.dec x).x = true := by
  rw [Fl.dec, if_neg (by omega)]
  exact ⟨rfl, (Fl.dec_worth x h).1.right⟩
theorem ex_sig_any (x : Nat) (k way : Int) (hx : x < 18446744073709551616) (hk : -9223372036854775808 ≤ k ∧ k ≤ 9223372036854775807) (w : World) (ht : Tab w) :
    Calls Tryz.prog 33 #[.int .u64 x, .int .i64 k, .int .i64 way] w (RetB (Fl.sig x k way).val w) := by
  have hde := fun w1 (hb : Below w.heap.size w w1) => ex_dec_any x hx w1 (ht.below hb)
  by_cases h : 3 ≤ Fl.kind x
  · have hd := Lib.hid (show Fl.sig x k way = ⟨false, [], 0, 11⟩ from if_pos h)
    rw [show Fl.dec x = ⟨false, [], 0, 11⟩ from if_pos h] at hde
    have HD := Lib.hid (show ∀ w1, Below w.heap.size w w1 → Calls Tryz.prog 28 #[.int .u64 x] w1 (RetB (.tuple #[.agg #[.bool false, .string ⟨#[]⟩, .int .i64 0], .int .i64 11]) w1) from hde)
    clear h hde
    go_enter Tryz.func33, Tryz.ntmps33
    go_wp2_with (first
      | (go_at_call 28; (with_reducible refine (HD.out _ ?_).mono ?_); exact (Below.refl _ _).alloc (Nat.le_refl _) _; rintro e w1 ⟨rfl, hb1⟩; have zz1 := (Z3.new w).on hb1; have hB1 : Below w.heap.size w w1 := Below.trans ((Below.refl _ _).alloc (Nat.le_refl _) _) (hb1.mono (by simp)); obtain ⟨y0, y1, y2, yf, yl⟩ := zz1; have yf0 := yf 0; have yf1 := yf 1; have yf2 := yf 2; have yn : ¬ w.heap.size = w1.heap.size := (by omega); have yn' : ¬ w1.heap.size = w.heap.size := (by omega)))
    refine bodyPost_ret (v := .tuple #[.agg #[.bool false, .string ⟨#[]⟩, .int .i64 0], .int .i64 11]) (by simp [results, Tryz.results33, go_sem, y0, y1, y2, yf0, yf1, yf2, yn, yn', yl]; done) rfl (RetB.of (by rw [hd.out]; first | done | rfl) (by (repeat (first | exact Below.refl _ _ | assumption | refine Below.setCell ?_ (by first | omega | (simp <;> omega)) _ | refine Below.alloc ?_ (by first | omega | (simp <;> omega)) _ | refine Below.drew ?_ | refine below_drewN' ?_ _))))
  · obtain ⟨f1, f2⟩ := Fl.dec_fine x (by omega)
    have hd := (show Fl.sig x k way = Dc.sig (Fl.dec x).n (Fl.dec x).l (Fl.dec x).x k way from if_neg h)
    have hlen := Dc.right_len f2
    obtain ⟨hx1, hx2⟩ := Dc.right_exp f2
    obtain ⟨⟨rn, rl, rx, re⟩, hR⟩ : ∃ R, R = Fl.dec x := ⟨_, rfl⟩
    rw [← hR] at hd hde f1 hlen hx1 hx2
    simp only at f1 hd hlen hx1 hx2
    subst f1
    obtain ⟨s, hs⟩ : ∃ s : ByteArray, s = ⟨rl.toArray⟩ := ⟨_, rfl⟩
    have hsl : s.data.toList = rl := by rw [hs]
    have hss : s.size = rl.length := by rw [hs, size_mk]
    have hsg := fun w1 => d_sig_any rn s rx k way w1 (by omega) (by omega) hk
    rw [hsl, ← hd] at hsg
    have HSG := Lib.hid hsg
    have HD := Lib.hid (show ∀ w1, Below w.heap.size w w1 → Calls Tryz.prog 28 #[.int .u64 x] w1 (RetB (.tuple #[.agg #[.bool rn, .string s, .int .i64 rx], .int .i64 0]) w1) from by rw [hs]; exact hde)
    obtain ⟨R, hRR⟩ : ∃ R, R = Fl.sig x k way := ⟨_, rfl⟩
    rw [← hRR] at HSG ⊢
    clear h hde hd hR hs hsl hsg hRR f2
    go_enter Tryz.func33, Tryz.ntmps33
    go_wp2_with (first
      | (go_at_call 28; (with_reducible refine (HD.out _ ?_).mono ?_); exact (Below.refl _ _).alloc (Nat.le_refl _) _; rintro e w1 ⟨rfl, hb1⟩; have zz1 := (Z3.new w).on hb1; have hB1 : Below w.heap.size w w1 := Below.trans ((Below.refl _ _).alloc (Nat.le_refl _) _) (hb1.mono (by simp)); have hsz1 := hB1.size)
      | (go_at_call 31; (with_reducible refine (HSG.out _).mono ?_); rintro e w2 ⟨rfl, hb2⟩; have hB2 : Below w.heap.size w w2 := Below.trans (by (repeat (first | exact Below.refl _ _ | assumption | refine Below.setCell ?_ (by first | omega | (simp <;> omega)) _ | refine Below.alloc ?_ (by first | omega | (simp <;> omega)) _ | refine Below.drew ?_ | refine below_drewN' ?_ _))) (hb2.mono (by have := hB1.size; simp; omega)); have zz2 := Z3.step zz1 hb2; obtain ⟨y0, y1, y2, yf, yl⟩ := zz2; have yf0 := yf 0; have yf1 := yf 1; have yf2 := yf 2; have yn : ¬ w.heap.size = w2.heap.size := (by omega); have yn' : ¬ w2.heap.size = w.heap.size := (by omega)))
    refine bodyPost_ret (v := .tuple #[Fl.dv R, .int .i64 R.e]) (by simp [results, Tryz.results33, go_sem, y0, y1, y2, yf0, yf1, yf2, yn, yn', yl]; done) rfl (RetB.of rfl (by (repeat (first | exact Below.refl _ _ | assumption | refine Below.setCell ?_ (by first | omega | (simp <;> omega)) _ | refine Below.alloc ?_ (by first | omega | (simp <;> omega)) _ | refine Below.drew ?_ | refine below_drewN' ?_ _))))
theorem r9_sig_any (x : Nat) (k way : Int) (hx : x < 18446744073709551616) (hk : -9223372036854775808 ≤ k ∧ k ≤ 9223372036854775807) (w : World) :
    Calls Tryz.prog 38 #[.int .u64 x, .int .i64 k, .int .i64 way] w (RetB (Fl.sig x k way).val w) := by
  have hde := fun w1 (hb : Below w.heap.size w w1) => r9_dec_any x hx w1
  by_cases h : 3 ≤ Fl.kind x
  · have hd := Lib.hid (show Fl.sig x k way = ⟨false, [], 0, 11⟩ from if_pos h)
    rw [show Fl.dec x = ⟨false, [], 0, 11⟩ from if_pos h] at hde
    have HD := Lib.hid (show ∀ w1, Below w.heap.size w w1 → Calls Tryz.prog 22 #[.int .u64 x] w1 (RetB (.tuple #[.agg #[.bool false, .string ⟨#[]⟩, .int .i64 0], .int .i64 11]) w1) from hde)
    clear h hde
    go_enter Tryz.func38, Tryz.ntmps38
    go_wp2_with (first
      | (go_at_call 22; (with_reducible refine (HD.out _ ?_).mono ?_); exact (Below.refl _ _).alloc (Nat.le_refl _) _; rintro e w1 ⟨rfl, hb1⟩; have zz1 := (Z3.new w).on hb1; have hB1 : Below w.heap.size w w1 := Below.trans ((Below.refl _ _).alloc (Nat.le_refl _) _) (hb1.mono (by simp)); obtain ⟨y0, y1, y2, yf, yl⟩ := zz1; have yf0 := yf 0; have yf1 := yf 1; have yf2 := yf 2; have yn : ¬ w.heap.size = w1.heap.size := (by omega); have yn' : ¬ w1.heap.size = w.heap.size := (by omega)))
    refine bodyPost_ret (v := .tuple #[.agg #[.bool false, .string ⟨#[]⟩, .int .i64 0], .int .i64 11]) (by simp [results, Tryz.results38, go_sem, y0, y1, y2, yf0, yf1, yf2, yn, yn', yl]; done) rfl (RetB.of (by rw [hd.out]; first | done | rfl) (by (repeat (first | exact Below.refl _ _ | assumption | refine Below.setCell ?_ (by first | omega | (simp <;> omega)) _ | refine Below.alloc ?_ (by first | omega | (simp <;> omega)) _ | refine Below.drew ?_ | refine below_drewN' ?_ _))))
  · obtain ⟨f1, f2⟩ := Fl.dec_fine x (by omega)
    have hd := (show Fl.sig x k way = Dc.sig (Fl.dec x).n (Fl.dec x).l (Fl.dec x).x k way from if_neg h)
    have hlen := Dc.right_len f2
    obtain ⟨hx1, hx2⟩ := Dc.right_exp f2
    obtain ⟨⟨rn, rl, rx, re⟩, hR⟩ : ∃ R, R = Fl.dec x := ⟨_, rfl⟩
    rw [← hR] at hd hde f1 hlen hx1 hx2
    simp only at f1 hd hlen hx1 hx2
    subst f1
    obtain ⟨s, hs⟩ : ∃ s : ByteArray, s = ⟨rl.toArray⟩ := ⟨_, rfl⟩
    have hsl : s.data.toList = rl := by rw [hs]
    have hss : s.size = rl.length := by rw [hs, size_mk]
    have hsg := fun w1 => r7_sig_any rn s rx k way w1 (by omega) (by omega) hk
    rw [hsl, ← hd] at hsg
    have HSG := Lib.hid hsg
    have HD := Lib.hid (show ∀ w1, Below w.heap.size w w1 → Calls Tryz.prog 22 #[.int .u64 x] w1 (RetB (.tuple #[.agg #[.bool rn, .string s, .int .i64 rx], .int .i64 0]) w1) from by rw [hs]; exact hde)
    obtain ⟨R, hRR⟩ : ∃ R, R = Fl.sig x k way := ⟨_, rfl⟩
    rw [← hRR] at HSG ⊢
    clear h hde hd hR hs hsl hsg hRR f2
    go_enter Tryz.func38, Tryz.ntmps38
    go_wp2_with (first
      | (go_at_call 22; (with_reducible refine (HD.out _ ?_).mono ?_); exact (Below.refl _ _).alloc (Nat.le_refl _) _; rintro e w1 ⟨rfl, hb1⟩; have zz1 := (Z3.new w).on hb1; have hB1 : Below w.heap.size w w1 := Below.trans ((Below.refl _ _).alloc (Nat.le_refl _) _) (hb1.mono (by simp)); have hsz1 := hB1.size)
      | (go_at_call 23; (with_reducible refine (HSG.out _).mono ?_); rintro e w2 ⟨rfl, hb2⟩; have hB2 : Below w.heap.size w w2 := Below.trans (by (repeat (first | exact Below.refl _ _ | assumption | refine Below.setCell ?_ (by first | omega | (simp <;> omega)) _ | refine Below.alloc ?_ (by first | omega | (simp <;> omega)) _ | refine Below.drew ?_ | refine below_drewN' ?_ _))) (hb2.mono (by have := hB1.size; simp; omega)); have zz2 := Z3.step zz1 hb2; obtain ⟨y0, y1, y2, yf, yl⟩ := zz2; have yf0 := yf 0; have yf1 := yf 1; have yf2 := yf 2; have yn : ¬ w.heap.size = w2.heap.size := (by omega); have yn' : ¬ w2.heap.size = w.heap.size := (by omega)))
    refine bodyPost_ret (v := .tuple #[Fl.dv R, .int .i64 R.e]) (by simp [results, Tryz.results38, go_sem, y0, y1, y2, yf0, yf1, yf2, yn, yn', yl]; done) rfl (RetB.of rfl (by (repeat (first | exact Below.refl _ _ | assumption | refine Below.setCell ?_ (by first | omega | (simp <;> omega)) _ | refine Below.alloc ?_ (by first | omega | (simp <;> omega)) _ | refine Below.drew ?_ | refine below_drewN' ?_ _))))
end Go.Proofs.YtiglekomfgfilaaGreatDoor

/- The reference: which of two fractions is nearer. -/
namespace Go.Proofs.YtiglekomfgfilaaGreatDoor
set_option linter.all false
open Go.RowKit
end Go.Proofs.YtiglekomfgfilaaGreatDoor

/- The reference: bits from a place on, bits below a place. -/
namespace Go.Proofs.YtiglekomfgfilaaGreatDoor
set_option maxRecDepth 100000
set_option maxHeartbeats 2000000
set_option linter.all false
open Go.RowKit
theorem Fl.bits_step (A n k : Nat) (b : Bool) (h : Na.bit A (n + k) = b) (t : Nat) : A / 2 ^ (n + k) % 2 ^ (t + 1) = 2 * (A / 2 ^ (n + k + 1) % 2 ^ t) + b.toNat := by
  have h1 : A / 2 ^ (n + k) = 2 * (A / 2 ^ (n + k + 1)) + b.toNat := by
    rw [Nat.pow_succ, ← Nat.div_div_eq_div_mul]
    rw [Na.bit] at h
    have h1 := Nat.div_add_mod (A / 2 ^ (n + k)) 2
    cases b with
    | true => have := of_decide_eq_true h; show _ = _ + 1; omega
    | false => have h2 := of_decide_eq_false h; have := Nat.mod_lt (A / 2 ^ (n + k)) (show 0 < 2 by decide); show _ = _ + 0; omega
  rw [h1]
  obtain ⟨q, hq⟩ : ∃ q, q = A / 2 ^ (n + k + 1) := ⟨_, rfl⟩
  rw [← hq]
  have hb : b.toNat ≤ 1 := by cases b <;> decide
  have hp : 0 < 2 ^ t := Nat.pow_pos (by decide)
  have h2 := Nat.div_add_mod q (2 ^ t)
  have h3 := Nat.mod_lt q hp
  have h4 : 2 * q + b.toNat = 2 ^ (t + 1) * (q / 2 ^ t) + (2 * (q % 2 ^ t) + b.toNat) := by
    rw [Nat.pow_succ, Nat.mul_comm (2 ^ t) 2, Nat.mul_assoc]; omega
  rw [h4, Nat.mul_add_mod]
  exact Nat.mod_eq_of_lt (by rw [Nat.pow_succ]; omega)
theorem Fl.low_step (A i : Nat) (h0 : A % 2 ^ i = 0) (hb : Na.bit A i = false) : A % 2 ^ (i + 1) = 0 := by
  rw [Na.bit] at hb
  have h2 := of_decide_eq_false hb
  have h3 := Nat.div_add_mod A (2 ^ i)
  rw [h0, Nat.add_zero] at h3
  have h4 : A / 2 ^ i = 2 * (A / 2 ^ i / 2) := by omega
  rw [Nat.pow_succ, ← h3, h4, ← Nat.mul_assoc]
  exact Nat.mul_mod_right _ _
theorem Fl.low_some (A i n : Nat) (hb : Na.bit A i = true) (hi : i < n) : A % 2 ^ n ≠ 0 := by
  intro h
  rw [Na.bit] at hb
  have hb := of_decide_eq_true hb
  obtain ⟨c, hc⟩ := Nat.dvd_of_mod_eq_zero h
  obtain ⟨d, rfl⟩ : ∃ d, n = i + (d + 1) := ⟨n - i - 1, by omega⟩
  rw [hc, Nat.pow_add, Nat.mul_assoc, Nat.mul_div_cancel_left _ (Nat.pow_pos (by decide)), Nat.pow_succ, Nat.mul_comm (2 ^ d) 2, Nat.mul_assoc, Nat.mul_mod_right] at hb
  omega
def fromLoop (A n : Nat) (vv iv : Value) : Prop := ∃ k v : Nat, k ≤ 64 ∧ iv = .int .i64 ((k : Int) - 1) ∧ vv = .int .u64 v ∧ Hid (v = A / 2 ^ (n + k) % 2 ^ (64 - k))
theorem r3_from_any (a : Option Addr) (c : Nat) (l : List Nat) (n : Nat) (w : World) (h : Sl w a c l) (hl : l.length ≤ 20000) (hn : n ≤ 1000000) :
    Calls Tryz.prog 80 #[.slice a l.length c, .int .i64 n] w (Ret0 (.int .u64 (Na.val l / 2 ^ n % 18446744073709551616 : Nat)) w) := by
  have HB := Lib.hid (fun i (hi : i ≤ 100000000) => r1_bit_any a c l i w h (by omega) hi)
  obtain ⟨A, hA⟩ : ∃ A, A = Na.val l := ⟨_, rfl⟩
  rw [← hA] at HB ⊢
  obtain ⟨ll, hll⟩ : ∃ z, l.length = z := ⟨_, rfl⟩
  rw [hll] at HB ⊢
  obtain ⟨R, hR⟩ : ∃ R, R = A / 2 ^ n % 18446744073709551616 := ⟨_, rfl⟩
  have HR := Lib.hid hR
  rw [← hR]
  clear hA h hll hl hR
  go_enter Tryz.func80, Tryz.ntmps80
  go_wp2_with fail
  go_loop [5, 6] (fromLoop A n) (fun _ i => (intOf i + 1).toNat)
  case atStart => exact ⟨64, 0, Nat.le_refl _, rfl, rfl, Lib.hid (by rw [Nat.sub_self, Nat.pow_zero, Nat.mod_one])⟩
  case round =>
    obtain ⟨k, v, hk, rfl, rfl, HV⟩ := hrel
    cases k with
    | zero =>
      have hv := HV.out
      rw [Nat.add_zero, Nat.sub_zero] at hv
      obtain rfl : v = R := by rw [HR.out]; exact hv
      clear hv
      go_wp2_with fail
      go_ret
      exact Ret0.of rfl
    | succ j =>
      have hji : (((j + 1 : Nat) : Int) - 1) = (j : Int) := by omega
      rw [hji]
      have hv63 : v < 9223372036854775808 := by
        have h1 : v < 2 ^ (64 - (j + 1)) := by rw [HV.out]; exact Nat.mod_lt _ (Nat.pow_pos (by decide))
        exact Nat.lt_of_lt_of_le h1 (Nat.pow_le_pow_right (n := 2) (j := 63) (by decide) (by omega))
      obtain ⟨b, hb⟩ : ∃ b, b = Na.bit A (n + j) := ⟨_, rfl⟩
      have hbit := HB.out (n + j) (by omega)
      rw [← hb, show ((n + j : Nat) : Int) = (n : Int) + (j : Int) by omega] at hbit
      have HBT := Lib.hid hbit
      have hst := Fl.bits_step A n j b hb.symm (64 - (j + 1))
      rw [show n + j + 1 = n + (j + 1) by omega, ← HV.out, show 64 - (j + 1) + 1 = 64 - j by omega] at hst
      have HST := Lib.hid hst
      clear hst hbit hb
      cases b with
      | false =>
        go_wp2_with (go_at_call 81; (with_reducible refine (HBT.out).mono ?_); rintro e w' ⟨rfl, rfl⟩)
        go_round
        case rel => exact ⟨j, 2 * v, by omega, rfl, by go_num, Lib.hid HST.out.symm⟩
        case measure => simp [intOf]
      | true =>
        go_wp2_with (go_at_call 81; (with_reducible refine (HBT.out).mono ?_); rintro e w' ⟨rfl, rfl⟩)
        go_round
        case rel => exact ⟨j, 2 * v + 1, by omega, rfl, by go_num, Lib.hid HST.out.symm⟩
        case measure => simp [intOf]
theorem r3_low_any (a : Option Addr) (c : Nat) (l : List Nat) (n : Nat) (w : World) (h : Sl w a c l) (hl : l.length ≤ 20000) (hn : n ≤ 1000000) :
    Calls Tryz.prog 82 #[.slice a l.length c, .int .i64 n] w (Ret0 (.bool (decide (Na.val l % 2 ^ n ≠ 0))) w) := by
  have HB := Lib.hid (fun i (hi : i ≤ 100000000) => r1_bit_any a c l i w h (by omega) hi)
  have hAl := Na.val_lt l h.ok
  rw [show Na.B ^ l.length = 2 ^ (32 * l.length) by rw [Nat.pow_mul]] at hAl
  obtain ⟨A, hA⟩ : ∃ A, A = Na.val l := ⟨_, rfl⟩
  rw [← hA] at HB hAl ⊢
  obtain ⟨ll, hll⟩ : ∃ z, l.length = z := ⟨_, rfl⟩
  rw [hll] at HB hAl hl ⊢
  have HAL := Lib.hid hAl
  obtain ⟨R, hR⟩ : ∃ R, R = decide (A % 2 ^ n ≠ 0) := ⟨_, rfl⟩
  have HR := Lib.hid hR
  rw [← hR]
  clear hA h hll hAl hR
  go_enter Tryz.func82, Tryz.ntmps82
  go_wp2_with fail
  go_loop [5] (fun i => ∃ k : Nat, k ≤ n ∧ i = .int .i64 k ∧ A % 2 ^ k = 0) (fun i => n - (intOf i).toNat)
  case atStart => exact ⟨0, Nat.zero_le _, rfl, by rw [Nat.pow_zero, Nat.mod_one]⟩
  case round =>
    obtain ⟨k, hk, rfl, hz⟩ := hrel
    have HZ := Lib.hid hz; clear hz
    by_cases hlt : k < n
    · by_cases hlt2 : k < 32 * ll
      · obtain ⟨b, hb⟩ : ∃ b, b = Na.bit A k := ⟨_, rfl⟩
        have hbit := HB.out k (by omega)
        rw [← hb] at hbit
        have HBT := Lib.hid hbit
        have hlt2i : (k : Int) < 32 * (ll : Int) := by omega
        cases b with
        | false =>
          have HS := Lib.hid (Fl.low_step A k HZ.out hb.symm)
          clear hb hbit hlt2
          go_wp2_with (go_at_call 81; (with_reducible refine (HBT.out).mono ?_); rintro e w' ⟨rfl, rfl⟩)
          go_round
          case rel => exact ⟨k + 1, by omega, by go_num, HS.out⟩
          case measure => simp [intOf]; omega
        | true =>
          obtain rfl : R = true := by rw [HR.out]; exact decide_eq_true (Fl.low_some A k n hb.symm hlt)
          clear hb hbit hlt2
          go_wp2_with (go_at_call 81; (with_reducible refine (HBT.out).mono ?_); rintro e w' ⟨rfl, rfl⟩)
          go_ret
          exact Ret0.of rfl
      · have hk2 : ¬ (k : Int) < 32 * (ll : Int) := by omega
        have hA0 : A = 0 := by
          have h1 : A < 2 ^ k := Nat.lt_of_lt_of_le HAL.out (Nat.pow_le_pow_right (by decide) (by omega))
          have := HZ.out
          rwa [Nat.mod_eq_of_lt h1] at this
        obtain rfl : R = false := by rw [HR.out, hA0, Nat.zero_mod]; rfl
        clear hA0 hlt2
        go_wp2_with fail
        go_ret
        exact Ret0.of rfl
    · obtain rfl : k = n := by omega
      obtain rfl : R = false := by rw [HR.out, HZ.out]; rfl
      go_wp2_with fail
      go_ret
      exact Ret0.of rfl
end Go.Proofs.YtiglekomfgfilaaGreatDoor

/- The reference: a number rounded to a binary64. -/
namespace Go.Proofs.YtiglekomfgfilaaGreatDoor
set_option maxRecDepth 100000
set_option maxHeartbeats 8000000
set_option linter.all false
open Go.RowKit
theorem Fl.upw_half {n k : Nat} {more half rest : Bool} (hh : half = Na.bit n (k - 1)) (hr : rest = decide (n % 2 ^ (k - 1) ≠ 0)) : Fl.upw n k more = (half && (rest || more || decide (n / 2 ^ k % 2 = 1))) := by
  rw [Fl.upw, hh, hr, Na.bit]
theorem Fl.lt2 {q : Nat} (h : q < 9007199254740992) : q < Na.B ^ 2 := by
  rw [Nat.pow_two, show Na.B = 4294967296 from rfl]; omega
theorem r3_from_zero (a : Option Addr) (c q : Nat) (w : World) (h : Sl w a c (Na.limbs q)) (hq : q < 9007199254740992) :
    Calls Tryz.prog 80 #[.slice a (Na.limbs q).length c, .int .i64 0] w (Ret0 (.int .u64 (q : Int)) w) := by
  have h2 := Na.limbs_len_le q 2 (Fl.lt2 hq)
  have := r3_from_any a c (Na.limbs q) 0 w h (by omega) (by omega)
  rw [Na.val_limbs, Nat.pow_zero, Nat.div_one, Nat.mod_eq_of_lt (by omega)] at this
  exact this
theorem r3_from_small (a : Option Addr) (c n k ln : Nat) (w : World) (h : Sl w a c (Na.limbs n)) (hl : (Na.limbs n).length = ln) (hln : ln ≤ 20000) (hk : k ≤ 1000000) (hq : n / 2 ^ k < 9007199254740992) :
    Calls Tryz.prog 80 #[.slice a ln c, .int .i64 k] w (Ret0 (.int .u64 ((n / 2 ^ k : Nat) : Int)) w) := by
  subst hl
  have := r3_from_any a c (Na.limbs n) k w h hln hk
  rw [Na.val_limbs, Nat.mod_eq_of_lt (show n / 2 ^ k < 18446744073709551616 by omega)] at this
  exact this
theorem r3_round_zero (neg : Bool) (a : Option Addr) (c : Nat) (e : Int) (more : Bool) (w : World) (h : Sl w a c (Na.limbs 0)) (hz : a = none → c = 0) :
    Calls Tryz.prog 49 #[.bool neg, .slice a (Na.limbs 0).length c, .int .i64 e, .bool more] w (RetB (.int .u64 ((if neg then 9223372036854775808 else 0 : Nat) : Int)) w) := by
  have hl := r1_len_any a c (Na.limbs 0) w h hz (by rw [Na.limbs_zero]; simp)
  rw [Na.val_limbs, show Na.bitLen 0 = 0 from rfl] at hl
  have HL := Lib.hid (show Calls Tryz.prog 52 #[.slice a (Na.limbs 0).length c] w (RetB (.int .i64 0) w) from hl)
  obtain ⟨l0, hl0⟩ : ∃ z, z = (Na.limbs 0).length := ⟨_, rfl⟩
  rw [← hl0] at HL ⊢
  clear h hz hl hl0
  cases neg with
  | false =>
    go_enter Tryz.func49, Tryz.ntmps49
    go_wp2_with (go_at_call 52; (with_reducible refine (HL.out).mono ?_); rintro e w1 ⟨rfl, hb1⟩)
    go_ret
    exact RetB.of rfl hb1
  | true =>
    go_enter Tryz.func49, Tryz.ntmps49
    go_wp2_with (go_at_call 52; (with_reducible refine (HL.out).mono ?_); rintro e w1 ⟨rfl, hb1⟩)
    go_ret
    exact RetB.of rfl hb1
theorem r3_round_pos (neg : Bool) (a : Option Addr) (c n : Nat) (e : Int) (more : Bool) (w : World) (h : Sl w a c (Na.limbs n)) (hz : a = none → c = 0) (hl : (Na.limbs n).length ≤ 5000) (he : -50000 ≤ e ∧ e ≤ 2000) (hn : n ≠ 0) :
    Calls Tryz.prog 49 #[.bool neg, .slice a (Na.limbs n).length c, .int .i64 e, .bool more] w (RetB (.int .u64 (((if neg then 9223372036854775808 else 0) + Fl.rd n e more : Nat) : Int)) w) := by
  have hlen := r1_len_any a c (Na.limbs n) w h hz (by omega)
  rw [Na.val_limbs] at hlen
  obtain ⟨bl1, bl2, bl3⟩ := Fl.bitLen_ge hn
  have hbl : Na.bitLen n ≤ 160000 := by
    have h1 := Na.val_lt (Na.limbs n) (Na.ok_limbs n)
    rw [Na.val_limbs, show Na.B ^ (Na.limbs n).length = 2 ^ (32 * (Na.limbs n).length) by rw [Nat.pow_mul]] at h1
    have := Na.bitLen_le' h1
    omega
  have hu : Fl.ulp n e = max (e + (Na.bitLen n : Int) - 53) (-1074) := rfl
  have hrd := fun m u (h1 : u = Fl.ulp n e) (h2 : m = Fl.rdm n (u - e) more) => Fl.rd_of (more := more) hn h1 h2
  have hkb := fun k hk hk0 => Fl.kept_bounds (e := e) hn k hk hk0
  have hub := fun t ht => Fl.up_bounds (e := e) hn t ht
  have hrb := Fl.rdm_bounds (e := e) hn more
  obtain ⟨L, hL⟩ : ∃ L, L = Na.bitLen n := ⟨_, rfl⟩
  obtain ⟨u, hu'⟩ : ∃ u, u = Fl.ulp n e := ⟨_, rfl⟩
  rw [← hL] at hlen hbl hu bl3
  rw [← hu'] at hu hkb hub hrb
  have hrd' := hrd (Fl.rdm n (u - e) more) u hu' rfl
  obtain ⟨M, hM⟩ : ∃ M, M = Fl.rdm n (u - e) more := ⟨_, rfl⟩
  rw [← hM] at hrd' hrb
  obtain ⟨D, hD⟩ : ∃ D, D = Fl.rd n e more := ⟨_, rfl⟩
  rw [← hD] at hrd' ⊢
  have hul : -1074 ≤ u := by omega
  have huh : u ≤ 170000 := by omega
  have HN := Lib.hid hlen
  have HS := Lib.hid h; have HZ := Lib.hid hz
  have HRD := Lib.hid hrd'; have HKB := Lib.hid hkb; have HUB := Lib.hid hub; have HRB := Lib.hid hrb; have HM := Lib.hid hM
  obtain ⟨S, hS⟩ : ∃ S : Nat, S = if neg then 9223372036854775808 else 0 := ⟨_, rfl⟩
  have hS2 : S = 0 ∨ S = 9223372036854775808 := by rw [hS]; cases neg <;> simp
  rw [← hS]
  obtain ⟨ln, hln⟩ : ∃ z, (Na.limbs n).length = z := ⟨_, rfl⟩
  have HLN := Lib.hid hln
  rw [hln] at HN hl ⊢
  obtain ⟨e1, e2⟩ := he
  have hL0 : ((L : Int) == 0) = false := by simp only [beq_eq_false_iff_ne, ne_eq]; omega
  have he3 : decide (e < -100000) = false := decide_eq_false (by omega)
  have hmax : e + (L : Int) - 53 < -1074 ∧ u = -1074 ∨ ¬ e + (L : Int) - 53 < -1074 ∧ u = e + (L : Int) - 53 := by omega
  have HMAX := Lib.hid hmax
  have HSV := Lib.hid hS
  clear h hz hlen bl1 bl2 bl3 hrd hkb hub hrb hrd' hM hD hu' hL hln hu hmax hS
  go_enter Tryz.func49, Tryz.ntmps49
  go_upto_if 16 with (fail)
  go_cut [9] (fun sv w' => sv = .int .u64 S ∧ w' = w)
  case first =>
    cases neg with
    | false =>
      have hS0 : S = 0 := HSV.out
      subst hS0
      go_wp2
      go_meet
      exact ⟨rfl, rfl⟩
    | true =>
      have hS0 : S = 9223372036854775808 := HSV.out
      subst hS0
      go_wp2
      go_meet
      exact ⟨rfl, rfl⟩
  case rest => as_aux_lemma =>
    obtain ⟨rfl, hw⟩ := hcut
    rw [hw]
    clear HSV hw
    go_upto_if 41 with (go_at_call 52; (with_reducible refine (HN.out).mono ?_); rintro e' w1 ⟨rfl, hb1⟩)
    go_cut [11] (fun uv w' => uv = .int .i64 u ∧ w' = w1)
    case first =>
      rcases HMAX.out with ⟨h1, h2⟩ | ⟨h1, h2⟩
      · have H2 := Lib.hid h2
        clear h2
        go_wp2
        go_meet
        exact ⟨by rw [H2.out], rfl⟩
      · have H2 := Lib.hid h2
        clear h2
        go_wp2
        go_meet
        exact ⟨by rw [H2.out], rfl⟩
    case rest => as_aux_lemma =>
      obtain ⟨rfl, hw⟩ := hcut
      rw [hw]
      clear HMAX HN hw
      go_upto_if 44 with (fail)
      go_cut [12] (fun mv w' => mv = .int .u64 M ∧ Hid (Below w.heap.size w w'))
      case first =>
        clear HRD HRB
        by_cases hk : u ≤ e
        · obtain ⟨t, ht⟩ : ∃ t : Nat, t = (e - u).toNat := ⟨_, rfl⟩
          have hti : e - u = (t : Int) := by omega
          obtain ⟨k1, -⟩ := HUB.out t (by omega)
          have hup := r3_up_any a c (Na.limbs n) t w1 (HS.out.on hb1) HZ.out (by rw [HLN.out]; omega) (by omega)
          rw [Na.val_limbs, HLN.out] at hup
          have HMM := Lib.hid (show n * 2 ^ t = M by rw [HM.out, Fl.rdm, if_pos (by omega), show (-(u - e)).toNat = t by omega])
          obtain ⟨q, hq⟩ : ∃ q, q = n * 2 ^ t := ⟨_, rfl⟩
          rw [← hq] at hup HMM k1
          have HUP := Lib.hid hup
          have HFR := Lib.hid (fun w2 a2 c2 (s2 : Sl w2 a2 c2 (Na.limbs q)) => r3_from_zero a2 c2 q w2 s2 k1)
          obtain rfl : q = M := HMM.out
          clear hup ht hq
          go_wp2_with (first
            | (go_at_call 54; (with_reducible refine (HUP.out).mono ?_); rintro e' w2 ⟨a2, c2, rfl, s2, z2, -, hb2⟩)
            | (go_at_call 80; (with_reducible refine (HFR.out _ _ _ s2).mono ?_); rintro e w' ⟨rfl, rfl⟩))
          go_meet
          exact ⟨rfl, Lib.hid (hb1.trans (hb2.mono hb1.size))⟩
        · obtain ⟨k, hkk⟩ : ∃ k : Nat, k = (u - e).toNat := ⟨_, rfl⟩
          have hki : u - e = (k : Int) := by omega
          have hk0 : 0 < k := by omega
          obtain ⟨k1, -⟩ := HKB.out k (by omega) hk0
          obtain ⟨j, hj⟩ : ∃ j, j = k - 1 := ⟨_, rfl⟩
          have hji : (k : Int) - 1 = (j : Int) := by omega
          have hsw : Sl w1 a c (Na.limbs n) := HS.out.on hb1
          have hln20 : (Na.limbs n).length ≤ 20000 := by rw [HLN.out]; omega
          have hfr := r3_from_small a c n k ln w1 hsw HLN.out (by omega) (by omega) k1
          have hbt := r1_bit_any a c (Na.limbs n) j w1 hsw (by omega) (by omega)
          have hlw := r3_low_any a c (Na.limbs n) j w1 hsw hln20 (by omega)
          rw [Na.val_limbs, HLN.out] at hbt hlw
          obtain ⟨half, hh⟩ : ∃ b, b = Na.bit n j := ⟨_, rfl⟩
          obtain ⟨rest, hr⟩ : ∃ b, b = decide (n % 2 ^ j ≠ 0) := ⟨_, rfl⟩
          obtain ⟨q, hq⟩ : ∃ q, q = n / 2 ^ k := ⟨_, rfl⟩
          have hM2 : M = q + (half && (rest || more || decide (q % 2 = 1))).toNat := by
            rw [HM.out, Fl.rdm, if_neg (by omega), ← hkk, Fl.upw_half (half := half) (rest := rest) (by rw [hh, hj]) (by rw [hr, hj]), ← hq]
          rw [← hh] at hbt
          rw [← hr] at hlw
          rw [← hq] at hfr k1
          have HFR := Lib.hid hfr; have HBT := Lib.hid hbt; have HLW := Lib.hid hlw
          have HM2 := Lib.hid hM2
          have hqm : q % 2 = 1 ∨ q % 2 = 0 := by omega
          clear hkk hj hsw hln20 hfr hbt hlw hh hr hq hM2
          cases half with
          | false =>
            obtain rfl : M = q := HM2.out
            go_wp2_with (first | (go_at_call 80; (with_reducible refine (HFR.out).mono ?_); rintro e w' ⟨rfl, rfl⟩) | (go_at_call 81; (with_reducible refine (HBT.out).mono ?_); rintro e w' ⟨rfl, rfl⟩) | (go_at_call 82; (with_reducible refine (HLW.out).mono ?_); rintro e w' ⟨rfl, rfl⟩))
            all_goals (go_meet; exact ⟨rfl, Lib.hid hb1⟩)
          | true =>
            by_cases hrm : rest = true ∨ more = true
            · have hM3 : M = q + 1 := by
                have := HM2.out
                rcases hrm with h | h
                · rw [h] at this; simpa using this
                · rw [h] at this; simpa using this
              subst hM3
              rcases hrm with h | h
              · subst h
                go_wp2_with (first | (go_at_call 80; (with_reducible refine (HFR.out).mono ?_); rintro e w' ⟨rfl, rfl⟩) | (go_at_call 81; (with_reducible refine (HBT.out).mono ?_); rintro e w' ⟨rfl, rfl⟩) | (go_at_call 82; (with_reducible refine (HLW.out).mono ?_); rintro e w' ⟨rfl, rfl⟩))
                all_goals (go_meet; exact ⟨by first | rfl | go_num, Lib.hid hb1⟩)
              · subst h
                cases rest
                all_goals (
                  go_wp2_with (first | (go_at_call 80; (with_reducible refine (HFR.out).mono ?_); rintro e w' ⟨rfl, rfl⟩) | (go_at_call 81; (with_reducible refine (HBT.out).mono ?_); rintro e w' ⟨rfl, rfl⟩) | (go_at_call 82; (with_reducible refine (HLW.out).mono ?_); rintro e w' ⟨rfl, rfl⟩))
                  all_goals (go_meet; exact ⟨by first | rfl | go_num, Lib.hid hb1⟩))
            · have hr0 : rest = false := Bool.eq_false_iff.mpr (fun h => hrm (Or.inl h))
              have hm0 : more = false := Bool.eq_false_iff.mpr (fun h => hrm (Or.inr h))
              subst hr0 hm0
              clear hrm
              rcases hqm with hq1 | hq0
              · have hM3 : M = q + 1 := by have := HM2.out; rw [decide_eq_true hq1] at this; simpa using this
                subst hM3
                have hqi : (q : Int) % 2 = 1 := by omega
                clear hq1
                go_wp2_with (first | (go_at_call 80; (with_reducible refine (HFR.out).mono ?_); rintro e w' ⟨rfl, rfl⟩) | (go_at_call 81; (with_reducible refine (HBT.out).mono ?_); rintro e w' ⟨rfl, rfl⟩) | (go_at_call 82; (with_reducible refine (HLW.out).mono ?_); rintro e w' ⟨rfl, rfl⟩))
                all_goals (go_meet; exact ⟨by first | rfl | go_num, Lib.hid hb1⟩)
              · have hM3 : M = q := by have := HM2.out; rw [decide_eq_false (by omega)] at this; simpa using this
                subst hM3
                have hqi : (M : Int) % 2 = 0 := by omega
                clear hq0
                go_wp2_with (first | (go_at_call 80; (with_reducible refine (HFR.out).mono ?_); rintro e w' ⟨rfl, rfl⟩) | (go_at_call 81; (with_reducible refine (HBT.out).mono ?_); rintro e w' ⟨rfl, rfl⟩) | (go_at_call 82; (with_reducible refine (HLW.out).mono ?_); rintro e w' ⟨rfl, rfl⟩))
                all_goals (go_meet; exact ⟨rfl, Lib.hid hb1⟩)
      case rest => as_aux_lemma =>
        obtain ⟨rfl, HB⟩ := hcut
        obtain ⟨r1, r2⟩ := HRB.out
        have hD := HRD.out
        have hB := HB.out
        clear HKB HUB HM HRB HRD HS HZ HLN HB
        have hSb : S ≤ 9223372036854775808 := by omega
        have hM53 : M ≤ 9007199254740992 := r1
        clear hS2 r1 r2
        by_cases c1 : M < 4503599627370496
        · rw [if_pos c1] at hD
          have n1 : ((M : Int) == 9007199254740992) = false := by simp only [beq_eq_false_iff_ne, ne_eq]; omega
          have n2 : decide ((M : Int) < 4503599627370496) = true := decide_eq_true (by omega)
          subst hD
          go_wp2
          refine bodyPost_ret (v := .int .u64 ((S + D : Nat) : Int)) (by simp [results, Tryz.results49, go_sem] <;> omega) rfl (RetB.of rfl hB)
        · rw [if_neg c1] at hD
          by_cases c2 : M = 9007199254740992
          · rw [if_pos c2] at hD
            by_cases c3 : 2047 ≤ u + 1076
            · rw [if_pos c3] at hD
              subst hD c2
              have c4 : 2047 ≤ u + 1 + 1075 := by omega
              go_wp2
              refine bodyPost_ret (v := .int .u64 ((S + 9218868437227405312 : Nat) : Int)) (by simp [results, Tryz.results49, go_sem] <;> omega) rfl (RetB.of rfl hB)
            · rw [if_neg c3] at hD
              subst c2
              have c4 : ¬ 2047 ≤ u + 1 + 1075 := by omega
              obtain ⟨z, hz⟩ : ∃ z : Nat, u + 1 + 1075 = (z : Int) := ⟨(u + 1076).toNat, by omega⟩
              have hz1 : z < 2047 := by omega
              have hzD : D = z * 4503599627370496 := by rw [hD]; congr 1; omega
              obtain ⟨Z, hZ⟩ : ∃ Z, Z = z * 4503599627370496 := ⟨_, rfl⟩
              have hZi : (z : Int) * 4503599627370496 = (Z : Int) := by omega
              have hZl : Z ≤ 9214364837600034816 := by omega
              rw [← hZ] at hzD
              subst hzD
              clear hD hZ
              go_wp2
              refine bodyPost_ret (v := .int .u64 ((S + D : Nat) : Int)) (by simp [results, Tryz.results49, go_sem] <;> omega) rfl (RetB.of rfl hB)
          · rw [if_neg c2] at hD
            have n1 : ((M : Int) == 9007199254740992) = false := by simp only [beq_eq_false_iff_ne, ne_eq]; omega
            have n2 : decide ((M : Int) < 4503599627370496) = false := decide_eq_false (by omega)
            by_cases c3 : 2047 ≤ u + 1075
            · rw [if_pos c3] at hD
              subst hD
              go_wp2
              refine bodyPost_ret (v := .int .u64 ((S + 9218868437227405312 : Nat) : Int)) (by simp [results, Tryz.results49, go_sem] <;> omega) rfl (RetB.of rfl hB)
            · rw [if_neg c3] at hD
              obtain ⟨z, hz⟩ : ∃ z : Nat, u + 1075 = (z : Int) := ⟨(u + 1075).toNat, by omega⟩
              have hz1 : z < 2047 := by omega
              have hz3 : (u + 1075).toNat = z := by omega
              rw [hz3] at hD
              obtain ⟨Z, hZ⟩ : ∃ Z, Z = z * 4503599627370496 := ⟨_, rfl⟩
              have hZi : (z : Int) * 4503599627370496 = (Z : Int) := by omega
              have hZl : Z ≤ 9214364837600034816 := by omega
              rw [← hZ] at hD
              obtain ⟨X1, hX1⟩ : ∃ X1, X1 = S + Z := ⟨_, rfl⟩
              have hX1i : (S : Int) + (Z : Int) = (X1 : Int) := by omega
              obtain ⟨X, hX⟩ : ∃ X, X = X1 + M := ⟨_, rfl⟩
              have hXi : (X1 : Int) + (M : Int) = (X : Int) := by omega
              obtain ⟨Y, hY⟩ : ∃ Y, Y = S + D := ⟨_, rfl⟩
              have hYi : (X : Int) - 4503599627370496 = (Y : Int) := by omega
              have b1 : X1 < 18446744073709551616 := by omega
              have b2 : X < 18446744073709551616 := by omega
              have b3 : Y < 18446744073709551616 := by omega
              have HY := Lib.hid hY
              have c5 : decide (2047 ≤ (z : Int)) = false := decide_eq_false (by omega)
              clear hZ hz3 hD hM53 c1 c2 c3 hX1 hX hY hSb
              go_wp2
              refine bodyPost_ret (v := .int .u64 (Y : Int)) (by simp [results, Tryz.results49, go_sem]) rfl (RetB.of (by rw [HY.out]) hB)
theorem r3_round_any (neg : Bool) (a : Option Addr) (c n : Nat) (e : Int) (more : Bool) (w : World) (h : Sl w a c (Na.limbs n)) (hz : a = none → c = 0) (hl : (Na.limbs n).length ≤ 5000) (he : -50000 ≤ e ∧ e ≤ 2000) :
    Calls Tryz.prog 49 #[.bool neg, .slice a (Na.limbs n).length c, .int .i64 e, .bool more] w (RetB (.int .u64 (((if neg then 9223372036854775808 else 0) + Fl.rd n e more : Nat) : Int)) w) := by
  by_cases hn : n = 0
  · subst hn
    rw [Fl.rd, if_pos rfl, Nat.add_zero]
    exact r3_round_zero neg a c e more w h hz
  · exact r3_round_pos neg a c n e more w h hz hl he hn
end Go.Proofs.YtiglekomfgfilaaGreatDoor
