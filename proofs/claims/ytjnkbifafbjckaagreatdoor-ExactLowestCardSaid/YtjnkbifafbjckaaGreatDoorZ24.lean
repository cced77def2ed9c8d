/- exact.Dec, Mid, Sig, Place, and the reference's. -/
import Derived.Test.YtjnkbifafbjckaaGreatDoorZ17
import Derived.Test.YtjnkbifafbjckaaGreatDoorZ18
import Derived.Test.YtjnkbifafbjckaaGreatDoorZ20
import Derived.Test.YtjnkbifafbjckaaGreatDoorZ23
import Derived.Test.YtjnkbifafbjckaaGreatDoorZ11
namespace Go.Proofs.YtjnkbifafbjckaaGreatDoor
set_option linter.all false
open Go.RowKit
attribute [local go_sem] Fl.dv Dc.Res.val

theorem Fl.dec_bounds (x : Nat) : Fl.mant x < Na.B ^ 2 ∧ 2 * Fl.mant x + 1 < Na.B ^ 2 ∧ (-1100 ≤ Fl.expn x ∧ Fl.expn x ≤ 1100) ∧ (-1100 ≤ Fl.expn x - 1 ∧ Fl.expn x - 1 ≤ 1100) := by
  have h1 := Fl.mant_lt x
  have h2 := Fl.expn_bound x
  have h3 : Na.B ^ 2 = 18446744073709551616 := rfl
  omega

set_option maxHeartbeats 1000000 in
theorem r3_nat_any (v : Nat) (hv : v < 18446744073709551616) (w : World) : Calls Tryz.prog 29 #[.int .u64 v] w (GivesZ (Na.limbs v) w) := by
  have H := Lib.hid (r1_of_any v hv w)
  go_enter Tryz.func29, Tryz.ntmps29
  go_wp2_with (first | (go_at_call 44; (with_reducible refine (H.out).mono ?_); rintro e w1 ⟨a1, c1, rfl, s1, z1, r1, hb1⟩))
  go_ret
  exact ⟨a1, c1, rfl, s1, z1, r1, hb1⟩

set_option maxHeartbeats 1000000 in
theorem r9_finite_any (x : Nat) (hx : x < 18446744073709551616) (w : World) : Calls Tryz.prog 128 #[.int .u64 x] w (Ret0 (.bool (decide (Fl.kind x < 3))) w) := by
  have HK := Lib.hid (fun w => r3_kind_any x hx w)
  obtain ⟨k, hk⟩ : ∃ k, k = Fl.kind x := ⟨_, rfl⟩
  rw [← hk] at HK ⊢
  clear hk
  have hi : decide ((k : Int) < 3) = decide (k < 3) := decide_eq_decide.2 (by omega)
  have HI := Lib.hid hi
  clear hi
  go_enter Tryz.func128, Tryz.ntmps128
  go_wp2_with (go_at_call 19; (with_reducible refine (HK.out _).mono ?_); rintro e w' ⟨rfl, rfl⟩)
  refine bodyPost_ret (v := .bool (decide ((k : Int) < 3))) (by simp [results, Tryz.results128, go_sem]) rfl (Ret0.of (by rw [HI.out]))

set_option maxHeartbeats 2000000 in
theorem ex_dec_any (x : Nat) (hx : x < 18446744073709551616) (w : World) (ht : Tab w) : Calls Tryz.prog 18 #[.int .u64 x] w (RetB (Fl.dec x).val w) := by
  obtain ⟨b1, b2, b3, b4⟩ := Fl.dec_bounds x
  have hk := fun w => fl_kind_any x hx w
  have hsp := fun w => fl_split_any x hx w
  by_cases h : 3 ≤ Fl.kind x
  · have hd := Lib.hid (show Fl.dec x = ⟨false, [], 0, 11⟩ from if_pos h)
    obtain ⟨k, hkk⟩ : ∃ k, k = Fl.kind x := ⟨_, rfl⟩
    rw [← hkk] at hk h
    have HK := Lib.hid hk
    clear hkk hk hsp b1 b2 b3 b4
    go_enter Tryz.func18, Tryz.ntmps18
    go_wp2_with (go_at_call 69; (with_reducible refine (HK.out _).mono ?_); rintro e w' ⟨rfl, rfl⟩)
    refine bodyPost_ret (v := .tuple #[.agg #[.bool false, .string ⟨#[]⟩, .int .i64 0], .int .i64 11]) (by simp [results, Tryz.results18, go_sem]; done) rfl (RetB.of (by rw [hd.out]; first | done | rfl) (by (repeat (first | exact Below.refl _ _ | assumption | refine Below.setCell ?_ (by first | omega | (simp <;> omega)) _ | refine Below.alloc ?_ (by first | omega | (simp <;> omega)) _ | refine Below.drew ?_ | refine below_drewN' ?_ _))))
  · have hd := Lib.hid (show Fl.dec x = Fl.okd (Fl.of (Fl.neg x) (Fl.mant x) (Fl.expn x)) from if_neg h)
    obtain ⟨k, hkk⟩ : ∃ k, k = Fl.kind x := ⟨_, rfl⟩
    obtain ⟨m, hm⟩ : ∃ k, k = Fl.mant x := ⟨_, rfl⟩
    obtain ⟨e, he⟩ : ∃ k, k = Fl.expn x := ⟨_, rfl⟩
    obtain ⟨s, hs⟩ : ∃ k, k = Fl.neg x := ⟨_, rfl⟩
    rw [← hm, ← he, ← hs] at hsp hd
    rw [← hm] at b1 b2
    rw [← he] at b3 b4
    rw [← hkk] at hk h
    have hml : m < 18446744073709551616 := b1
    obtain ⟨e3, e4⟩ := b3
    have HK := Lib.hid hk; have HSP := Lib.hid hsp
    have HO := Lib.hid (fun w => na_of_any m hml w)
    have HEX := Lib.hid (fun w1 g (hb : Below w.heap.size w w1) (hk : Blk w1 g (Na.limbs m)) => ex_of_any s (some ⟨g, 0, none⟩) (Na.limbs m).length m e w1 (hk.sl (Na.ok_limbs m) (Nat.le_refl _)) b1 (by omega) (ht.below hb))
    obtain ⟨R, hR⟩ : ∃ R, R = Fl.of s m e := ⟨_, rfl⟩
    rw [← hR] at hd HEX
    clear hkk hm he hs hk hsp b1 b2 hR
    go_enter Tryz.func18, Tryz.ntmps18
    go_wp2_with (first
      | (go_at_call 69; (with_reducible refine (HK.out _).mono ?_); rintro e w' ⟨rfl, rfl⟩)
      | (go_at_call 70; (with_reducible refine (HSP.out _).mono ?_); rintro e w' ⟨rfl, rfl⟩)
      | (go_at_call 72; (with_reducible refine (HO.out _).mono ?_); rintro e w1 ⟨g, rfl, hg, hk, hb1⟩; have zz1 := (Z3.new w).on hb1; have hB1 : Below w.heap.size w w1 := Below.trans ((Below.refl _ _).alloc (Nat.le_refl _) _) (hb1.mono (by simp)))
      | (go_at_call 71; (with_reducible refine (HEX.out _ _ hB1 hk).mono ?_); rintro e w2 ⟨rfl, hb2⟩; have hB2 := hB1.trans (hb2.mono hB1.size); have zz2 := zz1.on hb2; obtain ⟨y0, y1, y2, yf, yl⟩ := zz2; have yf0 := yf 0; have yf1 := yf 1; have yf2 := yf 2; have yn : ¬ w.heap.size = w2.heap.size := (by omega); have yn' : ¬ w2.heap.size = w.heap.size := (by omega)))
    refine bodyPost_ret (v := .tuple #[Fl.dv R, .int .i64 0]) (by simp [results, Tryz.results18, go_sem, y0, y1, y2, yf0, yf1, yf2, yn, yn', yl]; done) rfl (RetB.of (by rw [hd.out]; first | done | rfl) (by (repeat (first | exact Below.refl _ _ | assumption | refine Below.setCell ?_ (by first | omega | (simp <;> omega)) _ | refine Below.alloc ?_ (by first | omega | (simp <;> omega)) _ | refine Below.drew ?_ | refine below_drewN' ?_ _))))

set_option maxHeartbeats 2000000 in
theorem r9_dec_any (x : Nat) (hx : x < 18446744073709551616) (w : World) : Calls Tryz.prog 64 #[.int .u64 x] w (RetB (Fl.dec x).val w) := by
  obtain ⟨b1, b2, b3, b4⟩ := Fl.dec_bounds x
  have hk := fun w => r9_finite_any x hx w
  have hsp := fun w => r3_split_any x hx w
  by_cases h : 3 ≤ Fl.kind x
  · have hd := Lib.hid (show Fl.dec x = ⟨false, [], 0, 11⟩ from if_pos h)
    obtain ⟨k, hkk⟩ : ∃ k, k = Fl.kind x := ⟨_, rfl⟩
    rw [← hkk] at hk h
    rw [decide_eq_false (show ¬ k < 3 by omega)] at hk
    have HK := Lib.hid hk
    clear hkk hk hsp b1 b2 b3 b4
    go_enter Tryz.func64, Tryz.ntmps64
    go_wp2_with (go_at_call 128; (with_reducible refine (HK.out _).mono ?_); rintro e w' ⟨rfl, rfl⟩)
    refine bodyPost_ret (v := .tuple #[.agg #[.bool false, .string ⟨#[]⟩, .int .i64 0], .int .i64 11]) (by simp [results, Tryz.results64, go_sem]; done) rfl (RetB.of (by rw [hd.out]; first | done | rfl) (by (repeat (first | exact Below.refl _ _ | assumption | refine Below.setCell ?_ (by first | omega | (simp <;> omega)) _ | refine Below.alloc ?_ (by first | omega | (simp <;> omega)) _ | refine Below.drew ?_ | refine below_drewN' ?_ _))))
  · have hd := Lib.hid (show Fl.dec x = Fl.okd (Fl.of (Fl.neg x) (Fl.mant x) (Fl.expn x)) from if_neg h)
    obtain ⟨k, hkk⟩ : ∃ k, k = Fl.kind x := ⟨_, rfl⟩
    obtain ⟨m, hm⟩ : ∃ k, k = Fl.mant x := ⟨_, rfl⟩
    obtain ⟨e, he⟩ : ∃ k, k = Fl.expn x := ⟨_, rfl⟩
    obtain ⟨s, hs⟩ : ∃ k, k = Fl.neg x := ⟨_, rfl⟩
    rw [← hm, ← he, ← hs] at hsp hd
    rw [← hm] at b1 b2
    rw [← he] at b3 b4
    rw [← hkk] at hk h
    rw [decide_eq_true (show k < 3 by omega)] at hk
    have hml : m < 18446744073709551616 := b1
    obtain ⟨e3, e4⟩ := b3
    have HK := Lib.hid hk; have HSP := Lib.hid hsp
    have HO := Lib.hid (fun w => r3_nat_any m hml w)
    have HEX := Lib.hid (fun w1 a1 c1 (hs : Sl w1 a1 c1 (Na.limbs m)) (hz : a1 = none → c1 = 0) => r9_of_any s a1 c1 m e w1 hs hz b1 (by omega))
    obtain ⟨R, hR⟩ : ∃ R, R = Fl.of s m e := ⟨_, rfl⟩
    rw [← hR] at hd HEX
    clear hkk hm he hs hk hsp b1 b2 hR
    go_enter Tryz.func64, Tryz.ntmps64
    go_wp2_with (first
      | (go_at_call 128; (with_reducible refine (HK.out _).mono ?_); rintro e w' ⟨rfl, rfl⟩)
      | (go_at_call 27; (with_reducible refine (HSP.out _).mono ?_); rintro e w' ⟨rfl, rfl⟩)
      | (go_at_call 29; (with_reducible refine (HO.out _).mono ?_); rintro e w1 ⟨a1, c1, rfl, s1, z1, -, hb1⟩; have zz1 := (Z3.new w).on hb1; have hB1 : Below w.heap.size w w1 := Below.trans ((Below.refl _ _).alloc (Nat.le_refl _) _) (hb1.mono (by simp)))
      | (go_at_call 129; (with_reducible refine (HEX.out _ _ _ s1 z1).mono ?_); rintro e w2 ⟨rfl, hb2⟩; have hB2 := hB1.trans (hb2.mono hB1.size); have zz2 := zz1.on hb2; obtain ⟨y0, y1, y2, yf, yl⟩ := zz2; have yf0 := yf 0; have yf1 := yf 1; have yf2 := yf 2; have yn : ¬ w.heap.size = w2.heap.size := (by omega); have yn' : ¬ w2.heap.size = w.heap.size := (by omega)))
    refine bodyPost_ret (v := .tuple #[Fl.dv R, .int .i64 0]) (by simp [results, Tryz.results64, go_sem, y0, y1, y2, yf0, yf1, yf2, yn, yn', yl]; done) rfl (RetB.of (by rw [hd.out]; first | done | rfl) (by (repeat (first | exact Below.refl _ _ | assumption | refine Below.setCell ?_ (by first | omega | (simp <;> omega)) _ | refine Below.alloc ?_ (by first | omega | (simp <;> omega)) _ | refine Below.drew ?_ | refine below_drewN' ?_ _))))

set_option maxHeartbeats 2000000 in
theorem ex_mid_any (x : Nat) (hx : x < 18446744073709551616) (w : World) (ht : Tab w) : Calls Tryz.prog 31 #[.int .u64 x] w (RetB (Fl.mid x).val w) := by
  obtain ⟨b1, b2, b3, b4⟩ := Fl.dec_bounds x
  have hk := fun w => fl_kind_any x hx w
  have hsp := fun w => fl_split_any x hx w
  by_cases h : 3 ≤ Fl.kind x
  · have hd := Lib.hid (show Fl.mid x = ⟨false, [], 0, 11⟩ from if_pos h)
    obtain ⟨k, hkk⟩ : ∃ k, k = Fl.kind x := ⟨_, rfl⟩
    rw [← hkk] at hk h
    have HK := Lib.hid hk
    clear hkk hk hsp b1 b2 b3 b4
    go_enter Tryz.func31, Tryz.ntmps31
    go_wp2_with (go_at_call 69; (with_reducible refine (HK.out _).mono ?_); rintro e w' ⟨rfl, rfl⟩)
    refine bodyPost_ret (v := .tuple #[.agg #[.bool false, .string ⟨#[]⟩, .int .i64 0], .int .i64 11]) (by simp [results, Tryz.results31, go_sem]; done) rfl (RetB.of (by rw [hd.out]; first | done | rfl) (by (repeat (first | exact Below.refl _ _ | assumption | refine Below.setCell ?_ (by first | omega | (simp <;> omega)) _ | refine Below.alloc ?_ (by first | omega | (simp <;> omega)) _ | refine Below.drew ?_ | refine below_drewN' ?_ _))))
  · have hd := Lib.hid (show Fl.mid x = Fl.okd (Fl.of (Fl.neg x) (2 * (Fl.mant x) + 1) (Fl.expn x - 1)) from if_neg h)
    obtain ⟨k, hkk⟩ : ∃ k, k = Fl.kind x := ⟨_, rfl⟩
    obtain ⟨m, hm⟩ : ∃ k, k = Fl.mant x := ⟨_, rfl⟩
    obtain ⟨e, he⟩ : ∃ k, k = Fl.expn x := ⟨_, rfl⟩
    obtain ⟨s, hs⟩ : ∃ k, k = Fl.neg x := ⟨_, rfl⟩
    rw [← hm, ← he, ← hs] at hsp hd
    rw [← hm] at b1 b2
    rw [← he] at b3 b4
    rw [← hkk] at hk h
    have hml : (2 * m + 1) < 18446744073709551616 := b2
    obtain ⟨e3, e4⟩ := b3
    have HK := Lib.hid hk; have HSP := Lib.hid hsp
    have HO := Lib.hid (fun w => na_of_any (2 * m + 1) hml w)
    have HEX := Lib.hid (fun w1 g (hb : Below w.heap.size w w1) (hk : Blk w1 g (Na.limbs (2 * m + 1))) => ex_of_any s (some ⟨g, 0, none⟩) (Na.limbs (2 * m + 1)).length (2 * m + 1) (e - 1) w1 (hk.sl (Na.ok_limbs (2 * m + 1)) (Nat.le_refl _)) b2 (by omega) (ht.below hb))
    obtain ⟨R, hR⟩ : ∃ R, R = Fl.of s (2 * m + 1) (e - 1) := ⟨_, rfl⟩
    rw [← hR] at hd HEX
    obtain ⟨m2, hm2⟩ : ∃ k, k = 2 * m + 1 := ⟨_, rfl⟩
    have hm2i : 2 * (m : Int) + 1 = (m2 : Int) := by omega
    rw [← hm2] at hml
    simp only [← hm2] at HO HEX
    clear hm2
    clear hkk hm he hs hk hsp b1 b2 hR
    go_enter Tryz.func31, Tryz.ntmps31
    go_wp2_with (first
      | (go_at_call 69; (with_reducible refine (HK.out _).mono ?_); rintro e w' ⟨rfl, rfl⟩)
      | (go_at_call 70; (with_reducible refine (HSP.out _).mono ?_); rintro e w' ⟨rfl, rfl⟩)
      | (go_at_call 72; (with_reducible refine (HO.out _).mono ?_); rintro e w1 ⟨g, rfl, hg, hk, hb1⟩; have zz1 := (Z3.new w).on hb1; have hB1 : Below w.heap.size w w1 := Below.trans ((Below.refl _ _).alloc (Nat.le_refl _) _) (hb1.mono (by simp)))
      | (go_at_call 71; (with_reducible refine (HEX.out _ _ hB1 hk).mono ?_); rintro e w2 ⟨rfl, hb2⟩; have hB2 := hB1.trans (hb2.mono hB1.size); have zz2 := zz1.on hb2; obtain ⟨y0, y1, y2, yf, yl⟩ := zz2; have yf0 := yf 0; have yf1 := yf 1; have yf2 := yf 2; have yn : ¬ w.heap.size = w2.heap.size := (by omega); have yn' : ¬ w2.heap.size = w.heap.size := (by omega)))
    refine bodyPost_ret (v := .tuple #[Fl.dv R, .int .i64 0]) (by simp [results, Tryz.results31, go_sem, y0, y1, y2, yf0, yf1, yf2, yn, yn', yl]; done) rfl (RetB.of (by rw [hd.out]; first | done | rfl) (by (repeat (first | exact Below.refl _ _ | assumption | refine Below.setCell ?_ (by first | omega | (simp <;> omega)) _ | refine Below.alloc ?_ (by first | omega | (simp <;> omega)) _ | refine Below.drew ?_ | refine below_drewN' ?_ _))))

theorem Fl.dec_fine (x : Nat) (h : Fl.kind x < 3) : (Fl.dec x).e = 0 ∧ Dc.right (Fl.dec x).l (Fl.dec x).x = true := by
  rw [Fl.dec, if_neg (by omega)]
  exact ⟨rfl, (Fl.dec_worth x h).1.right⟩

set_option maxHeartbeats 2000000 in
theorem ex_sig_any (x : Nat) (k way : Int) (hx : x < 18446744073709551616) (hk : -9223372036854775808 ≤ k ∧ k ≤ 9223372036854775807) (w : World) (ht : Tab w) :
    Calls Tryz.prog 68 #[.int .u64 x, .int .i64 k, .int .i64 way] w (RetB (Fl.sig x k way).val w) := by
  have hde := fun w1 (hb : Below w.heap.size w w1) => ex_dec_any x hx w1 (ht.below hb)
  by_cases h : 3 ≤ Fl.kind x
  · have hd := Lib.hid (show Fl.sig x k way = ⟨false, [], 0, 11⟩ from if_pos h)
    rw [show Fl.dec x = ⟨false, [], 0, 11⟩ from if_pos h] at hde
    have HD := Lib.hid (show ∀ w1, Below w.heap.size w w1 → Calls Tryz.prog 18 #[.int .u64 x] w1 (RetB (.tuple #[.agg #[.bool false, .string ⟨#[]⟩, .int .i64 0], .int .i64 11]) w1) from hde)
    clear h hde
    go_enter Tryz.func68, Tryz.ntmps68
    go_wp2_with (first
      | (go_at_call 18; (with_reducible refine (HD.out _ ?_).mono ?_); exact (Below.refl _ _).alloc (Nat.le_refl _) _; rintro e w1 ⟨rfl, hb1⟩; have zz1 := (Z3.new w).on hb1; have hB1 : Below w.heap.size w w1 := Below.trans ((Below.refl _ _).alloc (Nat.le_refl _) _) (hb1.mono (by simp)); obtain ⟨y0, y1, y2, yf, yl⟩ := zz1; have yf0 := yf 0; have yf1 := yf 1; have yf2 := yf 2; have yn : ¬ w.heap.size = w1.heap.size := (by omega); have yn' : ¬ w1.heap.size = w.heap.size := (by omega)))
    refine bodyPost_ret (v := .tuple #[.agg #[.bool false, .string ⟨#[]⟩, .int .i64 0], .int .i64 11]) (by simp [results, Tryz.results68, go_sem, y0, y1, y2, yf0, yf1, yf2, yn, yn', yl]; done) rfl (RetB.of (by rw [hd.out]; first | done | rfl) (by (repeat (first | exact Below.refl _ _ | assumption | refine Below.setCell ?_ (by first | omega | (simp <;> omega)) _ | refine Below.alloc ?_ (by first | omega | (simp <;> omega)) _ | refine Below.drew ?_ | refine below_drewN' ?_ _))))
  · obtain ⟨f1, f2⟩ := Fl.dec_fine x (by omega)
    have hd := (show Fl.sig x k way = Dc.sig (Fl.dec x).n (Fl.dec x).l (Fl.dec x).x k way from if_neg h)
    have hlen := Dc.right_len f2
    obtain ⟨hx1, hx2⟩ := Dc.right_exp f2
    obtain ⟨⟨rn, rl, rx, re⟩, hR⟩ : ∃ R, R = Fl.dec x := ⟨_, rfl⟩
    rw [← hR] at hd hde f1 hlen hx1 hx2
    simp only at f1 hd hlen hx1 hx2
    subst f1
    obtain ⟨s, hs⟩ : ∃ s : ByteArray, s = ⟨rl.toArray⟩ := ⟨_, rfl⟩
    have hsl : s.data.toList = rl := by rw [hs]
    have hss : s.size = rl.length := by rw [hs, size_mk]
    have hsg := fun w1 => d_sig_any rn s rx k way w1 (by omega) (by omega) hk
    rw [hsl, ← hd] at hsg
    have HSG := Lib.hid hsg
    have HD := Lib.hid (show ∀ w1, Below w.heap.size w w1 → Calls Tryz.prog 18 #[.int .u64 x] w1 (RetB (.tuple #[.agg #[.bool rn, .string s, .int .i64 rx], .int .i64 0]) w1) from by rw [hs]; exact hde)
    obtain ⟨R, hRR⟩ : ∃ R, R = Fl.sig x k way := ⟨_, rfl⟩
    rw [← hRR] at HSG ⊢
    clear h hde hd hR hs hsl hsg hRR f2
    go_enter Tryz.func68, Tryz.ntmps68
    go_wp2_with (first
      | (go_at_call 18; (with_reducible refine (HD.out _ ?_).mono ?_); exact (Below.refl _ _).alloc (Nat.le_refl _) _; rintro e w1 ⟨rfl, hb1⟩; have zz1 := (Z3.new w).on hb1; have hB1 : Below w.heap.size w w1 := Below.trans ((Below.refl _ _).alloc (Nat.le_refl _) _) (hb1.mono (by simp)); have hsz1 := hB1.size)
      | (go_at_call 120; (with_reducible refine (HSG.out _).mono ?_); rintro e w2 ⟨rfl, hb2⟩; have hB2 : Below w.heap.size w w2 := Below.trans (by (repeat (first | exact Below.refl _ _ | assumption | refine Below.setCell ?_ (by first | omega | (simp <;> omega)) _ | refine Below.alloc ?_ (by first | omega | (simp <;> omega)) _ | refine Below.drew ?_ | refine below_drewN' ?_ _))) (hb2.mono (by have := hB1.size; simp; omega)); have zz2 := Z3.step zz1 hb2; obtain ⟨y0, y1, y2, yf, yl⟩ := zz2; have yf0 := yf 0; have yf1 := yf 1; have yf2 := yf 2; have yn : ¬ w.heap.size = w2.heap.size := (by omega); have yn' : ¬ w2.heap.size = w.heap.size := (by omega)))
    refine bodyPost_ret (v := .tuple #[Fl.dv R, .int .i64 R.e]) (by simp [results, Tryz.results68, go_sem, y0, y1, y2, yf0, yf1, yf2, yn, yn', yl]; done) rfl (RetB.of rfl (by (repeat (first | exact Below.refl _ _ | assumption | refine Below.setCell ?_ (by first | omega | (simp <;> omega)) _ | refine Below.alloc ?_ (by first | omega | (simp <;> omega)) _ | refine Below.drew ?_ | refine below_drewN' ?_ _))))

set_option maxHeartbeats 2000000 in
theorem r9_sig_any (x : Nat) (k way : Int) (hx : x < 18446744073709551616) (hk : -9223372036854775808 ≤ k ∧ k ≤ 9223372036854775807) (w : World) :
    Calls Tryz.prog 125 #[.int .u64 x, .int .i64 k, .int .i64 way] w (RetB (Fl.sig x k way).val w) := by
  have hde := fun w1 (hb : Below w.heap.size w w1) => r9_dec_any x hx w1
  by_cases h : 3 ≤ Fl.kind x
  · have hd := Lib.hid (show Fl.sig x k way = ⟨false, [], 0, 11⟩ from if_pos h)
    rw [show Fl.dec x = ⟨false, [], 0, 11⟩ from if_pos h] at hde
    have HD := Lib.hid (show ∀ w1, Below w.heap.size w w1 → Calls Tryz.prog 64 #[.int .u64 x] w1 (RetB (.tuple #[.agg #[.bool false, .string ⟨#[]⟩, .int .i64 0], .int .i64 11]) w1) from hde)
    clear h hde
    go_enter Tryz.func125, Tryz.ntmps125
    go_wp2_with (first
      | (go_at_call 64; (with_reducible refine (HD.out _ ?_).mono ?_); exact (Below.refl _ _).alloc (Nat.le_refl _) _; rintro e w1 ⟨rfl, hb1⟩; have zz1 := (Z3.new w).on hb1; have hB1 : Below w.heap.size w w1 := Below.trans ((Below.refl _ _).alloc (Nat.le_refl _) _) (hb1.mono (by simp)); obtain ⟨y0, y1, y2, yf, yl⟩ := zz1; have yf0 := yf 0; have yf1 := yf 1; have yf2 := yf 2; have yn : ¬ w.heap.size = w1.heap.size := (by omega); have yn' : ¬ w1.heap.size = w.heap.size := (by omega)))
    refine bodyPost_ret (v := .tuple #[.agg #[.bool false, .string ⟨#[]⟩, .int .i64 0], .int .i64 11]) (by simp [results, Tryz.results125, go_sem, y0, y1, y2, yf0, yf1, yf2, yn, yn', yl]; done) rfl (RetB.of (by rw [hd.out]; first | done | rfl) (by (repeat (first | exact Below.refl _ _ | assumption | refine Below.setCell ?_ (by first | omega | (simp <;> omega)) _ | refine Below.alloc ?_ (by first | omega | (simp <;> omega)) _ | refine Below.drew ?_ | refine below_drewN' ?_ _))))
  · obtain ⟨f1, f2⟩ := Fl.dec_fine x (by omega)
    have hd := (show Fl.sig x k way = Dc.sig (Fl.dec x).n (Fl.dec x).l (Fl.dec x).x k way from if_neg h)
    have hlen := Dc.right_len f2
    obtain ⟨hx1, hx2⟩ := Dc.right_exp f2
    obtain ⟨⟨rn, rl, rx, re⟩, hR⟩ : ∃ R, R = Fl.dec x := ⟨_, rfl⟩
    rw [← hR] at hd hde f1 hlen hx1 hx2
    simp only at f1 hd hlen hx1 hx2
    subst f1
    obtain ⟨s, hs⟩ : ∃ s : ByteArray, s = ⟨rl.toArray⟩ := ⟨_, rfl⟩
    have hsl : s.data.toList = rl := by rw [hs]
    have hss : s.size = rl.length := by rw [hs, size_mk]
    have hsg := fun w1 => r7_sig_any rn s rx k way w1 (by omega) (by omega) hk
    rw [hsl, ← hd] at hsg
    have HSG := Lib.hid hsg
    have HD := Lib.hid (show ∀ w1, Below w.heap.size w w1 → Calls Tryz.prog 64 #[.int .u64 x] w1 (RetB (.tuple #[.agg #[.bool rn, .string s, .int .i64 rx], .int .i64 0]) w1) from by rw [hs]; exact hde)
    obtain ⟨R, hRR⟩ : ∃ R, R = Fl.sig x k way := ⟨_, rfl⟩
    rw [← hRR] at HSG ⊢
    clear h hde hd hR hs hsl hsg hRR f2
    go_enter Tryz.func125, Tryz.ntmps125
    go_wp2_with (first
      | (go_at_call 64; (with_reducible refine (HD.out _ ?_).mono ?_); exact (Below.refl _ _).alloc (Nat.le_refl _) _; rintro e w1 ⟨rfl, hb1⟩; have zz1 := (Z3.new w).on hb1; have hB1 : Below w.heap.size w w1 := Below.trans ((Below.refl _ _).alloc (Nat.le_refl _) _) (hb1.mono (by simp)); have hsz1 := hB1.size)
      | (go_at_call 65; (with_reducible refine (HSG.out _).mono ?_); rintro e w2 ⟨rfl, hb2⟩; have hB2 : Below w.heap.size w w2 := Below.trans (by (repeat (first | exact Below.refl _ _ | assumption | refine Below.setCell ?_ (by first | omega | (simp <;> omega)) _ | refine Below.alloc ?_ (by first | omega | (simp <;> omega)) _ | refine Below.drew ?_ | refine below_drewN' ?_ _))) (hb2.mono (by have := hB1.size; simp; omega)); have zz2 := Z3.step zz1 hb2; obtain ⟨y0, y1, y2, yf, yl⟩ := zz2; have yf0 := yf 0; have yf1 := yf 1; have yf2 := yf 2; have yn : ¬ w.heap.size = w2.heap.size := (by omega); have yn' : ¬ w2.heap.size = w.heap.size := (by omega)))
    refine bodyPost_ret (v := .tuple #[Fl.dv R, .int .i64 R.e]) (by simp [results, Tryz.results125, go_sem, y0, y1, y2, yf0, yf1, yf2, yn, yn', yl]; done) rfl (RetB.of rfl (by (repeat (first | exact Below.refl _ _ | assumption | refine Below.setCell ?_ (by first | omega | (simp <;> omega)) _ | refine Below.alloc ?_ (by first | omega | (simp <;> omega)) _ | refine Below.drew ?_ | refine below_drewN' ?_ _))))

set_option maxHeartbeats 2000000 in
theorem ex_place_any (x : Nat) (k way : Int) (hx : x < 18446744073709551616) (hk : -9223372036854775808 ≤ k ∧ k ≤ 9223372036854775807) (w : World) (ht : Tab w) :
    Calls Tryz.prog 24 #[.int .u64 x, .int .i64 k, .int .i64 way] w (RetB (Fl.place x k way).val w) := by
  have hde := fun w1 (hb : Below w.heap.size w w1) => ex_dec_any x hx w1 (ht.below hb)
  by_cases h : 3 ≤ Fl.kind x
  · have hd := Lib.hid (show Fl.place x k way = ⟨false, [], 0, 11⟩ from if_pos h)
    rw [show Fl.dec x = ⟨false, [], 0, 11⟩ from if_pos h] at hde
    have HD := Lib.hid (show ∀ w1, Below w.heap.size w w1 → Calls Tryz.prog 18 #[.int .u64 x] w1 (RetB (.tuple #[.agg #[.bool false, .string ⟨#[]⟩, .int .i64 0], .int .i64 11]) w1) from hde)
    clear h hde
    go_enter Tryz.func24, Tryz.ntmps24
    go_wp2_with (first
      | (go_at_call 18; (with_reducible refine (HD.out _ ?_).mono ?_); exact (Below.refl _ _).alloc (Nat.le_refl _) _; rintro e w1 ⟨rfl, hb1⟩; have zz1 := (Z3.new w).on hb1; have hB1 : Below w.heap.size w w1 := Below.trans ((Below.refl _ _).alloc (Nat.le_refl _) _) (hb1.mono (by simp)); obtain ⟨y0, y1, y2, yf, yl⟩ := zz1; have yf0 := yf 0; have yf1 := yf 1; have yf2 := yf 2; have yn : ¬ w.heap.size = w1.heap.size := (by omega); have yn' : ¬ w1.heap.size = w.heap.size := (by omega)))
    refine bodyPost_ret (v := .tuple #[.agg #[.bool false, .string ⟨#[]⟩, .int .i64 0], .int .i64 11]) (by simp [results, Tryz.results24, go_sem, y0, y1, y2, yf0, yf1, yf2, yn, yn', yl]; done) rfl (RetB.of (by rw [hd.out]; first | done | rfl) (by (repeat (first | exact Below.refl _ _ | assumption | refine Below.setCell ?_ (by first | omega | (simp <;> omega)) _ | refine Below.alloc ?_ (by first | omega | (simp <;> omega)) _ | refine Below.drew ?_ | refine below_drewN' ?_ _))))
  · obtain ⟨f1, f2⟩ := Fl.dec_fine x (by omega)
    have hd := (show Fl.place x k way = Dc.place (Fl.dec x).n (Fl.dec x).l (Fl.dec x).x k way from if_neg h)
    have hlen := Dc.right_len f2
    obtain ⟨hx1, hx2⟩ := Dc.right_exp f2
    obtain ⟨⟨rn, rl, rx, re⟩, hR⟩ : ∃ R, R = Fl.dec x := ⟨_, rfl⟩
    rw [← hR] at hd hde f1 hlen hx1 hx2
    simp only at f1 hd hlen hx1 hx2
    subst f1
    obtain ⟨s, hs⟩ : ∃ s : ByteArray, s = ⟨rl.toArray⟩ := ⟨_, rfl⟩
    have hsl : s.data.toList = rl := by rw [hs]
    have hss : s.size = rl.length := by rw [hs, size_mk]
    have hsg := fun w1 => d_place_any rn s rx k way w1 (by omega) (by omega) hk
    rw [hsl, ← hd] at hsg
    have HSG := Lib.hid hsg
    have HD := Lib.hid (show ∀ w1, Below w.heap.size w w1 → Calls Tryz.prog 18 #[.int .u64 x] w1 (RetB (.tuple #[.agg #[.bool rn, .string s, .int .i64 rx], .int .i64 0]) w1) from by rw [hs]; exact hde)
    obtain ⟨R, hRR⟩ : ∃ R, R = Fl.place x k way := ⟨_, rfl⟩
    rw [← hRR] at HSG ⊢
    clear h hde hd hR hs hsl hsg hRR f2
    go_enter Tryz.func24, Tryz.ntmps24
    go_wp2_with (first
      | (go_at_call 18; (with_reducible refine (HD.out _ ?_).mono ?_); exact (Below.refl _ _).alloc (Nat.le_refl _) _; rintro e w1 ⟨rfl, hb1⟩; have zz1 := (Z3.new w).on hb1; have hB1 : Below w.heap.size w w1 := Below.trans ((Below.refl _ _).alloc (Nat.le_refl _) _) (hb1.mono (by simp)); have hsz1 := hB1.size)
      | (go_at_call 89; (with_reducible refine (HSG.out _).mono ?_); rintro e w2 ⟨rfl, hb2⟩; have hB2 : Below w.heap.size w w2 := Below.trans (by (repeat (first | exact Below.refl _ _ | assumption | refine Below.setCell ?_ (by first | omega | (simp <;> omega)) _ | refine Below.alloc ?_ (by first | omega | (simp <;> omega)) _ | refine Below.drew ?_ | refine below_drewN' ?_ _))) (hb2.mono (by have := hB1.size; simp; omega)); have zz2 := Z3.step zz1 hb2; obtain ⟨y0, y1, y2, yf, yl⟩ := zz2; have yf0 := yf 0; have yf1 := yf 1; have yf2 := yf 2; have yn : ¬ w.heap.size = w2.heap.size := (by omega); have yn' : ¬ w2.heap.size = w.heap.size := (by omega)))
    refine bodyPost_ret (v := .tuple #[Fl.dv R, .int .i64 R.e]) (by simp [results, Tryz.results24, go_sem, y0, y1, y2, yf0, yf1, yf2, yn, yn', yl]; done) rfl (RetB.of rfl (by (repeat (first | exact Below.refl _ _ | assumption | refine Below.setCell ?_ (by first | omega | (simp <;> omega)) _ | refine Below.alloc ?_ (by first | omega | (simp <;> omega)) _ | refine Below.drew ?_ | refine below_drewN' ?_ _))))

end Go.Proofs.YtjnkbifafbjckaaGreatDoor

/- The reference: which of two fractions is nearer. -/
namespace Go.Proofs.YtjnkbifafbjckaaGreatDoor
set_option linter.all false
open Go.RowKit

/-- A list times a small number, by the reference. -/
theorem Fl.times1_any (a : Option Addr) (c n k : Nat) (a2 : Option Addr) (c2 : Nat) (w : World) (h : Sl w a c (Na.limbs n)) (h2 : Sl w a2 c2 (Na.limbs k)) (hn : n < Na.B ^ 60) (hk : k < Na.B ^ 2) :
    Calls Tryz.prog 46 #[.slice a (Na.limbs n).length c, .slice a2 (Na.limbs k).length c2] w (GivesZ (Na.limbs (n * k)) w) := by
  have hln := Na.limbs_len_le _ _ hn
  have hlk := Na.limbs_len_le _ _ hk
  have := r1_times_any a c (Na.limbs n) a2 c2 (Na.limbs k) w h h2 (by omega) (by omega)
  rwa [Na.val_limbs, Na.val_limbs] at this
theorem Fl.prod_lt {n k a b : Nat} (hn : n < Na.B ^ a) (hk : k < Na.B ^ b) : n * k < Na.B ^ (a + b) := by
  rw [Nat.pow_add]
  exact Nat.mul_lt_mul_of_lt_of_le hn (Nat.le_of_lt hk) (Nat.pow_pos (by decide))
theorem Fl.small_k {k : Nat} (h : k ≤ 100000) : k < Na.B ^ 1 := Nat.lt_of_le_of_lt h (by decide)

theorem Fl.gap_lt {r u p q : Nat} (hr : r < Na.B ^ 40) (hu : u < Na.B ^ 40) (hp : p ≤ 100000) (hq : q ≤ 100000) : Fl.gap r u p q < Na.B ^ 41 := by
  have hx : r * q < Na.B ^ 41 := Fl.prod_lt hr (Fl.small_k hq)
  have hy : u * p < Na.B ^ 41 := Fl.prod_lt hu (Fl.small_k hp)
  unfold Fl.gap; split <;> omega

end Go.Proofs.YtjnkbifafbjckaaGreatDoor

/- The reference: the nearest fraction. -/
namespace Go.Proofs.YtjnkbifafbjckaaGreatDoor
set_option linter.all false
open Go.RowKit
attribute [local go_sem] Fl.dv

/-- A fraction and an error, as they are returned. -/
def Fl.fv (f : Fl.Frac) : Value := .tuple #[.agg #[.bool f.d.n, .string ⟨f.d.l.toArray⟩, .int .i64 f.d.x, .int .i64 f.p, .int .i64 f.q], .int .i64 f.e]
/-- A result's place for a fraction, as it was made. -/
def Z5 (W : World) (b : Nat) : Prop := W.cell? ⟨b, 0, none⟩ = some (.bool false) ∧ W.cell? ⟨b, 1, none⟩ = some (.string ⟨#[]⟩) ∧ W.cell? ⟨b, 2, none⟩ = some (.int .i64 0) ∧ W.cell? ⟨b, 3, none⟩ = some (.int .i64 0) ∧ W.cell? ⟨b, 4, none⟩ = some (.int .i64 0) ∧ (∀ o, W.frozen? ⟨b, o, none⟩ = false) ∧ b < W.heap.size
theorem Z5.new (w : World) (T : TypeId) : Z5 (w.alloc (Obj.cells #[Value.bool false, Value.string ⟨#[]⟩, Value.int IntKind.i64 0, Value.int IntKind.i64 0, Value.int IntKind.i64 0] T)) w.heap.size :=
  ⟨by simp [go_sem], by simp [go_sem], by simp [go_sem], by simp [go_sem], by simp [go_sem], fun o => by
    unfold World.frozen?; simp only []
    rw [show (w.alloc (Obj.cells #[Value.bool false, Value.string ⟨#[]⟩, Value.int IntKind.i64 0, Value.int IntKind.i64 0, Value.int IntKind.i64 0] T)).heap[w.heap.size]? = some _ from heap_alloc_new w _]
    simp, by simp⟩
theorem Z5.on {W W' : World} {b : Nat} (h : Z5 W b) (hb : Below W.heap.size W W') : Z5 W' b := by
  obtain ⟨h0, h1, h2, h3, h4, hf, hl⟩ := h
  exact ⟨(hb.cell (p := ⟨b, 0, none⟩) hl).trans h0, (hb.cell (p := ⟨b, 1, none⟩) hl).trans h1, (hb.cell (p := ⟨b, 2, none⟩) hl).trans h2, (hb.cell (p := ⟨b, 3, none⟩) hl).trans h3, (hb.cell (p := ⟨b, 4, none⟩) hl).trans h4, fun o => (hb.frozen (p := ⟨b, o, none⟩) hl).trans (hf o), Nat.lt_of_lt_of_le hl hb.size⟩
theorem Z5.alloc {W : World} {b : Nat} (h : Z5 W b) (o : Obj) : Z5 (W.alloc o) b := h.on ((Below.refl _ _).alloc (Nat.le_refl _) o)
theorem Z5.step {W W1 W' : World} {b : Nat} (h : Z5 W b) (hb : Below W1.heap.size W1 W') (hW : Below W.heap.size W W1 := by first | exact Below.alloc (Below.refl _ _) (Nat.le_refl _) _ | (repeat (first | exact Below.refl _ _ | refine Below.setCell ?_ (by first | exact Nat.le_refl _ | (simp <;> omega)) _ | refine Below.alloc ?_ (by first | exact Nat.le_refl _ | (simp <;> omega)) _ | refine Below.drew ?_))) : Z5 W' b := (h.on hW).on hb

theorem Fl.two_pow_lt {k : Nat} (hk : k ≤ 1100) : 2 ^ k < Na.B ^ 40 := by
  obtain ⟨c, hc⟩ : ∃ c, c = 40 := ⟨_, rfl⟩
  have h1 : (2 : Nat) ^ k < 2 ^ (32 * c) := Nat.pow_lt_pow_right (by decide) (by omega)
  rw [Nat.pow_mul, hc] at h1
  exact h1
theorem Fl.shr_small {n k : Nat} (hn : n < Na.B ^ 60) : Na.shr (Na.limbs n) (k : Int) = (Na.limbs (n / 2 ^ k), decide (n % 2 ^ k ≠ 0), 0) := by
  have := Na.limbs_len_le _ _ hn
  rw [Na.shr, if_neg (by omega), Na.big, Na.rt_limbs, decide_eq_false (by omega), if_neg (by simp), Na.val_limbs, Int.toNat_natCast]
theorem Fl.value_small {n : Nat} (hn : n < 18446744073709551616) : Na.value (Na.limbs n) = (n, true) := by
  have := Na.limbs_len_le n 2 hn
  rw [Na.value, Na.rt_limbs, if_neg (by omega), Na.val_limbs]

section
variable (x : Nat) (hx : x < 18446744073709551616) (most : Int) (hm : -9223372036854775808 ≤ most ∧ most ≤ 9223372036854775807) (w : World)
include hx hm

end

def ratLoop9 (r u M : Nat) (wo : World) (B : Nat) (sv tv qv : Value) (wr : World) : Prop := ∃ (q : Nat) (b : Nat × Nat), q ≤ M ∧ Hid (b = Fl.best r u q) ∧ b.1 ≤ 100000 ∧ b.2 ≤ 100000 ∧ sv = .int .i64 b.1 ∧ tv = .int .i64 b.2 ∧ qv = .int .i64 ((q : Int) + 1) ∧ Hid (Z5 wr B) ∧ Hid (Below wo.heap.size wo wr)
theorem lit_one9 (w : World) : Sl (w.alloc (Obj.cells #[Value.int IntKind.u32 1] 72)) (some ⟨w.heap.size, 0, none⟩) 1 (Na.limbs 1) := by rw [Na.limbs_one]; exact lit_sl w 1 (by decide)

end Go.Proofs.YtjnkbifafbjckaaGreatDoor
