/- exact.Ratio: the nearest fraction. -/
import Derived.Test.YtjnkbifafbjckaaGreatDoorZ12
import Derived.Test.YtjnkbifafbjckaaGreatDoorZ24
namespace Go.Proofs.YtjnkbifafbjckaaGreatDoor
set_option linter.all false
open Go.RowKit
attribute [local go_sem] Fl.dv
attribute [local go_sem high] tr_guard tr_neq tr_eql

section
variable (x : Nat) (hx : x < 18446744073709551616) (most : Int) (hm : -9223372036854775808 ≤ most ∧ most ≤ 9223372036854775807) (w : World) (ht : Tab w)
include hx hm ht

set_option maxRecDepth 100000 in
set_option maxHeartbeats 1000000 in
theorem ex_ratio_none (h : 3 ≤ Fl.kind x) : Calls Tryz.prog 22 #[.int .u64 x, .int .i64 most] w (RetB (Fl.fv (Fl.ratio x most)) w) := by
  have hd := Lib.hid (show Fl.ratio x most = ⟨⟨false, [], 0, 0⟩, 0, 0, 11⟩ from if_pos h)
  have hk := fun w => fl_kind_any x hx w
  obtain ⟨k, hkk⟩ : ∃ k, k = Fl.kind x := ⟨_, rfl⟩
  rw [← hkk] at hk h
  have HK := Lib.hid hk
  clear hk hkk
  go_enter Tryz.func22, Tryz.ntmps22
  go_wp2_with (go_at_call 69; (with_reducible refine (HK.out _).mono ?_); rintro e w' ⟨rfl, rfl⟩)
  refine bodyPost_ret (v := .tuple #[.agg #[.bool false, .string ⟨#[]⟩, .int .i64 0, .int .i64 0, .int .i64 0], .int .i64 11]) (by simp [results, Tryz.results22, go_sem]; done) rfl (RetB.of (by rw [hd.out]; first | done | rfl) (by (repeat (first | exact Below.refl _ _ | assumption | refine Below.setCell ?_ (by first | omega | (simp <;> omega)) _ | refine Below.alloc ?_ (by first | omega | (simp <;> omega)) _ | refine Below.drew ?_ | refine below_drewN' ?_ _))))

set_option maxRecDepth 100000 in
set_option maxHeartbeats 1000000 in
theorem ex_ratio_arg (h : Fl.kind x < 3) (hmo : most < 1 ∨ 9999 < most) : Calls Tryz.prog 22 #[.int .u64 x, .int .i64 most] w (RetB (Fl.fv (Fl.ratio x most)) w) := by
  have hd := Lib.hid (show Fl.ratio x most = ⟨⟨false, [], 0, 0⟩, 0, 0, 1⟩ by rw [Fl.ratio, if_neg (by omega), if_pos hmo])
  have hk := fun w => fl_kind_any x hx w
  obtain ⟨k, hkk⟩ : ∃ k, k = Fl.kind x := ⟨_, rfl⟩
  rw [← hkk] at hk h
  have HK := Lib.hid hk
  clear hk hkk
  by_cases h1 : most < 1
  · clear hmo
    go_enter Tryz.func22, Tryz.ntmps22
    go_wp2_with (go_at_call 69; (with_reducible refine (HK.out _).mono ?_); rintro e w' ⟨rfl, rfl⟩)
    refine bodyPost_ret (v := .tuple #[.agg #[.bool false, .string ⟨#[]⟩, .int .i64 0, .int .i64 0, .int .i64 0], .int .i64 1]) (by simp [results, Tryz.results22, go_sem]; done) rfl (RetB.of (by rw [hd.out]; first | done | rfl) (by (repeat (first | exact Below.refl _ _ | assumption | refine Below.setCell ?_ (by first | omega | (simp <;> omega)) _ | refine Below.alloc ?_ (by first | omega | (simp <;> omega)) _ | refine Below.drew ?_ | refine below_drewN' ?_ _))))
  · have h2 : 9999 < most := by omega
    have h1' : decide (most < 1) = false := decide_eq_false h1
    clear hmo
    go_enter Tryz.func22, Tryz.ntmps22
    go_wp2_with (go_at_call 69; (with_reducible refine (HK.out _).mono ?_); rintro e w' ⟨rfl, rfl⟩)
    refine bodyPost_ret (v := .tuple #[.agg #[.bool false, .string ⟨#[]⟩, .int .i64 0, .int .i64 0, .int .i64 0], .int .i64 1]) (by simp [results, Tryz.results22, go_sem]; done) rfl (RetB.of (by rw [hd.out]; first | done | rfl) (by (repeat (first | exact Below.refl _ _ | assumption | refine Below.setCell ?_ (by first | omega | (simp <;> omega)) _ | refine Below.alloc ?_ (by first | omega | (simp <;> omega)) _ | refine Below.drew ?_ | refine below_drewN' ?_ _))))

set_option maxRecDepth 100000 in
set_option maxHeartbeats 2000000 in
theorem ex_ratio_up (h : Fl.kind x < 3) (hmo : 1 ≤ most ∧ most ≤ 9999) (he : 0 ≤ Fl.expn x) : Calls Tryz.prog 22 #[.int .u64 x, .int .i64 most] w (RetB (Fl.fv (Fl.ratio x most)) w) := by
  have hd := Lib.hid (show Fl.ratio x most = ⟨Fl.of (Fl.neg x) (Fl.mant x) (Fl.expn x), 0, 1, 0⟩ by rw [Fl.ratio, if_neg (by omega), if_neg (by omega), if_pos he])
  obtain ⟨b1, -, b3, -⟩ := Fl.dec_bounds x
  have hk := fun w => fl_kind_any x hx w
  have hsp := fun w => fl_split_any x hx w
  obtain ⟨k, hkk⟩ : ∃ k, k = Fl.kind x := ⟨_, rfl⟩
  rw [← hkk] at hk h
  have HK := Lib.hid hk
  obtain ⟨m, hm'⟩ : ∃ k, k = Fl.mant x := ⟨_, rfl⟩
  obtain ⟨e, he'⟩ : ∃ k, k = Fl.expn x := ⟨_, rfl⟩
  obtain ⟨s, hs'⟩ : ∃ k, k = Fl.neg x := ⟨_, rfl⟩
  rw [← hm', ← he', ← hs'] at hsp hd
  rw [← hm'] at b1
  rw [← he'] at b3 he
  have hml : m < 18446744073709551616 := b1
  obtain ⟨e3, e4⟩ := b3
  obtain ⟨m1, m2⟩ := hmo
  have hmo1 : decide (most < 1) = false := decide_eq_false (by omega)
  have HSP := Lib.hid hsp
  have HO := Lib.hid (fun w => na_of_any m hml w)
  have HEX := Lib.hid (fun w1 g (hb : Below w.heap.size w w1) (hk : Blk w1 g (Na.limbs m)) => ex_of_any s (some ⟨g, 0, none⟩) (Na.limbs m).length m e w1 (hk.sl (Na.ok_limbs m) (Nat.le_refl _)) b1 ⟨e3, e4⟩ (ht.below hb))
  obtain ⟨R, hR⟩ : ∃ R, R = Fl.of s m e := ⟨_, rfl⟩
  rw [← hR] at hd HEX
  clear hm' he' hs' hk hsp b1 hR hkk
  go_enter Tryz.func22, Tryz.ntmps22
  go_wp2_with (first
    | (go_at_call 69; (with_reducible refine (HK.out _).mono ?_); rintro e w' ⟨rfl, rfl⟩)
    | (go_at_call 70; (with_reducible refine (HSP.out _).mono ?_); rintro e w' ⟨rfl, rfl⟩)
    | (go_at_call 72; (with_reducible refine (HO.out _).mono ?_); rintro e w1 ⟨g, rfl, hg, hk, hb1⟩; have zz1 := (Z5.new w _).on hb1; have hB1 : Below w.heap.size w w1 := Below.trans ((Below.refl _ _).alloc (Nat.le_refl _) _) (hb1.mono (by simp)))
    | (go_at_call 71; (with_reducible refine (HEX.out _ _ hB1 hk).mono ?_); rintro e w2 ⟨rfl, hb2⟩; have hB2 := hB1.trans (hb2.mono hB1.size); have zz2 := zz1.on hb2; obtain ⟨y0, y1, y2, y3, y4, yf, yl⟩ := zz2; have yf0 := yf 0; have yf1 := yf 1; have yf2 := yf 2; have yf3 := yf 3; have yf4 := yf 4))
  refine bodyPost_ret (v := .tuple #[.agg #[.bool R.n, .string ⟨R.l.toArray⟩, .int .i64 R.x, .int .i64 0, .int .i64 1], .int .i64 0]) (by simp [results, Tryz.results22, go_sem, y0, y1, y2, y3, y4, yf0, yf1, yf2, yf3, yf4, yl]; done) rfl (RetB.of (by rw [hd.out]; first | done | rfl) (by (repeat (first | exact Below.refl _ _ | assumption | refine Below.setCell ?_ (by first | omega | (simp <;> omega)) _ | refine Below.alloc ?_ (by first | omega | (simp <;> omega)) _ | refine Below.drew ?_ | refine below_drewN' ?_ _))))
end

theorem Fl.shl_small {n k : Nat} (hn : n < Na.B ^ 2) (hk : k ≤ 1200) : Na.shl (Na.limbs n) (k : Int) = (Na.limbs (n * 2 ^ k), 0) := Fl.shl_eq n k hn hk
theorem Fl.sub_small {n k : Nat} (hn : n < Na.B ^ 60) (hk : k ≤ n) : Na.sub (Na.limbs n) (Na.limbs k) = (Na.limbs (n - k), 0) := by
  have h1 := Na.limbs_len_le _ _ hn
  have h2 := Na.limbs_len_le k 60 (Nat.lt_of_le_of_lt hk hn)
  rw [Na.sub, Na.big, Na.big, Na.rt_limbs, Na.rt_limbs, decide_eq_false (by omega), decide_eq_false (by omega), if_neg (by simp), Na.val_limbs, Na.val_limbs, if_neg (by omega)]
theorem Fl.add_small {n k : Nat} (hn : n < Na.B ^ 2) (hk : k < Na.B ^ 2) : Na.add (Na.limbs n) (Na.limbs k) = (Na.limbs (n + k), 0) := by
  have h1 := Na.limbs_len_le _ _ hn
  have h2 := Na.limbs_len_le _ _ hk
  have h3 := Na.limbs_len_le (n + k) 3 (Nat.lt_of_lt_of_le (show n + k < Na.B ^ 2 + Na.B ^ 2 by omega) (by decide))
  rw [Na.add, Na.big, Na.big, Na.rt_limbs, Na.rt_limbs, decide_eq_false (by omega), decide_eq_false (by omega), if_neg (by simp), Na.val_limbs, Na.val_limbs, Na.fits, if_neg (by omega)]
def ratLoop (r u M g h : Nat) (wo : World) (qv : Value) (wr : World) : Prop := ∃ q : Nat, q ≤ M ∧ qv = .int .i64 q ∧ Hid (Tst r u g h (Fl.best r u q) wr) ∧ Hid (Two g h wo wr)
theorem Z5.two {W W' : World} {b g h : Nat} (z : Z5 W b) (x : Two g h W W') (h1 : b ≠ g) (h2 : b ≠ h) : Z5 W' b := by
  obtain ⟨h0, k1, k2, k3, k4, hf, hl⟩ := z
  have hk := x.block b h1 h2 hl
  exact ⟨(World.cell?_of_block hk).trans h0, (World.cell?_of_block hk).trans k1, (World.cell?_of_block hk).trans k2, (World.cell?_of_block hk).trans k3, (World.cell?_of_block hk).trans k4, fun o => (World.frozen?_of_block hk).trans (hf o), Nat.lt_of_lt_of_le hl x.size⟩

set_option maxRecDepth 100000 in
set_option maxHeartbeats 8000000 in
theorem ex_ratio_main (x : Nat) (hx : x < 18446744073709551616) (M : Nat) (w : World) (ht : Tab w) (h : Fl.kind x < 3) (hM : 1 ≤ M ∧ M ≤ 9999) (he : Fl.expn x < 0) :
    Calls Tryz.prog 22 #[.int .u64 x, .int .i64 M] w (RetB (Fl.fv (Fl.ratio x M)) w) := by
  obtain ⟨b1, -, b3, -⟩ := Fl.dec_bounds x
  have hm53 := Fl.mant_lt x
  have hk := fun w => fl_kind_any x hx w
  have hsp := fun w => fl_split_any x hx w
  obtain ⟨kd, hkd⟩ : ∃ k, k = Fl.kind x := ⟨_, rfl⟩
  rw [← hkd] at hk h
  have HK := Lib.hid hk
  obtain ⟨k, hkk⟩ : ∃ k : Nat, k = (-Fl.expn x).toNat := ⟨_, rfl⟩
  have hbd := Fl.best_bounds (r := Fl.mant x % 2 ^ k) (u := 2 ^ k) (Nat.mod_lt _ (Nat.pow_pos (by decide)))
  have hd : Fl.ratio x M = if Fl.best (Fl.mant x % 2 ^ k) (2 ^ k) M = (1, 1) then ⟨Fl.of (Fl.neg x) (Fl.mant x / 2 ^ k + 1) 0, 0, 1, 0⟩ else ⟨Fl.of (Fl.neg x) (Fl.mant x / 2 ^ k) 0, (Fl.best (Fl.mant x % 2 ^ k) (2 ^ k) M).1, (Fl.best (Fl.mant x % 2 ^ k) (2 ^ k) M).2, 0⟩ := by
    rw [Fl.ratio, if_neg (by omega), if_neg (by omega), if_neg (by omega), ← hkk, Int.toNat_natCast]
  obtain ⟨m, hm'⟩ : ∃ k, k = Fl.mant x := ⟨_, rfl⟩
  obtain ⟨e, he'⟩ : ∃ k, k = Fl.expn x := ⟨_, rfl⟩
  obtain ⟨s, hs'⟩ : ∃ k, k = Fl.neg x := ⟨_, rfl⟩
  rw [← hm'] at hbd b1 hm53
  rw [← he'] at b3 he hkk
  rw [← hm', ← he', ← hs'] at hsp
  rw [← hm', ← hs'] at hd
  have hk1 : k ≤ 1100 := by omega
  have hke : -e = (k : Int) := by omega
  have hul := Fl.two_pow_lt hk1
  obtain ⟨u, hu⟩ : ∃ u, u = 2 ^ k := ⟨_, rfl⟩
  have hu0 : 0 < u := by rw [hu]; exact Nat.pow_pos (by decide)
  obtain ⟨r, hr⟩ : ∃ r, r = m % u := ⟨_, rfl⟩
  have hru : r < u := by rw [hr]; exact Nat.mod_lt _ hu0
  obtain ⟨v, hv⟩ : ∃ r, r = m / u := ⟨_, rfl⟩
  have hvl : v < 9007199254740992 := by rw [hv]; exact Nat.lt_of_le_of_lt (Nat.div_le_self _ _) hm53
  have hdm : v * u ≤ m ∧ m - v * u = r := by
    have := Nat.div_add_mod m u
    rw [← hr, ← hv, Nat.mul_comm] at this
    omega
  rw [← hu] at hul
  rw [← hu, ← hr] at hbd
  rw [← hu, ← hr, ← hv] at hd
  have hrl : r < Na.B ^ 40 := Nat.lt_trans hru hul
  have hml : m < 18446744073709551616 := b1
  have hm60 : m < Na.B ^ 60 := Nat.lt_of_lt_of_le b1 (Nat.pow_le_pow_right (by decide) (by decide))
  obtain ⟨e3, e4⟩ := b3
  obtain ⟨m1, m2⟩ := hM
  have hmo1 : decide ((M : Int) < 1) = false := decide_eq_false (by omega)
  have HSP := Lib.hid hsp
  have HO := Lib.hid (fun w => na_of_any m hml w)
  have lu := Na.limbs_len_le _ _ hul
  have lm := Na.limbs_len_le m 2 b1
  have lv := Na.limbs_len_le v 2 (Nat.lt_trans hvl (by decide))
  have lr := Na.limbs_len_le _ _ hrl
  have HSHR := Lib.hid (fun (wr : World) a1 c1 (s1 : Sl wr a1 c1 (Na.limbs m)) => (by
    have := na_shr_any a1 c1 (Na.limbs m) (k : Int) wr s1 (by omega) (by omega)
    rw [Fl.shr_small hm60, ← hu, ← hv] at this
    exact this : Calls Tryz.prog 81 #[.slice a1 (Na.limbs m).length c1, .int .i64 k] wr (GivesS (Na.limbs v, decide (m % u ≠ 0), 0) wr)))
  have HSHL := Lib.hid (fun (wr : World) a1 c1 (s1 : Sl wr a1 c1 (Na.limbs v)) => (by
    have := na_shl_any a1 c1 (Na.limbs v) (k : Int) wr s1 (by omega) (by omega)
    rw [Fl.shl_small (Nat.lt_trans hvl (by decide)) (by omega), ← hu] at this
    exact this : Calls Tryz.prog 82 #[.slice a1 (Na.limbs v).length c1, .int .i64 k] wr (GivesE (Na.limbs (v * u), 0) wr)))
  have HSUB := Lib.hid (fun (wr : World) a1 c1 a2 c2 (s1 : Sl wr a1 c1 (Na.limbs m)) (s2 : Sl wr a2 c2 (Na.limbs (v * u))) => (by
    have := na_sub_any a1 c1 (Na.limbs m) a2 c2 (Na.limbs (v * u)) wr s1 s2 (by omega) (by have := Na.limbs_len_le (v * u) 2 (Nat.lt_of_le_of_lt hdm.1 b1); omega)
    rw [Fl.sub_small hm60 hdm.1, hdm.2] at this
    exact this : Calls Tryz.prog 83 #[.slice a1 (Na.limbs m).length c1, .slice a2 (Na.limbs (v * u)).length c2] wr (GivesE (Na.limbs r, 0) wr)))
  have HUN := Lib.hid (fun (wr : World) => (by
    have := na_shl_any _ _ (Na.limbs 1) (k : Int) _ (lit_one9 wr) (by rw [Na.limbs_one]; simp) (by omega)
    rw [Fl.shl_small (by decide) (by omega), Nat.one_mul, ← hu, Na.limbs_one] at this
    exact this : Calls Tryz.prog 82 #[.slice (some ⟨wr.heap.size, 0, none⟩) 1 1, .int .i64 k] (wr.alloc (Obj.cells #[Value.int IntKind.u32 1] 72)) (GivesE (Na.limbs u, 0) (wr.alloc (Obj.cells #[Value.int IntKind.u32 1] 72)))))
  have HD := Lib.hid hd; have HBD := Lib.hid hbd; have HT := Lib.hid ht
  have HU := Lib.hid hu
  clear hd hbd hm' he' hs' hk hsp b1 hkk hkd hr hv hu hm53 ht hdm
  go_enter Tryz.func22, Tryz.ntmps22
  go_wp2_with (first
    | (go_at_call 69; (with_reducible refine (HK.out _).mono ?_); rintro e w' ⟨rfl, rfl⟩)
    | (go_at_call 70; (with_reducible refine (HSP.out _).mono ?_); rintro e w' ⟨rfl, rfl⟩)
    | (go_at_call 72; (with_reducible refine (HO.out _).mono ?_); rintro e w1 ⟨g1, rfl, hg1, hk1', hb1⟩; have s1 := hk1'.sl (Na.ok_limbs m) (Nat.le_refl _); have zz1 := (Z5.new w _).on hb1; have hB1 : Below w.heap.size w w1 := Below.trans ((Below.refl _ _).alloc (Nat.le_refl _) _) (hb1.mono (by simp)))
    | (go_at_call 81; (with_reducible refine (HSHR.out _ _ _ s1).mono ?_); rintro e w2 ⟨a2, c2, rfl, s2, -, hb2⟩; have zz2 := zz1.on hb2; have hB2 := hB1.trans (hb2.mono hB1.size))
    | (go_at_call 82; (with_reducible refine (HSHL.out _ _ _ s2).mono ?_); rintro e w3 ⟨a3, c3, rfl, s3, -, hb3⟩; have zz3 := zz2.on hb3; have hB3 := hB2.trans (hb3.mono hB2.size); have s23 := s2.on hb3)
    | (go_at_call 72; (with_reducible refine (HO.out _).mono ?_); rintro e w4 ⟨g4, rfl, hg4, hk4, hb4⟩; have s4 := hk4.sl (Na.ok_limbs m) (Nat.le_refl _); have zz4 := zz3.on hb4; have hB4 := hB3.trans (hb4.mono hB3.size); have s24 := s23.on hb4; have s34 := s3.on hb4)
    | (go_at_call 83; (with_reducible refine (HSUB.out _ _ _ _ _ s4 s34).mono ?_); rintro e w5 ⟨a5, c5, rfl, s5, -, hb5⟩; have zz5 := zz4.on hb5; have hB5 := hB4.trans (hb5.mono hB4.size); have s25 := s24.on hb5)
    | (go_at_call 82; (with_reducible refine (HUN.out _).mono ?_); rintro e w6 ⟨a6, c6, rfl, s6, -, hb6⟩; have hba6 : Below w5.heap.size w5 w6 := Below.trans ((Below.refl _ _).alloc (Nat.le_refl _) _) (hb6.mono (by simp)); have zz6 := zz5.on hba6; have hB6 := hB5.trans (hba6.mono hB5.size); have s26 := s25.on hba6; have s56 := s5.on hba6))
  clear zz1 zz2 zz3 zz4 zz5 hB1 hB2 hB3 hB4 hB5 hb1 hb2 hb3 hb4 hb5 hb6 hba6 s1 s2 s3 s23 s4 s24 s34 s5 s25 hk1' hk4
  obtain ⟨g, hg⟩ : ∃ g, g = w6.heap.size := ⟨_, rfl⟩
  obtain ⟨h', hh⟩ : ∃ h', h' = w6.heap.size + 1 := ⟨_, rfl⟩
  obtain ⟨W7, hW7⟩ : ∃ W7, W7 = ((w6.alloc (Obj.cells #[Value.int IntKind.i64 0, Value.int IntKind.i64 1] 100)).alloc (Obj.cells #[Value.slice a5 (Na.limbs r).length c5] 85)) := ⟨_, rfl⟩
  have hB67 : Below w6.heap.size w6 W7 := by rw [hW7]; exact ((Below.refl _ _).alloc (Nat.le_refl _) _).alloc (by simp) _
  have htr7 : TrB W7 g 0 1 := by
    rw [hW7, hg]; exact (heap_alloc_old _ _ (by simp)).trans (heap_alloc_new w6 _)
  have hof7 : OfB W7 h' (.slice a5 (Na.limbs r).length c5) := by
    rw [hW7, hh]
    have := heap_alloc_new (w6.alloc (Obj.cells #[Value.int IntKind.i64 0, Value.int IntKind.i64 1] 100)) (Obj.cells #[Value.slice a5 (Na.limbs r).length c5] 85)
    rw [World.size_alloc] at this; exact this
  have hg7 : g < W7.heap.size := lt_of_block htr7
  have hh7 : h' < W7.heap.size := lt_of_block hof7
  have hne : g ≠ h' := by omega
  have HOR := Lib.hid (Off.below s56 rfl (show w6.heap.size ≤ g by omega) (show w6.heap.size ≤ h' by omega))
  have HOU := Lib.hid (Off.below s6 rfl (show w6.heap.size ≤ g by omega) (show w6.heap.size ≤ h' by omega))
  have HOV := Lib.hid (Off.below s26 rfl (show w6.heap.size ≤ g by omega) (show w6.heap.size ≤ h' by omega))
  have HSR := Lib.hid (s56.on hB67); have HSU := Lib.hid (s6.on hB67); have HSV := Lib.hid (s26.on hB67)
  have ht7 : Tst r u g h' (0, 1) W7 := ⟨htr7, a5, c5, by show OfB W7 h' (.slice a5 (Na.limbs (Fl.gap r u 0 1)).length c5); rw [Fl.gap_zero]; exact hof7, by show Sl W7 a5 c5 (Na.limbs (Fl.gap r u 0 1)); rw [Fl.gap_zero]; exact HSR.out, by show Off a5 (Na.limbs (Fl.gap r u 0 1)).length g h'; rw [Fl.gap_zero]; exact HOR.out⟩
  have HT7 := Lib.hid ht7
  have hz6l : w.heap.size < w6.heap.size := zz6.2.2.2.2.2.2
  have hgw : w.heap.size ≠ g := by omega
  have hhw : w.heap.size ≠ h' := by omega
  have HZ7 := Lib.hid (zz6.on hB67)
  have hBW7 := hB6.trans (hB67.mono hB6.size)
  have HB7 := Lib.hid hBW7
  have HNE := Lib.hid hne
  have hgB : w.heap.size ≤ g := by omega
  have hhB : w.heap.size ≤ h' := by omega
  have hW7s : w.heap.size ≤ W7.heap.size := hBW7.size
  rw [← hh, ← hg, ← hW7]
  clear htr7 hof7 ht7 zz6 hB6 hB67 hBW7 s6 s26 s56 hW7 hg hh hz6l hne
  go_loopw [93] (ratLoop r u M g h' W7) (fun q _ => M - (intOf q).toNat)
  case atStart => exact ⟨0, Nat.zero_le _, rfl, HT7, Lib.hid (Two.refl _ _ _)⟩
  case round =>
    clear HT7
    obtain ⟨q, hq, rfl, HTst, HTwo⟩ := hrel
    have hszr := HTwo.out.size
    obtain ⟨b, hb⟩ : ∃ b, b = Fl.best r u q := ⟨_, rfl⟩
    obtain ⟨hd1, hd2, hd3⟩ := HBD.out q
    rw [← hb] at hd1 hd2 hd3 HTst
    have HBE := Lib.hid hb
    by_cases hlt : q < M
    · obtain ⟨q1, hq1⟩ : ∃ q1, q1 = q + 1 := ⟨_, rfl⟩
      have hqi : (q : Int) + 1 = (q1 : Int) := by omega
      have hq1M : q1 ≤ M := by omega
      obtain ⟨P, hP⟩ : ∃ P, P = r * q1 / u := ⟨_, rfl⟩
      have hPq : P ≤ q1 := by
        rw [hP]
        exact Nat.le_of_lt ((Nat.div_lt_iff_lt_mul hu0).2 (by rw [Nat.mul_comm q1]; exact Nat.mul_lt_mul_of_pos_right hru (by omega)))
      have hprod : r * q1 < Na.B ^ 60 := Nat.lt_of_lt_of_le (Fl.prod_lt hrl (Fl.small_k (show q1 ≤ 100000 by omega))) (Nat.pow_le_pow_right (by decide) (by decide))
      have lprod := Na.limbs_len_le _ _ hprod
      have hrl60 : r < Na.B ^ 60 := Nat.lt_of_lt_of_le hrl (Nat.pow_le_pow_right (by decide) (by decide))
      have hul60 : u < Na.B ^ 60 := Nat.lt_of_lt_of_le hul (Nat.pow_le_pow_right (by decide) (by decide))
      have HTM := Lib.hid (ex_times_any a5 c5 r q1 wr (HSR.out.two HTwo.out HOR.out) hrl60 (by omega))
      obtain ⟨hg1, hg2⟩ := Fl.gap_low (r := r) (q := q1) hu0
      obtain ⟨hg3, hg4⟩ := Fl.gap_high (r := r) (q := q1) hu0
      rw [← hP] at hg1 hg2 hg3 hg4
      have hgl1 := Fl.gap_lt (p := P) (q := q1) hrl hul (by omega) (by omega)
      have hgl2 := Fl.gap_lt (p := P + 1) (q := q1) hrl hul (by omega) (by omega)
      have hglb := Fl.gap_lt (p := b.1) (q := b.2) hrl hul (by omega) (by omega)
      obtain ⟨b', hb'⟩ : ∃ b', b' = Fl.pick r u P q1 b := ⟨_, rfl⟩
      have hbb : b'.1 ≤ 100000 ∧ b'.2 ≤ 100000 := by
        rcases Fl.pick_den r u P q1 b with h | h
        · rw [hb', h]; exact ⟨by show P ≤ 100000; omega, by show q1 ≤ 100000; omega⟩
        · rw [hb', h]; exact ⟨by omega, by omega⟩
      have hglb' := Fl.gap_lt (p := b'.1) (q := b'.2) hrl hul hbb.1 hbb.2
      have h41 : Na.B ^ 41 ≤ Na.B ^ 60 := Nat.pow_le_pow_right (by decide) (by decide)
      have HNX := Lib.hid (show Fl.best r u q1 = Fl.pick r u (P + 1) q1 b' by rw [hb', hb, hP, hq1]; rfl)
      have htry1 := fun w1 ga gc (ht : Tst r u g h' b w1) (hs : Sl w1 ga gc (Na.limbs (Fl.gap r u P q1))) (ho : Off ga (Na.limbs (Fl.gap r u P q1)).length g h') => ex_try_any r u P q1 g h' b ga gc w1 ht HNE.out hs ho (Nat.lt_of_lt_of_le hgl1 h41) (Nat.lt_of_lt_of_le hglb h41) (by omega) (by omega) (by omega) (by omega)
      rw [← hb'] at htry1
      have htry2 := fun w1 ga gc (ht : Tst r u g h' b' w1) (hs : Sl w1 ga gc (Na.limbs (Fl.gap r u (P + 1) q1))) (ho : Off ga (Na.limbs (Fl.gap r u (P + 1) q1)).length g h') => ex_try_any r u (P + 1) q1 g h' b' ga gc w1 ht HNE.out hs ho (Nat.lt_of_lt_of_le hgl2 h41) (Nat.lt_of_lt_of_le hglb' h41) (by omega) (by omega) hbb.1 hbb.2
      rw [← HNX.out, show ((P + 1 : Nat) : Int) = (P : Int) + 1 by omega] at htry2
      obtain ⟨G, hG⟩ : ∃ G, G = Fl.gap r u P q1 := ⟨_, rfl⟩
      rw [hg3] at htry2
      rw [← hG] at htry1 htry2 hg1 hg4 hgl1
      obtain ⟨y, hy⟩ : ∃ y, y = r * q1 := ⟨_, rfl⟩
      rw [← hy] at HTM hprod lprod hg1 hg2 hP
      have hPu : P < Na.B ^ 2 := Nat.lt_of_le_of_lt (show P ≤ 100000 by omega) (by decide)
      have lP := Na.limbs_len_le P 2 hPu
      have lG := Na.limbs_len_le _ _ hgl1
      have HSH := Lib.hid (fun (wr : World) a1 c1 (s1 : Sl wr a1 c1 (Na.limbs y)) => (by
        have := na_shr_any a1 c1 (Na.limbs y) (k : Int) wr s1 (by omega) (by omega)
        rw [Fl.shr_small hprod, ← HU.out, ← hP] at this
        exact this : Calls Tryz.prog 81 #[.slice a1 (Na.limbs y).length c1, .int .i64 k] wr (GivesS (Na.limbs P, decide (y % u ≠ 0), 0) wr)))
      have HVL := Lib.hid (fun (wr : World) a1 c1 (s1 : Sl wr a1 c1 (Na.limbs P)) => (by
        have := na_value_any a1 c1 (Na.limbs P) wr s1 (by omega)
        rw [Fl.value_small (show P < 18446744073709551616 by omega)] at this
        exact this : Calls Tryz.prog 87 #[.slice a1 (Na.limbs P).length c1] wr (Ret0 (.tuple #[.int .u64 P, .bool true]) wr)))
      have HSL := Lib.hid (fun (wr : World) a1 c1 (s1 : Sl wr a1 c1 (Na.limbs P)) => (by
        have := na_shl_any a1 c1 (Na.limbs P) (k : Int) wr s1 (by omega) (by omega)
        rw [Fl.shl_small hPu (by omega), ← HU.out, Nat.mul_comm] at this
        exact this : Calls Tryz.prog 82 #[.slice a1 (Na.limbs P).length c1, .int .i64 k] wr (GivesE (Na.limbs (u * P), 0) wr)))
      have HSB := Lib.hid (fun (wr : World) a1 c1 a2 c2 (s1 : Sl wr a1 c1 (Na.limbs y)) (s2 : Sl wr a2 c2 (Na.limbs (u * P))) => (by
        have := na_sub_any a1 c1 (Na.limbs y) a2 c2 (Na.limbs (u * P)) wr s1 s2 (by omega) (by have := Na.limbs_len_le (u * P) 60 (Nat.lt_of_le_of_lt hg2 hprod); omega)
        rw [Fl.sub_small hprod hg2, ← hg1] at this
        exact this : Calls Tryz.prog 83 #[.slice a1 (Na.limbs y).length c1, .slice a2 (Na.limbs (u * P)).length c2] wr (GivesE (Na.limbs G, 0) wr)))
      have HSB2 := Lib.hid (fun (wr : World) a1 c1 a2 c2 (s1 : Sl wr a1 c1 (Na.limbs u)) (s2 : Sl wr a2 c2 (Na.limbs G)) => (by
        have := na_sub_any a1 c1 (Na.limbs u) a2 c2 (Na.limbs G) wr s1 s2 (by omega) (by omega)
        rw [Fl.sub_small hul60 hg4] at this
        exact this : Calls Tryz.prog 83 #[.slice a1 (Na.limbs u).length c1, .slice a2 (Na.limbs G).length c2] wr (GivesE (Na.limbs (u - G), 0) wr)))
      have HTRY1 := Lib.hid htry1; have HTRY2 := Lib.hid htry2
      have hP9 : P ≤ 9999 := by omega
      obtain ⟨up, hup⟩ : ∃ z, z = u * P := ⟨_, rfl⟩
      rw [← hup] at HSL HSB
      obtain ⟨G2, hG2⟩ : ∃ z, z = u - G := ⟨_, rfl⟩
      rw [← hG2] at HSB2 HTRY2
      clear htry1 htry2 hG hy hP hq1 hb hb' hg1 hg2 hg3 hg4 hgl1 hgl2 hglb hglb' h41 hprod hup hG2 hPu hbb hd1 hd2 hd3 hrl60 hul60
      go_wp2_with (first
        | (go_at_call 86; (with_reducible refine (HTM.out).mono ?_); rintro e w8 ⟨a8, c8, rfl, s8, o8, hb8⟩; have off8 := Off.own o8 (Nat.lt_of_lt_of_le hg7 hszr) (Nat.lt_of_lt_of_le hh7 hszr))
        | (go_at_call 81; (with_reducible refine (HSH.out _ _ _ s8).mono ?_); rintro e w9 ⟨a9, c9, rfl, s9, -, hb9⟩; have hC9 := hb8.trans (hb9.mono hb8.size); have s89 := s8.on hb9)
        | (go_at_call 87; (with_reducible refine (HVL.out _ _ _ s9).mono ?_); rintro e w' ⟨rfl, rfl⟩)
        | (go_at_call 82; (with_reducible refine (HSL.out _ _ _ s9).mono ?_); rintro e w10 ⟨a10, c10, rfl, s10, -, hb10⟩; have hC10 := hC9.trans (hb10.mono hC9.size); have s8A := s89.on hb10)
        | (go_at_call 83; (with_reducible refine (HSB.out _ _ _ _ _ s8A s10).mono ?_); rintro e w11 ⟨a11, c11, rfl, s11, o11, hb11⟩; have hC11 := hC10.trans (hb11.mono hC10.size); have t11 := HTst.out.on hC11; have off11 := Off.own o11 (Nat.lt_of_lt_of_le hg7 (Nat.le_trans hszr hC10.size)) (Nat.lt_of_lt_of_le hh7 (Nat.le_trans hszr hC10.size)))
        | (go_at_call 84; (with_reducible refine (HTRY1.out _ _ _ t11 s11 off11).mono ?_); rintro e w12 ⟨rfl, t12, x12⟩; have X12 := (HTwo.out.trans (Two.of hC11)).trans x12; have s11' := s11.two x12 off11; have su12 := HSU.out.two X12 HOU.out)
        | (go_at_call 83; (with_reducible refine (HSB2.out _ _ _ _ _ su12 s11').mono ?_); rintro e w13 ⟨a13, c13, rfl, s13, o13, hb13⟩; have t13 := t12.on hb13; have X13 := X12.trans (Two.of hb13); have off13 := Off.own o13 (Nat.lt_of_lt_of_le hg7 X12.size) (Nat.lt_of_lt_of_le hh7 X12.size))
        | (go_at_call 84; (with_reducible refine (HTRY2.out _ _ _ t13 s13 off13).mono ?_); rintro e w14 ⟨rfl, t14, x14⟩; have X14 := X13.trans x14))
      go_roundw
      case rel => exact ⟨q1, hq1M, rfl, Lib.hid t14, Lib.hid X14⟩
      case measure => simp [intOf]; omega
    · obtain rfl : q = M := by omega
      have hrt := HD.out
      rw [← hb] at hrt
      obtain ⟨htb, oa, oc, hofb, -, -⟩ := HTst.out
      obtain ⟨s0, t0⟩ := b
      simp only at hd1 hd2 hd3 htb
      have dl := lt_of_block htb
      have zzr := HZ7.out.two HTwo.out hgw hhw
      have hBW : Below w.heap.size w wr := HB7.out.trans (HTwo.out.below hgB hhB hW7s)
      have sv := HSV.out.two HTwo.out HOV.out
      by_cases hone : s0 = 1 ∧ t0 = 1
      · obtain ⟨rfl, rfl⟩ := hone
        rw [if_pos rfl] at hrt
        have HR := Lib.hid hrt
        have htrE : trEq 1 1 1 1 = true := rfl
        have htb1 : TrB wr g 1 1 := htb
        obtain ⟨d0, d1, df, -⟩ := htb1.cells
        have hSA : Sl (wr.alloc (Obj.cells #[Value.int IntKind.u32 1] 72)) a2 c2 (Na.limbs v) := sv.on ((Below.refl _ _).alloc (Nat.le_refl _) _)
        have had := na_add_any a2 c2 (Na.limbs v) _ _ (Na.limbs 1) _ hSA (lit_one9 wr) (by omega) (by rw [Na.limbs_one]; simp)
        rw [Fl.add_small (Nat.lt_trans hvl (by decide)) (by decide), Na.limbs_one] at had
        have HAD := Lib.hid (show Calls Tryz.prog 88 #[.slice a2 (Na.limbs v).length c2, .slice (some ⟨wr.heap.size, 0, none⟩) 1 1] (wr.alloc (Obj.cells #[Value.int IntKind.u32 1] 72)) (GivesE (Na.limbs (v + 1), 0) (wr.alloc (Obj.cells #[Value.int IntKind.u32 1] 72))) from had)
        have HOF := Lib.hid (fun w1 a1 c1 (hb : Below w.heap.size w w1) (hs : Sl w1 a1 c1 (Na.limbs (v + 1))) => ex_of_any s a1 c1 (v + 1) 0 w1 hs (Nat.lt_trans (show v + 1 < 18014398509481984 by omega) (by decide)) (by omega) (HT.out.below hb))
        obtain ⟨R, hR⟩ : ∃ R, R = Fl.of s (v + 1) 0 := ⟨_, rfl⟩
        rw [← hR] at HR HOF
        have hlr := hg7
        have hgw2 := Nat.lt_of_lt_of_le hg7 hszr
        have hhw2 := Nat.lt_of_lt_of_le hh7 hszr
        clear hrt had hSA hR hb hd1 hd2 hd3 htb hofb HBE
        go_upto_region 30 with (first
          | (go_at_call 88; (with_reducible refine (HAD.out).mono ?_); rintro e w15 ⟨a15, c15, rfl, s15, o15, hb15⟩; have hba15 : Below wr.heap.size wr w15 := Below.trans ((Below.refl _ _).alloc (Nat.le_refl _) _) (hb15.mono (by simp)); have tb15 : TrB w15 g 1 1 := (hba15.block g dl).trans htb1; obtain ⟨d0, d1, df, dl5⟩ := tb15.cells; have df0 := df 0; have df1 := df 1; have zz15 := zzr.on hba15; have hB15 := hBW.trans (hba15.mono hBW.size); have off15 := Off.own o15 (g := g) (h := h') (by simp; omega) (by simp; omega)))
        obtain ⟨X, hX⟩ : ∃ X, X = ((w15.setCell ⟨g, 0, none⟩ (.int .i64 0)).setCell ⟨g, 1, none⟩ (.int .i64 1)) := ⟨_, rfl⟩
        have tX : Two g h' w15 X := by rw [hX]; exact ((Two.refl _ _ _).setL 0 _).setL 1 _
        have xtb : TrB X g 0 1 := by rw [hX]; exact tb15.set 0 1
        have zzX := zz15.two tX hgw hhw
        have sX := s15.two tX off15
        have hBX : Below w.heap.size w X := hB15.trans (tX.below hgB hhB hB15.size)
        rw [← hX]
        clear hX tX d0 d1 df df0 df1 zz15 tb15 s15 hB15 hb15 hba15
        have hxl : g < X.heap.size := lt_of_block xtb
        obtain ⟨x0, x1, -, -⟩ := xtb.cells
        clear xtb
        go_region_with (first
          | (go_at_call 71; (with_reducible refine (HOF.out _ _ _ ?_ ?_).mono ?_); exact hBX.drew; exact sX.on ((Below.refl _ _).drew); rintro e w16 ⟨rfl, hb16⟩; have hX16 : Below X.heap.size X w16 := Below.trans ((Below.refl _ _).drew) hb16; have m0 := (hX16.cell (p := ⟨g, 0, none⟩) hxl).trans x0; have m1 := (hX16.cell (p := ⟨g, 1, none⟩) hxl).trans x1; have hB16 := hBX.trans (hX16.mono hBX.size); have zz16 := zzX.on hX16; obtain ⟨y0, y1, y2, y3, y4, yf, yl⟩ := zz16; have yf0 := yf 0; have yf1 := yf 1; have yf2 := yf 2; have yf3 := yf 3; have yf4 := yf 4))
        all_goals (go_wp2; refine bodyPost_ret (v := .tuple #[.agg #[.bool R.n, .string ⟨R.l.toArray⟩, .int .i64 R.x, .int .i64 0, .int .i64 1], .int .i64 0]) (by simp [results, Tryz.results22, go_sem, y0, y1, y2, y3, y4, yf0, yf1, yf2, yf3, yf4, yl]; done) rfl (RetB.of (by rw [HR.out]; first | done | rfl) (by (repeat (first | exact Below.refl _ _ | assumption | refine Below.setCell ?_ (by first | omega | (simp <;> omega)) _ | refine Below.alloc ?_ (by first | omega | (simp <;> omega)) _ | refine Below.drew ?_ | refine below_drewN' ?_ _)))))
      · have hne1 : ¬ (s0, t0) = (1, 1) := fun e => hone (by cases e; exact ⟨rfl, rfl⟩)
        rw [if_neg hne1] at hrt
        have HR := Lib.hid hrt
        have htrE : trEq (s0 : Int) (t0 : Int) 1 1 = false := by
          simp only [trEq, Bool.and_eq_false_iff, beq_eq_false_iff_ne, ne_eq]; omega
        obtain ⟨d0, d1, df, -⟩ := htb.cells
        have HOF := Lib.hid (fun w1 a1 c1 (hb : Below w.heap.size w w1) (hs : Sl w1 a1 c1 (Na.limbs v)) => ex_of_any s a1 c1 v 0 w1 hs (Nat.lt_trans hvl (by decide)) (by omega) (HT.out.below hb))
        obtain ⟨R, hR⟩ : ∃ R, R = Fl.of s v 0 := ⟨_, rfl⟩
        rw [← hR] at HR HOF
        have HTB := Lib.hid htb; have HZZ := Lib.hid zzr; have HSX := Lib.hid sv; have HBX := Lib.hid hBW
        clear hrt hR hb hd1 hd2 hd3 htb hofb hne1 hone HBE df zzr sv hBW
        go_upto_region 30 with (fail)
        obtain ⟨X, hX⟩ : ∃ X, X = wr := ⟨_, rfl⟩
        have xtb : TrB X g s0 t0 := by rw [hX]; exact HTB.out
        have zzX : Z5 X w.heap.size := by rw [hX]; exact HZZ.out
        have sX : Sl X a2 c2 (Na.limbs v) := by rw [hX]; exact HSX.out
        have hBX : Below w.heap.size w X := by rw [hX]; exact HBX.out
        rw [← hX]
        clear hX d0 d1
        have hxl : g < X.heap.size := lt_of_block xtb
        obtain ⟨x0, x1, -, -⟩ := xtb.cells
        clear xtb
        go_region_with (first
          | (go_at_call 71; (with_reducible refine (HOF.out _ _ _ ?_ ?_).mono ?_); exact hBX.drew; exact sX.on ((Below.refl _ _).drew); rintro e w16 ⟨rfl, hb16⟩; have hX16 : Below X.heap.size X w16 := Below.trans ((Below.refl _ _).drew) hb16; have m0 := (hX16.cell (p := ⟨g, 0, none⟩) hxl).trans x0; have m1 := (hX16.cell (p := ⟨g, 1, none⟩) hxl).trans x1; have hB16 := hBX.trans (hX16.mono hBX.size); have zz16 := zzX.on hX16; obtain ⟨y0, y1, y2, y3, y4, yf, yl⟩ := zz16; have yf0 := yf 0; have yf1 := yf 1; have yf2 := yf 2; have yf3 := yf 3; have yf4 := yf 4))
        all_goals (go_wp2; refine bodyPost_ret (v := .tuple #[.agg #[.bool R.n, .string ⟨R.l.toArray⟩, .int .i64 R.x, .int .i64 s0, .int .i64 t0], .int .i64 0]) (by simp [results, Tryz.results22, go_sem, y0, y1, y2, y3, y4, yf0, yf1, yf2, yf3, yf4, yl]; done) rfl (RetB.of (by rw [HR.out]; first | done | rfl) (by (repeat (first | exact Below.refl _ _ | assumption | refine Below.setCell ?_ (by first | omega | (simp <;> omega)) _ | refine Below.alloc ?_ (by first | omega | (simp <;> omega)) _ | refine Below.drew ?_ | refine below_drewN' ?_ _)))))

theorem ex_ratio_any (x : Nat) (hx : x < 18446744073709551616) (most : Int) (hm : -9223372036854775808 ≤ most ∧ most ≤ 9223372036854775807) (w : World) (ht : Tab w) : Calls Tryz.prog 22 #[.int .u64 x, .int .i64 most] w (RetB (Fl.fv (Fl.ratio x most)) w) := by
  by_cases h : 3 ≤ Fl.kind x
  · exact ex_ratio_none x hx most hm w ht h
  · by_cases hmo : most < 1 ∨ 9999 < most
    · exact ex_ratio_arg x hx most hm w ht (by omega) hmo
    · by_cases he : 0 ≤ Fl.expn x
      · exact ex_ratio_up x hx most hm w ht (by omega) (by omega) he
      · obtain ⟨M, rfl⟩ : ∃ M : Nat, most = M := ⟨most.toNat, by omega⟩
        exact ex_ratio_main x hx M w ht (by omega) (by omega) (by omega)
end Go.Proofs.YtjnkbifafbjckaaGreatDoor
