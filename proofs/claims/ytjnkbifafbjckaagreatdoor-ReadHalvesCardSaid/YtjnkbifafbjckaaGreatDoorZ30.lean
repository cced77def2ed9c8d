/- Chapter 8: a natural's digits less one; the exponent of a middle's digits. -/
import Derived.Test.YtjnkbifafbjckaaGreatDoorZ29
import Derived.Test.YtjnkbifafbjckaaGreatDoorZ17
namespace Go.Proofs.YtjnkbifafbjckaaGreatDoor
set_option linter.all false
open Go.RowKit

theorem Na.dec_len_le' (v : Nat) : (Lib.decDigits v).length ≤ 10 * (Na.limbs v).length + 1 := by
  have h1 := dec_len_le (Na.limbs v) (Na.ok_limbs v)
  rw [Na.val_limbs] at h1; exact h1
set_option maxRecDepth 100000 in
set_option maxHeartbeats 4000000 in
theorem l8_less_any (N : Nat) (w : World) (h0 : 0 < N) (hl : (Lib.decDigits N).length ≤ 800) : Calls Tryz.prog 51 #[.string (decS N)] w (RetB (.string (decS (N - 1) ++ ⟨#[57]⟩)) w) := by
  have hd := fun w1 => r8_digits_any (decS N) w1 (by rw [decS_size]; omega) (by rw [decS_list]; exact Fl.dig_dec N)
  rw [decS_list, Fl.nv_dec] at hd
  have hN : N < 10 ^ 800 := by
    obtain ⟨n, hn⟩ : ∃ n, n = 800 := ⟨_, rfl⟩
    have h1 := Dc.nv_lt (Fl.dig_dec N)
    rw [Fl.nv_dec] at h1
    rw [← hn] at hl ⊢
    exact Nat.lt_of_lt_of_le h1 (Nat.pow_le_pow_right (by decide) hl)
  have hm : Fl.Mid N := by
    obtain ⟨n, hn⟩ : ∃ n, n = 800 := ⟨_, rfl⟩
    rw [← hn] at hN
    exact Fl.mid_le (Nat.le_of_lt hN) (Fl.ten_mid (by omega))
  have hm1 : Fl.Mid (N - 1) := Fl.mid_le (Nat.sub_le _ _) hm
  have hls := fun a c b d w1 (s : Sl w1 a c (Na.limbs N)) (s' : Sl w1 b d [1]) => r1_less_any a c (Na.limbs N) b d [1] w1 s s' (by unfold Fl.Mid at hm; omega) (by simp) (by rw [Na.val_limbs]; exact h0)
  rw [Na.val_limbs, show Na.val [1] = 1 from rfl] at hls
  have hdg := fun a c w1 (s : Sl w1 a c (Na.limbs (N - 1))) (z : a = none → c = 0) => r1_digits_of (N - 1) a c w1 s z (by unfold Fl.Mid at hm1; omega)
  have hz : (decS (N - 1)).size ≤ 4000 := by
    rw [decS_size]
    refine Nat.le_trans (Na.dec_len_le' (N - 1)) ?_
    unfold Fl.Mid at hm1; omega
  obtain ⟨L0, hL0⟩ : ∃ L, L = Na.limbs N := ⟨_, rfl⟩
  obtain ⟨L1, hL1⟩ : ∃ L, L = Na.limbs (N - 1) := ⟨_, rfl⟩
  obtain ⟨S, hS⟩ : ∃ S, S = decS N := ⟨_, rfl⟩
  obtain ⟨T, hT⟩ : ∃ S, S = decS (N - 1) := ⟨_, rfl⟩
  rw [← hL0] at hd hls
  rw [← hL1] at hls hdg
  rw [← hS] at hd ⊢
  rw [← hT] at hdg hz ⊢
  have HD := Lib.hid hd; have HDG := Lib.hid hdg
  have HLS := Lib.hid (fun a c b d w1 (s : Sl w1 a c L0) (s' : Sl w1 b d [1]) => (show Calls Tryz.prog 116 #[.slice a L0.length c, .slice b 1 d] w1 (GivesZ L1 w1) from hls a c b d w1 s s'))
  have HSL := Lib.hid (fun w1 => (show Sl (w1.alloc (Obj.cells #[Value.int IntKind.u32 1] 72)) (some ⟨w1.heap.size, 0, none⟩) 1 [1] from lit_sl w1 1 (by decide)))
  clear hd hls hdg hL0 hL1 hS hT hN hm hm1 hl h0
  go_enter Tryz.func51, Tryz.ntmps51
  go_wp2_with (first
    | (go_at_call 77; (with_reducible refine (HD.out _).mono ?_); rintro e w1 ⟨a1, c1, rfl, s1, z1, hb1⟩; have s1 := s1.on ((Below.refl w1.heap.size w1).alloc (Nat.le_refl _) (.cells #[Value.int .u32 1] 72)))
    | (go_at_call 116; (with_reducible refine (HLS.out _ _ _ _ _ s1 (HSL.out w1)).mono ?_); rintro e w2 ⟨a2, c2, rfl, s2, z2, -, hb2⟩; have hB2 := (hb1.alloc hb1.size (.cells #[Value.int .u32 1] 72)).trans (hb2.mono (by simp; have := hb1.size; omega)))
    | (go_at_call 42; (with_reducible refine (HDG.out _ _ _ s2 z2).mono ?_); rintro e w3 ⟨rfl, hb3⟩; have hB3 := hB2.trans (hb3.mono hB2.size)))
  go_ret
  exact RetB.of rfl hB3

set_option maxRecDepth 100000 in
set_option maxHeartbeats 4000000 in
theorem l8_tail_any (X e y : Int) (u : Nat) (V : ByteArray) (w : World) (hX : -100000 ≤ X ∧ X ≤ 100000) (he : -100000 ≤ e ∧ e ≤ 100000) (hy : y = (if e < 0 then X + e else X) - 1)
    (hc : (y < 0 ∧ y = -(u : Int) ∧ V = ⟨#[101, 45]⟩ ++ decS u) ∨ (0 ≤ y ∧ y = (u : Int) ∧ V = ⟨#[101, 43]⟩ ++ decS u)) :
    Calls Tryz.prog 52 #[.int .i64 X, .int .i64 e] w (RetB (.string V) w) := by
  have hyb : -300000 ≤ y ∧ y ≤ 300000 := by rw [hy]; split <;> omega
  have hub : u ≤ 300000 := by omega
  have hof := fun w1 => r1_of_any u (by omega) w1
  have hul := Na.limbs_small (v := u) (by omega)
  have hdg := fun a c w1 (s : Sl w1 a c (Na.limbs u)) (z : a = none → c = 0) => r1_digits_of u a c w1 s z (by omega)
  have hz : (decS u).size ≤ 100 := by
    rw [decS_size]
    refine Nat.le_trans (Na.dec_len_le' u) ?_
    omega
  obtain ⟨L, hL⟩ : ∃ L, L = Na.limbs u := ⟨_, rfl⟩
  rw [← hL] at hof hdg
  obtain ⟨S, hS⟩ : ∃ S, S = decS u := ⟨_, rfl⟩
  rw [← hS] at hz hdg hc
  have HOF := Lib.hid hof; have HDG := Lib.hid hdg
  have hey : (e < 0 ∧ X + e - 1 = y) ∨ (¬ e < 0 ∧ X - 1 = y) := by
    rw [hy]; split <;> omega
  obtain ⟨X1, X2⟩ := hX
  obtain ⟨e1, e2⟩ := he
  obtain ⟨y1, y2⟩ := hyb
  clear hof hdg hL hul hy hS
  rcases hey with ⟨q, q2⟩ | ⟨q, q2⟩
  all_goals (
    rcases hc with ⟨p, p2, rfl⟩ | ⟨p, p2, rfl⟩
    · have hneg : -y = (u : Int) := by omega
      clear p2
      go_enter Tryz.func52, Tryz.ntmps52
      go_wp2_with (first
        | (go_at_call 44; (with_reducible refine (HOF.out _).mono ?_); rintro e w1 ⟨a1, c1, rfl, s1, z1, -, hb1⟩)
        | (go_at_call 42; (with_reducible refine (HDG.out _ _ _ s1 z1).mono ?_); rintro e w2 ⟨rfl, hb2⟩; have hB2 := hb1.trans (hb2.mono hb1.size)))
      go_ret
      exact RetB.of rfl hB2
    · have hneg : ¬ y < 0 := by omega
      go_enter Tryz.func52, Tryz.ntmps52
      go_wp2_with (first
        | (go_at_call 44; (with_reducible refine (HOF.out _).mono ?_); rintro e w1 ⟨a1, c1, rfl, s1, z1, -, hb1⟩)
        | (go_at_call 42; (with_reducible refine (HDG.out _ _ _ s1 z1).mono ?_); rintro e w2 ⟨rfl, hb2⟩; have hB2 := hb1.trans (hb2.mono hb1.size)))
      go_ret
      exact RetB.of rfl hB2)
end Go.Proofs.YtjnkbifafbjckaaGreatDoor

/- Chapter 8's law: what lies in the middle between two numbers goes to the even one, a little more or less to the nearer one. -/
namespace Go.Proofs.YtjnkbifafbjckaaGreatDoor
set_option linter.all false
open Go.RowKit
attribute [local go_sem] Dc.Res.val

set_option maxRecDepth 100000 in
set_option maxHeartbeats 4000000 in
theorem l8_halves_none (x0 x : Nat) (w : World) (hx : x = x0 % 9223372036854775808) (hk : 9218868437227405311 ≤ x) : Calls Tryz.prog 11 #[.int .u64 x0] w (RetB (.bool true) w) := by
  have HS := Lib.hid (fun w1 => l8_shown_any w1)
  have hxm : (x0 : Int) % 9223372036854775808 = (x : Int) := by omega
  have hxl : x < 9223372036854775808 := by omega
  have hk1 := fun w1 => r3_kind_any x (by omega) w1
  obtain ⟨K, hK⟩ : ∃ K, K = Fl.kind x := ⟨_, rfl⟩
  have hKc : 3 ≤ K ∨ (K < 3 ∧ x = 9218868437227405311) := by
    by_cases c : x = 9218868437227405311
    · right; refine ⟨?_, c⟩; rw [hK, c]; decide
    · left
      rw [hK]; unfold Fl.kind Fl.expo Fl.frac
      rw [if_pos (by omega)]
      split <;> omega
  rw [← hK] at hk1
  have HK := Lib.hid hk1
  clear hk1 hK hx hk
  rcases hKc with c | ⟨c, c2⟩
  · have d1 : decide (3 ≤ (K : Int)) = true := decide_eq_true (by omega)
    go_enter Tryz.func11, Tryz.ntmps11
    go_wp2_with (first | (go_at_call 32; (with_reducible refine (HS.out _).mono ?_); rintro e w1 ⟨rfl, hb_w1⟩; have hB_w1 : Below (w).heap.size (w) w1 := Below.trans (by (repeat (first | exact Below.refl _ _ | assumption | refine Below.setCell ?_ (by first | omega | (simp <;> omega)) _ | refine Below.alloc ?_ (by first | omega | (simp <;> omega)) _ | refine Below.drew ?_ | refine below_drewN' ?_ _))) (hb_w1.mono (by first | omega | (simp <;> omega))); obtain ⟨hc_w1, hf_w1⟩ := bcell hb_w1; have hz_w1 := hb_w1.size; (try simp only [size_drew', size_drewN', World.size_alloc, World.size_setCell] at hz_w1)) | (go_at_call 19; (with_reducible refine (HK.out _).mono ?_); rintro e w' ⟨rfl, rfl⟩))
    go_ret
    exact RetB.of rfl (by (repeat (first | exact Below.refl _ _ | assumption | refine Below.setCell ?_ (by first | omega | (simp <;> omega)) _ | refine Below.alloc ?_ (by first | omega | (simp <;> omega)) _ | refine Below.drew ?_ | refine below_drewN' ?_ _)))
  · have d1 : decide (3 ≤ (K : Int)) = false := decide_eq_false (by omega)
    have d2 : ((x : Int) == 9218868437227405311) = true := by rw [c2]; rfl
    clear c2
    go_enter Tryz.func11, Tryz.ntmps11
    go_wp2_with (first | (go_at_call 32; (with_reducible refine (HS.out _).mono ?_); rintro e w1 ⟨rfl, hb_w1⟩; have hB_w1 : Below (w).heap.size (w) w1 := Below.trans (by (repeat (first | exact Below.refl _ _ | assumption | refine Below.setCell ?_ (by first | omega | (simp <;> omega)) _ | refine Below.alloc ?_ (by first | omega | (simp <;> omega)) _ | refine Below.drew ?_ | refine below_drewN' ?_ _))) (hb_w1.mono (by first | omega | (simp <;> omega))); obtain ⟨hc_w1, hf_w1⟩ := bcell hb_w1; have hz_w1 := hb_w1.size; (try simp only [size_drew', size_drewN', World.size_alloc, World.size_setCell] at hz_w1)) | (go_at_call 19; (with_reducible refine (HK.out _).mono ?_); rintro e w' ⟨rfl, rfl⟩))
    go_ret
    exact RetB.of rfl (by (repeat (first | exact Below.refl _ _ | assumption | refine Below.setCell ?_ (by first | omega | (simp <;> omega)) _ | refine Below.alloc ?_ (by first | omega | (simp <;> omega)) _ | refine Below.drew ?_ | refine below_drewN' ?_ _)))

theorem decS_zero : (⟨#[101, 45]⟩ : ByteArray) ++ decS 0 = ⟨#[101, 45, 48]⟩ := by decide +kernel
theorem decS_one : (⟨#[101, 45]⟩ : ByteArray) ++ decS 1 = ⟨#[101, 45, 49]⟩ := by decide +kernel

set_option maxRecDepth 100000 in
set_option maxHeartbeats 8000000 in
theorem l8_halves_fine (x0 x : Nat) (w : World) (hx : x = x0 % 9223372036854775808) (hk : x < 9218868437227405311) : Calls Tryz.prog 11 #[.int .u64 x0] w (RetB (.bool true) w) := by
  have HS := Lib.hid (fun w1 => l8_shown_any w1)
  have HN := Lib.hid (fun w1 => re_new_any w1)
  have hxm : (x0 : Int) % 9223372036854775808 = (x : Int) := by omega
  have hk1 := fun w1 => r3_kind_any x (by omega) w1
  have hkf := Fl.fin_kind hk
  have hsp := fun w1 => r3_split_any x (by omega) w1
  rw [show Fl.neg x = false from decide_eq_false (by omega)] at hsp
  have hml := Fl.mant_lt x
  obtain ⟨E1, E2⟩ := Fl.expn_bound x
  have t1 := Fl.half_text_mid hk
  have t2 := Fl.half_text_up hk
  have t3 := Fl.half_text_down hk
  obtain ⟨le, ln, lr, ll, lne, lx0, lx1, -⟩ := Fl.less_fine x
  have hNl := Fl.midN_len (x := x)
  have hN0 := Fl.midN_pos x
  have hless := fun w1 => l8_less_any (Fl.midN x) w1 hN0 hNl
  have hJl := Fl.midJ_le (x := x)
  have hmake := fun w1 => r7_make_any false (decS (Fl.midN x - 1) ++ ⟨#[57]⟩) 0 w1 (by
    rw [← bs_length, ba_app, decS_list, List.length_append]
    have h1 := Na.dec_len_le' (Fl.midN x - 1)
    have h2 : (Na.limbs (Fl.midN x - 1)).length ≤ 400 := by
      obtain ⟨n, hn⟩ : ∃ n, n = 800 := ⟨_, rfl⟩
      have h3 := Dc.nv_lt (Fl.dig_dec (Fl.midN x))
      rw [Fl.nv_dec] at h3
      rw [← hn] at hNl
      have h4 := Fl.mid_le (Nat.le_trans (Nat.sub_le _ 1) (Nat.le_of_lt (Nat.lt_of_lt_of_le h3 (Nat.pow_le_pow_right (by decide) hNl)))) (Fl.ten_mid (show n ≤ 2000 by omega))
      unfold Fl.Mid at h4; omega
    simp; omega) (by omega)
  rw [ba_app, decS_list, show (⟨#[57]⟩ : ByteArray).data.toList = [57] from rfl, show Dc.mk false (Lib.decDigits (Fl.midN x - 1) ++ [57]) 0 = Fl.lessD x from rfl] at hmake
  rcases hD : Fl.lessD x with ⟨dn, dl, dx, de⟩
  rw [hD] at le ln lr ll lne lx0 lx1 hmake t3
  simp only at le ln lr ll lne lx0 lx1
  subst le; subst ln
  simp only [Dc.Res.val] at hmake
  have hcase : (1 ≤ Fl.expn x ∧ Fl.midN x = (2 * Fl.mant x + 1) * 2 ^ (Fl.expn x - 1).toNat ∧ Fl.midJ x = 0) ∨ (Fl.expn x < 1 ∧ Fl.midN x = (2 * Fl.mant x + 1) * 5 ^ Fl.midJ x ∧ (Fl.midJ x : Int) = 1 - Fl.expn x) := by
    by_cases c : 1 ≤ Fl.expn x
    · left; refine ⟨c, by rw [Fl.midN, if_pos c], by unfold Fl.midJ; omega⟩
    · right; refine ⟨by omega, by rw [Fl.midN, if_neg c], by unfold Fl.midJ; omega⟩
  have hNm : (Na.limbs (Fl.midN x)).length ≤ 256 := by
    obtain ⟨n, hn⟩ : ∃ n, n = 800 := ⟨_, rfl⟩
    have h3 := Dc.nv_lt (Fl.dig_dec (Fl.midN x))
    rw [Fl.nv_dec] at h3
    rw [← hn] at hNl
    exact Fl.mid_le (Nat.le_of_lt (Nat.lt_of_lt_of_le h3 (Nat.pow_le_pow_right (by decide) hNl))) (Fl.ten_mid (show n ≤ 2000 by omega))
  obtain ⟨K, hK⟩ : ∃ K, K = Fl.kind x := ⟨_, rfl⟩
  rw [← hK] at hk1 hkf
  obtain ⟨m, hm⟩ : ∃ m, m = Fl.mant x := ⟨_, rfl⟩
  obtain ⟨E, hE⟩ : ∃ m, m = Fl.expn x := ⟨_, rfl⟩
  obtain ⟨N, hN⟩ : ∃ m, m = Fl.midN x := ⟨_, rfl⟩
  obtain ⟨J, hJ⟩ : ∃ m, m = Fl.midJ x := ⟨_, rfl⟩
  rw [← hm, ← hE] at hsp
  rw [← hm] at hml
  rw [← hE] at E1 E2
  rw [← hN, ← hJ] at t1 t2
  rw [← hJ] at t3 hJl
  rw [← hN] at hless hNl hN0 hmake hNm
  rw [← hm, ← hE, ← hN, ← hJ] at hcase
  clear hm hE hN hJ hK hD
  obtain ⟨e, he⟩ : ∃ e, e = E - 1 := ⟨_, rfl⟩
  have hE1 : E - 1 = e := he.symm
  have heb : -1075 ≤ e ∧ e ≤ 970 := by omega
  -- what the calls of naturals tell
  have hof := fun w1 => r1_of_any m (by omega) w1
  have hmls := Na.limbs_small (v := m) (by omega)
  have htw := fun a c w1 (s : Sl w1 a c (Na.limbs m)) => r1_twice_any a c (Na.limbs m) false w1 s (by omega)
  rw [Na.val_limbs, show false.toNat = 0 from rfl, Nat.add_zero] at htw
  have h2ls := Na.limbs_small (v := 2 * m) (by omega)
  have hpl := fun a c b d w1 (s : Sl w1 a c (Na.limbs (2 * m))) (s' : Sl w1 b d [1]) => r1_plus_any a c (Na.limbs (2 * m)) b d [1] w1 s s' (by omega) (by simp)
  rw [Na.val_limbs, show Na.val [1] = 1 from rfl] at hpl
  have h3ls := Na.limbs_small (v := 2 * m + 1) (by omega)
  have hdg := fun a c w1 (s : Sl w1 a c (Na.limbs N)) (z : a = none → c = 0) => r1_digits_of N a c w1 s z (by omega)
  have hdgJ := fun a c w1 (s : Sl w1 a c (Na.limbs J)) (z : a = none → c = 0) => r1_digits_of J a c w1 s z (by have := Na.limbs_small (v := J) (by omega); omega)
  have hdgK := fun a c w1 (s : Sl w1 a c (Na.limbs (J + 1))) (z : a = none → c = 0) => r1_digits_of (J + 1) a c w1 s z (by have := Na.limbs_small (v := J + 1) (by omega); omega)
  have hofJ := fun w1 => r1_of_any J (by omega) w1
  have hofK := fun w1 => r1_of_any (J + 1) (by omega) w1
  have hfive := fun w1 => l8_five_any J w1 (by omega)
  have h5m := Fl.five_mid (j := J) (by omega)
  have htm := fun a c b d w1 (s : Sl w1 a c (Na.limbs (2 * m + 1))) (s' : Sl w1 b d (Na.limbs (5 ^ J))) => r1_times_any a c (Na.limbs (2 * m + 1)) b d (Na.limbs (5 ^ J)) w1 s s' (by omega) (by unfold Fl.Mid at h5m; omega)
  rw [Na.val_limbs, Na.val_limbs] at htm
  have hup := fun (q : Nat) (hq : (q : Int) = e) a c w1 (s : Sl w1 a c (Na.limbs (2 * m + 1))) (z : a = none → c = 0) => r3_up_any a c (Na.limbs (2 * m + 1)) q w1 s z (by omega) (by omega)
  rw [Na.val_limbs] at hup
  -- the texts
  have hJlen : (Lib.decDigits J).length ≤ 4 := Fl.len_dec (k := 3) (by omega)
  have hKlen : (Lib.decDigits (J + 1)).length ≤ 4 := Fl.len_dec (k := 3) (by omega)
  obtain ⟨S, hS⟩ : ∃ S, S = decS N := ⟨_, rfl⟩
  have hSz : S.size ≤ 800 := by rw [hS, decS_size]; exact hNl
  obtain ⟨SJ, hSJ⟩ : ∃ S, S = decS J := ⟨_, rfl⟩
  obtain ⟨SK, hSK⟩ : ∃ S, S = decS (J + 1) := ⟨_, rfl⟩
  have hSJz : SJ.size ≤ 4 := by rw [hSJ, decS_size]; exact hJlen
  have hSKz : SK.size ≤ 4 := by rw [hSK, decS_size]; exact hKlen
  obtain ⟨X1, hX1⟩ : ∃ X : ByteArray, X = ⟨#[101, 45]⟩ ++ SJ := ⟨_, rfl⟩
  obtain ⟨X2, hX2⟩ : ∃ X : ByteArray, X = ⟨#[101, 45]⟩ ++ SK := ⟨_, rfl⟩
  have e45 : (⟨#[101, 45]⟩ : ByteArray).data.toList = [101, 45] := rfl
  have hX1z : X1.size ≤ 6 := by rw [hX1, ← bs_length, ba_app, List.length_append, bs_length SJ, e45]; simp; omega
  have hX2z : X2.size ≤ 6 := by rw [hX2, ← bs_length, ba_app, List.length_append, bs_length SK, e45]; simp; omega
  have q1 : Fl.readS (S ++ X1).data.toList = (x + x % 2, 0) := by
    rw [ba_app, hX1, ba_app, hS, hSJ, decS_list, decS_list, e45]; exact t1
  have q2 : Fl.readS (S ++ ⟨#[49]⟩ ++ X2).data.toList = (x + 1, 0) := by
    rw [ba_app, ba_app, hX2, ba_app, hS, hSK, decS_list, decS_list, e45]; exact t2
  have hp1 := fun b w1 (h : Rdr w1 b) => re_parse_any b (S ++ X1) w1 (by rw [← bs_length, ba_app, List.length_append, bs_length, bs_length]; omega) h
  have hp2 := fun b w1 (h : Rdr w1 b) => re_parse_any b (S ++ ⟨#[49]⟩ ++ X2) w1 (by rw [← bs_length, ba_app, ba_app, List.length_append, List.length_append, bs_length S, bs_length X2, show (⟨#[49]⟩ : ByteArray).data.toList = [49] from rfl]; simp; omega) h
  rw [q1] at hp1
  rw [q2] at hp2
  -- the tail
  obtain ⟨y, hy⟩ : ∃ y, y = dx - J - 1 := ⟨_, rfl⟩
  have hye : y = (if e < 0 then dx + e else dx) - 1 := by
    rcases hcase with ⟨a, b, c⟩ | ⟨a, b, c⟩
    · rw [if_neg (by omega)]; omega
    · rw [if_pos (by omega)]; omega
  obtain ⟨u, hu⟩ : ∃ u : Nat, u = y.natAbs := ⟨_, rfl⟩
  obtain ⟨V, hV⟩ : ∃ V : ByteArray, (y < 0 ∧ y = -(u : Int) ∧ V = ⟨#[101, 45]⟩ ++ decS u) ∨ (0 ≤ y ∧ y = (u : Int) ∧ V = ⟨#[101, 43]⟩ ++ decS u) := by
    by_cases c : y < 0
    · exact ⟨_, Or.inl ⟨c, by omega, rfl⟩⟩
    · exact ⟨_, Or.inr ⟨by omega, by omega, rfl⟩⟩
  have htail := fun w1 => l8_tail_any dx e y u V w1 (by omega) (by omega) hye hV
  have hulen : (Lib.decDigits u).length ≤ 5 := Fl.len_dec (k := 4) (by omega)
  obtain ⟨DS, hDS⟩ : ∃ S : ByteArray, S = ⟨dl.toArray⟩ := ⟨_, rfl⟩
  have hDSl : DS.data.toList = dl := by rw [hDS]
  have hDSz : DS.size ≤ 801 := by rw [← bs_length, hDSl]; exact ll
  have hVz : V.size ≤ 10 := by
    rcases hV with ⟨-, -, h⟩ | ⟨-, -, h⟩ <;> rw [h, ← bs_length, ba_app, List.length_append, decS_list] <;> simp <;> omega
  have q3 : Fl.readS (DS ++ V).data.toList = (x, 0) := by
    rw [ba_app, hDSl]
    rcases hV with ⟨a, b, h⟩ | ⟨a, b, h⟩
    · rw [h, ba_app, decS_list]; exact t3 y 45 u hy (Or.inr ⟨rfl, b⟩)
    · rw [h, ba_app, decS_list]; exact t3 y 43 u hy (Or.inl ⟨rfl, b⟩)
  have hp3 := fun b w1 (h : Rdr w1 b) => re_parse_any b (DS ++ V) w1 (by rw [← bs_length, ba_app, List.length_append, bs_length, bs_length]; omega) h
  rw [q3] at hp3
  rw [← hDS] at hmake
  rw [← hS] at hdg hless
  rw [← hSJ] at hdgJ
  rw [← hSK] at hdgK
  obtain ⟨T, hT⟩ : ∃ T : ByteArray, T = decS (N - 1) ++ ⟨#[57]⟩ := ⟨_, rfl⟩
  rw [← hT] at hless hmake
  have hX1A : J = 0 → X1 = ⟨#[101, 45, 48]⟩ := fun h => by rw [hX1, hSJ, h]; exact decS_zero
  have hX2A : J = 0 → X2 = ⟨#[101, 45, 49]⟩ := fun h => by rw [hX2, hSK, h]; exact decS_one
  obtain ⟨L0, hL0⟩ : ∃ L, L = Na.limbs m := ⟨_, rfl⟩
  obtain ⟨L2, hL2⟩ : ∃ L, L = Na.limbs (2 * m) := ⟨_, rfl⟩
  obtain ⟨L3, hL3⟩ : ∃ L, L = Na.limbs (2 * m + 1) := ⟨_, rfl⟩
  obtain ⟨LN, hLN⟩ : ∃ L, L = Na.limbs N := ⟨_, rfl⟩
  obtain ⟨L5, hL5⟩ : ∃ L, L = Na.limbs (5 ^ J) := ⟨_, rfl⟩
  obtain ⟨LJ, hLJ⟩ : ∃ L, L = Na.limbs J := ⟨_, rfl⟩
  obtain ⟨LK, hLK⟩ : ∃ L, L = Na.limbs (J + 1) := ⟨_, rfl⟩
  rw [← hL0] at hof htw
  rw [← hL2] at htw hpl
  rw [← hL3] at hpl htm hup
  rw [← hLN] at hdg
  rw [← hL5] at htm hfive
  rw [← hLJ] at hofJ hdgJ
  rw [← hLK] at hofK hdgK
  have hcs : (0 ≤ e ∧ Hid (∀ a c w1, Sl w1 a c L3 → (a = none → c = 0) → Calls Tryz.prog 43 #[.slice a L3.length c, .int .i64 e] w1 (GivesZ LN w1)) ∧ Hid (J = 0)) ∨
      (e < 0 ∧ Hid (∀ a c b d w1, Sl w1 a c L3 → Sl w1 b d L5 → Calls Tryz.prog 46 #[.slice a L3.length c, .slice b L5.length d] w1 (GivesZ LN w1)) ∧ -e = (J : Int) ∧ 1 - e = ((J + 1 : Nat) : Int)) := by
    rcases hcase with ⟨a, b, c⟩ | ⟨a, b, c⟩
    · refine Or.inl ⟨by omega, Lib.hid fun a1 c1 w1 s z => ?_, Lib.hid c⟩
      have h := hup (E - 1).toNat (by omega) a1 c1 w1 s z
      rw [← b, ← hLN, show (((E - 1).toNat : Nat) : Int) = e by omega] at h
      exact h
    · refine Or.inr ⟨by omega, Lib.hid fun a1 c1 b1 d1 w1 s s' => ?_, by omega, by omega⟩
      have h := htm a1 c1 b1 d1 w1 s s'
      rw [← b, ← hLN] at h
      exact h
  obtain ⟨K1, hK1⟩ : ∃ K1, K1 = J + 1 := ⟨_, rfl⟩
  rw [← hK1] at hcs hofK
  have hTz : T.size ≤ 1000000 := by
    rw [hT, ← bs_length, ba_app, List.length_append, bs_length (decS (N - 1)), decS_size]
    have h1 := Na.dec_len_le' (N - 1)
    have h2 : (Na.limbs (N - 1)).length ≤ 400 := by
      have h3 := Fl.mid_le (Nat.sub_le N 1) (show Fl.Mid N from hNm)
      unfold Fl.Mid at h3; omega
    simp; omega
  have d1 : decide (3 ≤ (K : Int)) = false := decide_eq_false (by omega)
  have d2 : ((x : Int) == 9218868437227405311) = false := by simp only [beq_eq_false_iff_ne, ne_eq]; omega
  obtain ⟨v1, hv1⟩ : ∃ v, v = x + x % 2 := ⟨_, rfl⟩
  obtain ⟨v2, hv2⟩ : ∃ v, v = x + 1 := ⟨_, rfl⟩
  have hv1i : (x : Int) + (x : Int) % 2 = (v1 : Int) := by omega
  have hv2i : (x : Int) + 1 = (v2 : Int) := by omega
  have hv1l : v1 < 18446744073709551616 := by omega
  have hv2l : v2 < 18446744073709551616 := by omega
  rw [← hv1] at hp1
  rw [← hv2] at hp2
  have HK := Lib.hid hk1; have HSP := Lib.hid hsp; have HOF := Lib.hid hof; have HTW := Lib.hid htw
  have HPL := Lib.hid (fun a c b d w1 (s : Sl w1 a c L2) (s' : Sl w1 b d [1]) => (show Calls Tryz.prog 48 #[.slice a L2.length c, .slice b 1 d] w1 (GivesZ L3 w1) from hpl a c b d w1 s s'))
  have HSL := Lib.hid (fun w1 => (show Sl (w1.alloc (Obj.cells #[Value.int IntKind.u32 1] 72)) (some ⟨w1.heap.size, 0, none⟩) 1 [1] from lit_sl w1 1 (by decide)))
  have HDG := Lib.hid hdg; have HDJ := Lib.hid hdgJ; have HDK := Lib.hid hdgK; have HOJ := Lib.hid hofJ; have HOK := Lib.hid hofK; have HFV := Lib.hid hfive
  have HP1 := Lib.hid hp1; have HP2 := Lib.hid hp2; have HP3 := Lib.hid hp3; have HTL := Lib.hid htail; have HLS := Lib.hid hless
  have HMK := Lib.hid (fun w1 => (show Calls Tryz.prog 50 #[.bool false, .string T, .int .i64 0] w1 (RetB (.tuple #[.agg #[.bool false, .string DS, .int .i64 dx], .int .i64 0]) w1) from hmake w1))
  have HX1 := Lib.hid hX1; have HX2 := Lib.hid hX2; have HX1A := Lib.hid hX1A; have HX2A := Lib.hid hX2A
  have hK1l : K1 ≤ 1076 := by omega
  obtain ⟨eb1, eb2⟩ := heb
  have tok1 : True := trivial
  clear hk1 hsp hof htw hpl hdg hdgJ hdgK hofJ hofK hfive hp1 hp2 hp3 htail hless hmake hX1 hX2 hX1A hX2A htm hup hcase hS hSJ hSK hDS hT hL0 hL2 hL3 hLN hL5 hLJ hLK q1 q2 q3 t1 t2 t3 hV hDSl lne ll lr hu hy hye hK1 hv1 hv2 he hNm hN0 hNl hJlen hKlen hmls h2ls h3ls h5m hulen e45 hx hkf E1 E2 lx0
  go_enter Tryz.func11, Tryz.ntmps11
  go_upto_if 47 with (first
    | (go_at_call 32; (with_reducible refine (HS.out _).mono ?_); rintro e w1 ⟨rfl, hb_w1⟩; have hB_w1 : Below (w).heap.size (w) w1 := Below.trans (by (repeat (first | exact Below.refl _ _ | assumption | refine Below.setCell ?_ (by first | omega | (simp <;> omega)) _ | refine Below.alloc ?_ (by first | omega | (simp <;> omega)) _ | refine Below.drew ?_ | refine below_drewN' ?_ _))) (hb_w1.mono (by first | omega | (simp <;> omega))); obtain ⟨hc_w1, hf_w1⟩ := bcell hb_w1; have hz_w1 := hb_w1.size; (try simp only [size_drew', size_drewN', World.size_alloc, World.size_setCell] at hz_w1))
    | (go_at_call 19; (with_reducible refine (HK.out _).mono ?_); rintro e w' ⟨rfl, rfl⟩)
    | (go_at_call 27; (with_reducible refine (HSP.out _).mono ?_); rintro e w' ⟨rfl, rfl⟩)
    | (clear tok1; go_at_call 44; (with_reducible refine (HOF.out _).mono ?_); rintro e w2 ⟨a2, c2, rfl, s2, z2, -, hb2⟩; have hB2 := hB_w1.trans (hb2.mono hB_w1.size))
    | (go_at_call 49; (with_reducible refine (HTW.out _ _ _ s2).mono ?_); rintro e w3 ⟨a3, c3, rfl, s3, z3, -, hb3⟩; have hB3 := hB2.trans (hb3.mono hB2.size); have s3' := s3.on ((Below.refl w3.heap.size w3).alloc (Nat.le_refl _) (.cells #[Value.int .u32 1] 72)))
    | (go_at_call 48; (with_reducible refine (HPL.out _ _ _ _ _ s3' (HSL.out w3)).mono ?_); rintro e w4 ⟨a4, c4, rfl, s4, z4, -, hb4⟩; have hB4 := (hB3.alloc hB3.size (.cells #[Value.int .u32 1] 72)).trans (hb4.mono (by simp; have := hB3.size; omega))))
  go_cut [8] (fun sv w' => sv = .string S ∧ Hid (Below w.heap.size w w'))
  case first =>
    rcases hcs with ⟨c1, HU, -⟩ | ⟨c1, HT, c2, -⟩
    · go_wp2_with (first
        | (go_at_call 43; (with_reducible refine (HU.out _ _ _ s4 z4).mono ?_); rintro e w5 ⟨a5, c5, rfl, s5, z5, -, hb5⟩; have hB5 := hB4.trans (hb5.mono hB4.size))
        | (go_at_call 42; (with_reducible refine (HDG.out _ _ _ s5 z5).mono ?_); rintro e w6 ⟨rfl, hb6⟩; have hB6 := hB5.trans (hb6.mono hB5.size)))
      go_meet
      exact ⟨rfl, Lib.hid hB6⟩
    · have c1' : ¬ 0 ≤ e := by omega
      go_wp2_with (first
        | (go_at_call 47; (with_reducible refine (HFV.out _).mono ?_); rintro e w5 ⟨a5, c5, rfl, s5, hb5⟩; have hB5 := hB4.trans (hb5.mono hB4.size); have s4' := s4.on hb5)
        | (go_at_call 46; (with_reducible refine (HT.out _ _ _ _ _ s4' s5).mono ?_); rintro e w6 ⟨a6, c6, rfl, s6, z6, -, hb6⟩; have hB6 := hB5.trans (hb6.mono hB5.size))
        | (go_at_call 42; (with_reducible refine (HDG.out _ _ _ s6 z6).mono ?_); rintro e w7 ⟨rfl, hb7⟩; have hB7 := hB6.trans (hb7.mono hB6.size)))
      go_meet
      exact ⟨rfl, Lib.hid hB7⟩
  case rest => as_aux_lemma =>
    obtain ⟨rfl, HBC⟩ := hcut
    have hBC := HBC.out
    have hzc := hBC.size
    clear hB4 hb4 s4 z4 hB3 hb3 s3 s3' z3 hB2 hb2 s2 z2 HBC HTW HPL HSL HDG HFV HK HSP HOF
    go_upto_if 59 with (fail)
    go_cut [9, 10] (fun av bv w' => av = .string X1 ∧ bv = .string X2 ∧ Hid (Below w.heap.size w w'))
    case first =>
      rcases hcs with ⟨c1, -, hJ0⟩ | ⟨c1, -, c2, c3⟩
      · have c1' : ¬ e < 0 := by omega
        go_wp2_with fail
        go_meet
        exact ⟨by rw [HX1A.out hJ0.out], by rw [HX2A.out hJ0.out], Lib.hid hBC⟩
      · have tok1 : True := trivial
        go_wp2_with (first
          | (go_at_call 44; (with_reducible refine (HOJ.out _).mono ?_); rintro e w5 ⟨a5, c5, rfl, s5, z5, -, hb5⟩; have hB5 := hBC.trans (hb5.mono hBC.size))
          | (go_at_call 42; (with_reducible refine (HDJ.out _ _ _ s5 z5).mono ?_); rintro e w6 ⟨rfl, hb6⟩; have hB6 := hB5.trans (hb6.mono hB5.size))
          | (go_at_call 44; (with_reducible refine (HOK.out _).mono ?_); rintro e w7 ⟨a7, c7, rfl, s7, z7, -, hb7⟩; have hB7 := hB6.trans (hb7.mono hB6.size))
          | (go_at_call 42; (with_reducible refine (HDK.out _ _ _ s7 z7).mono ?_); rintro e w8 ⟨rfl, hb8⟩; have hB8 := hB7.trans (hb8.mono hB7.size)))
        go_meet
        exact ⟨by rw [HX1.out], by rw [HX2.out], Lib.hid hB8⟩
    case rest => as_aux_lemma =>
      obtain ⟨rfl, rfl, HBD⟩ := hcut
      have hBD := HBD.out
      have hzd := hBD.size
      clear hBC hzc HBD hcs HX1 HX2 HX1A HX2A HOJ HOK HDJ HDK
      go_upto_region 26 with (first
        | (go_at_call 33; (with_reducible refine (HN.out _).mono ?_); rintro e w5 ⟨rfl, rd5, hb5⟩; have hB5 := hBD.trans (hb5.mono hBD.size))
        | (go_at_call 36; (with_reducible refine (HP1.out _ _ rd5).mono ?_); rintro e w6 ⟨rfl, ho6, rd6⟩; have hB6 := hB5.trans (ho6.up hBD.size))
        | (go_at_call 36; (with_reducible refine (HP2.out _ _ rd6).mono ?_); rintro e w7 ⟨rfl, ho7, rd7⟩; have hB7 := hB6.trans (ho7.up hBD.size))
        | (go_at_call 51; (with_reducible refine (HLS.out _).mono ?_); rintro e w8 ⟨rfl, hb8⟩; have hB8 := hB7.trans (hb8.mono hB7.size); have rd8 := rd7.on hb8)
        | (go_at_call 50; (with_reducible refine (HMK.out _).mono ?_); rintro e w9 ⟨rfl, hb9⟩; have hB9 := hB8.trans (hb9.mono hB8.size); have rd9 := rd8.on hb9))
      have hB0X : Below w9.heap.size w9 (w9.alloc (Obj.cells #[Value.bool false, Value.string DS, Value.int IntKind.i64 dx] 25)) := (Below.refl _ _).alloc (Nat.le_refl _) _
      have CX := Cs.new w9 [.bool false, .string DS, .int .i64 dx] 25
      have RX := rd9.on hB0X
      have hBX := hB9.trans (hB0X.mono hB9.size)
      have hbg : wc.heap.size < w9.heap.size := rd9.lt
      obtain ⟨X, hX⟩ : ∃ X, X = w9.alloc (Obj.cells #[Value.bool false, Value.string DS, Value.int IntKind.i64 dx] 25) := ⟨_, rfl⟩
      change Cs (w9.alloc (Obj.cells #[Value.bool false, Value.string DS, Value.int IntKind.i64 dx] 25)) _ _ at CX
      rw [← hX] at CX RX hBX ⊢
      obtain ⟨g, hg⟩ : ∃ g, g = w9.heap.size := ⟨_, rfl⟩
      rw [← hg] at CX hbg ⊢
      have x1 := CX.get 1 rfl; have x2 := CX.get 2 rfl; have xl := CX.1
      have hzX := hBX.size
      have HRX := Lib.hid RX; have HBX := Lib.hid hBX
      clear hX hg CX RX hBX hB0X hB9 hb9 rd9 hB8 hb8 rd8 hB7 ho7 rd7 hB6 ho6 rd6 hB5 hb5 rd5 HP1 HP2 HLS HMK HS HN
      have hns : ¬ 9223372036854775807 < DS.size + V.size := by omega
      clear hxm hml hJl hE1 hSz hSJz hSKz hX1z hX2z hTz d1 d2 hv1i hv2i hv1l hv2l hK1l hb_w1 hB_w1 hc_w1 hf_w1 hz_w1 eb1 eb2 lx1 hk hDSz hVz
      go_region_held3 (fun w' => w'.cell? ⟨g, 1, none⟩ = some (.string DS) ∧ w'.cell? ⟨g, 2, none⟩ = some (.int .i64 dx))
        (first | go_keep | (refine ⟨?_, ?_⟩ <;> (first | (rw [hr0_w10]; assumption) | (rw [hr0_w11]; assumption))) | (refine ⟨?_, ?_⟩ <;> (first | (go_simp; done) | (simp [go_sem, *]; done))))
        (first
        | (go_at_call 52; (with_reducible refine (HTL.out _).mono ?_); rintro e w10 ⟨rfl, hb_w10⟩; have hB_w10 : Below (X).heap.size (X) w10 := Below.trans (by (repeat (first | exact Below.refl _ _ | assumption | refine Below.setCell ?_ (by first | omega | (simp <;> omega)) _ | refine Below.alloc ?_ (by first | omega | (simp <;> omega)) _ | refine Below.drew ?_ | refine below_drewN' ?_ _))) (hb_w10.mono (by first | omega | (simp <;> omega))); obtain ⟨hc_w10, hf_w10⟩ := bcell hb_w10; have hz_w10 := hb_w10.size; (try simp only [size_drew', size_drewN', World.size_alloc, World.size_setCell] at hz_w10); have hl0_w10 : g < w10.heap.size := (by omega); have hm0_w10 : g ≤ w10.heap.size := (by omega); have hn0_w10 : ¬ g = w10.heap.size := (by omega); have hq0_w10 : ¬ w10.heap.size = g := (by omega); have hr0_w10 := fun o => hc_w10 (g) o (by (try simp only [size_drew', size_drewN', World.size_alloc, World.size_setCell]); omega); have hg0_w10 := fun o => hf_w10 (g) o (by (try simp only [size_drew', size_drewN', World.size_alloc, World.size_setCell]); omega))
        | (go_at_call 36; (with_reducible refine (HP3.out _ _ (HRX.out.on (by (repeat (first | exact Below.refl _ _ | assumption | refine Below.setCell ?_ (by first | omega | (simp <;> omega)) _ | refine Below.alloc ?_ (by first | omega | (simp <;> omega)) _ | refine Below.drew ?_ | refine below_drewN' ?_ _))))).mono ?_); rintro e w11 ⟨rfl, ho11, rd11⟩; have hB11 : Below w.heap.size w w11 := Below.trans (Below.trans HBX.out (Below.mono (by (repeat (first | exact Below.refl _ _ | assumption | refine Below.setCell ?_ (by first | omega | (simp <;> omega)) _ | refine Below.alloc ?_ (by first | omega | (simp <;> omega)) _ | refine Below.drew ?_ | refine below_drewN' ?_ _))) hzX)) (ho11.up hBD.size); have hr0_w11 := fun o => ho11.cell (k := g) (o := o) (by omega) (by (try simp only [size_drew', size_drewN', World.size_alloc, World.size_setCell]); omega)))
      all_goals (try go_wp2)
      all_goals (go_ret; exact RetB.of rfl hB11)

theorem l8_halves_any (x0 : Nat) (w : World) : Calls Tryz.prog 11 #[.int .u64 x0] w (RetB (.bool true) w) := by
  by_cases h : 9218868437227405311 ≤ x0 % 9223372036854775808
  · exact l8_halves_none x0 _ w rfl h
  · exact l8_halves_fine x0 _ w rfl (by omega)
end Go.Proofs.YtjnkbifafbjckaaGreatDoor
