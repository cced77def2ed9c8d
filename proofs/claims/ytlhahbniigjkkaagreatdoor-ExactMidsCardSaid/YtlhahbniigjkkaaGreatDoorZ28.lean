/- The reference: the nearest fraction. -/
import Derived.Test.YtlhahbniigjkkaaGreatDoorZ27
namespace Go.Proofs.YtlhahbniigjkkaaGreatDoor
set_option linter.all false
open Go.RowKit
attribute [local go_sem] Fl.dv

/-- A fraction and an error, as they are returned. -/
def Fl.fv (f : Fl.Frac) : Value := .tuple #[.agg #[.bool f.d.n, .string ⟨f.d.l.toArray⟩, .int .i64 f.d.x, .int .i64 f.p, .int .i64 f.q], .int .i64 f.e]
/-- A result's place for a fraction, as it was made. -/
def Z5 (W : World) (b : Nat) : Prop := W.cell? ⟨b, 0, none⟩ = some (.bool false) ∧ W.cell? ⟨b, 1, none⟩ = some (.string ⟨#[]⟩) ∧ W.cell? ⟨b, 2, none⟩ = some (.int .i64 0) ∧ W.cell? ⟨b, 3, none⟩ = some (.int .i64 0) ∧ W.cell? ⟨b, 4, none⟩ = some (.int .i64 0) ∧ (∀ o, W.frozen? ⟨b, o, none⟩ = false) ∧ b < W.heap.size
theorem Z5.new (w : World) (T : TypeId) : Z5 (w.alloc (Obj.cells #[Value.bool false, Value.string ⟨#[]⟩, Value.int IntKind.i64 0, Value.int IntKind.i64 0, Value.int IntKind.i64 0] T)) w.heap.size :=
  ⟨by simp [go_sem], by simp [go_sem], by simp [go_sem], by simp [go_sem], by simp [go_sem], fun o => by
    unfold World.frozen?; simp only []
    rw [show (w.alloc (Obj.cells #[Value.bool false, Value.string ⟨#[]⟩, Value.int IntKind.i64 0, Value.int IntKind.i64 0, Value.int IntKind.i64 0] T)).heap[w.heap.size]? = some _ from heap_alloc_new w _]
    simp, by simp⟩
theorem Z5.on {W W' : World} {b : Nat} (h : Z5 W b) (hb : Below W.heap.size W W') : Z5 W' b := by
  obtain ⟨h0, h1, h2, h3, h4, hf, hl⟩ := h
  exact ⟨(hb.cell (p := ⟨b, 0, none⟩) hl).trans h0, (hb.cell (p := ⟨b, 1, none⟩) hl).trans h1, (hb.cell (p := ⟨b, 2, none⟩) hl).trans h2, (hb.cell (p := ⟨b, 3, none⟩) hl).trans h3, (hb.cell (p := ⟨b, 4, none⟩) hl).trans h4, fun o => (hb.frozen (p := ⟨b, o, none⟩) hl).trans (hf o), Nat.lt_of_lt_of_le hl hb.size⟩
theorem Z5.alloc {W : World} {b : Nat} (h : Z5 W b) (o : Obj) : Z5 (W.alloc o) b := h.on ((Below.refl _ _).alloc (Nat.le_refl _) o)
theorem Z5.step {W W1 W' : World} {b : Nat} (h : Z5 W b) (hb : Below W1.heap.size W1 W') (hW : Below W.heap.size W W1 := by first | exact Below.alloc (Below.refl _ _) (Nat.le_refl _) _ | (repeat (first | exact Below.refl _ _ | refine Below.setCell ?_ (by first | exact Nat.le_refl _ | (simp <;> omega)) _ | refine Below.alloc ?_ (by first | exact Nat.le_refl _ | (simp <;> omega)) _ | refine Below.drew ?_))) : Z5 W' b := (h.on hW).on hb

theorem Fl.two_pow_lt {k : Nat} (hk : k ≤ 1100) : 2 ^ k < Na.B ^ 40 := by
  obtain ⟨c, hc⟩ : ∃ c, c = 40 := ⟨_, rfl⟩
  have h1 : (2 : Nat) ^ k < 2 ^ (32 * c) := Nat.pow_lt_pow_right (by decide) (by omega)
  rw [Nat.pow_mul, hc] at h1
  exact h1
theorem Fl.shr_small {n k : Nat} (hn : n < Na.B ^ 60) : Na.shr (Na.limbs n) (k : Int) = (Na.limbs (n / 2 ^ k), decide (n % 2 ^ k ≠ 0), 0) := by
  have := Na.limbs_len_le _ _ hn
  rw [Na.shr, if_neg (by omega), Na.big, Na.rt_limbs, decide_eq_false (by omega), if_neg (by simp), Na.val_limbs, Int.toNat_natCast]
theorem Fl.value_small {n : Nat} (hn : n < 18446744073709551616) : Na.value (Na.limbs n) = (n, true) := by
  have := Na.limbs_len_le n 2 hn
  rw [Na.value, Na.rt_limbs, if_neg (by omega), Na.val_limbs]

section
variable (x : Nat) (hx : x < 18446744073709551616) (most : Int) (hm : -9223372036854775808 ≤ most ∧ most ≤ 9223372036854775807) (w : World)
include hx hm

set_option maxHeartbeats 1000000 in
theorem r9_ratio_none (h : 3 ≤ Fl.kind x) : Calls Tryz.prog 19 #[.int .u64 x, .int .i64 most] w (RetB (Fl.fv (Fl.ratio x most)) w) := by
  have hd := Lib.hid (show Fl.ratio x most = ⟨⟨false, [], 0, 0⟩, 0, 0, 11⟩ from if_pos h)
  have hk := fun w => r9_finite_any x hx w
  rw [decide_eq_false (by omega)] at hk
  have HK := Lib.hid hk
  clear h hk
  go_enter Tryz.func19, Tryz.ntmps19
  go_wp2_with (go_at_call 35; (with_reducible refine (HK.out _).mono ?_); rintro e w' ⟨rfl, rfl⟩)
  refine bodyPost_ret (v := .tuple #[.agg #[.bool false, .string ⟨#[]⟩, .int .i64 0, .int .i64 0, .int .i64 0], .int .i64 11]) (by simp [results, Tryz.results19, go_sem]; done) rfl (RetB.of (by rw [hd.out]; first | done | rfl) (by (repeat (first | exact Below.refl _ _ | assumption | refine Below.setCell ?_ (by first | omega | (simp <;> omega)) _ | refine Below.alloc ?_ (by first | omega | (simp <;> omega)) _ | refine Below.drew ?_ | refine below_drewN' ?_ _))))

set_option maxHeartbeats 1000000 in
theorem r9_ratio_arg (h : Fl.kind x < 3) (hmo : most < 1 ∨ 9999 < most) : Calls Tryz.prog 19 #[.int .u64 x, .int .i64 most] w (RetB (Fl.fv (Fl.ratio x most)) w) := by
  have hd := Lib.hid (show Fl.ratio x most = ⟨⟨false, [], 0, 0⟩, 0, 0, 1⟩ by rw [Fl.ratio, if_neg (by omega), if_pos hmo])
  have hk := fun w => r9_finite_any x hx w
  rw [decide_eq_true h] at hk
  have HK := Lib.hid hk
  clear h hk
  by_cases h1 : most < 1
  · clear hmo
    go_enter Tryz.func19, Tryz.ntmps19
    go_wp2_with (go_at_call 35; (with_reducible refine (HK.out _).mono ?_); rintro e w' ⟨rfl, rfl⟩)
    refine bodyPost_ret (v := .tuple #[.agg #[.bool false, .string ⟨#[]⟩, .int .i64 0, .int .i64 0, .int .i64 0], .int .i64 1]) (by simp [results, Tryz.results19, go_sem]; done) rfl (RetB.of (by rw [hd.out]; first | done | rfl) (by (repeat (first | exact Below.refl _ _ | assumption | refine Below.setCell ?_ (by first | omega | (simp <;> omega)) _ | refine Below.alloc ?_ (by first | omega | (simp <;> omega)) _ | refine Below.drew ?_ | refine below_drewN' ?_ _))))
  · have h2 : 9999 < most := by omega
    have h1' : decide (most < 1) = false := decide_eq_false h1
    clear hmo
    go_enter Tryz.func19, Tryz.ntmps19
    go_wp2_with (go_at_call 35; (with_reducible refine (HK.out _).mono ?_); rintro e w' ⟨rfl, rfl⟩)
    refine bodyPost_ret (v := .tuple #[.agg #[.bool false, .string ⟨#[]⟩, .int .i64 0, .int .i64 0, .int .i64 0], .int .i64 1]) (by simp [results, Tryz.results19, go_sem]; done) rfl (RetB.of (by rw [hd.out]; first | done | rfl) (by (repeat (first | exact Below.refl _ _ | assumption | refine Below.setCell ?_ (by first | omega | (simp <;> omega)) _ | refine Below.alloc ?_ (by first | omega | (simp <;> omega)) _ | refine Below.drew ?_ | refine below_drewN' ?_ _))))

set_option maxHeartbeats 2000000 in
theorem r9_ratio_up (h : Fl.kind x < 3) (hmo : 1 ≤ most ∧ most ≤ 9999) (he : 0 ≤ Fl.expn x) : Calls Tryz.prog 19 #[.int .u64 x, .int .i64 most] w (RetB (Fl.fv (Fl.ratio x most)) w) := by
  have hd := Lib.hid (show Fl.ratio x most = ⟨Fl.of (Fl.neg x) (Fl.mant x) (Fl.expn x), 0, 1, 0⟩ by rw [Fl.ratio, if_neg (by omega), if_neg (by omega), if_pos he])
  obtain ⟨b1, -, b3, -⟩ := Fl.dec_bounds x
  have hk := fun w => r9_finite_any x hx w
  have hsp := fun w => r3_split_any x hx w
  rw [decide_eq_true h] at hk
  have HK := Lib.hid hk
  obtain ⟨m, hm'⟩ : ∃ k, k = Fl.mant x := ⟨_, rfl⟩
  obtain ⟨e, he'⟩ : ∃ k, k = Fl.expn x := ⟨_, rfl⟩
  obtain ⟨s, hs'⟩ : ∃ k, k = Fl.neg x := ⟨_, rfl⟩
  rw [← hm', ← he', ← hs'] at hsp hd
  rw [← hm'] at b1
  rw [← he'] at b3 he
  have hml : m < 18446744073709551616 := b1
  obtain ⟨e3, e4⟩ := b3
  obtain ⟨m1, m2⟩ := hmo
  have hmo1 : decide (most < 1) = false := decide_eq_false (by omega)
  have HSP := Lib.hid hsp
  have HO := Lib.hid (fun w => r3_nat_any m hml w)
  have HEX := Lib.hid (fun w1 a1 c1 (hs : Sl w1 a1 c1 (Na.limbs m)) (hz : a1 = none → c1 = 0) => r9_of_any s a1 c1 m e w1 hs hz b1 ⟨e3, e4⟩)
  obtain ⟨R, hR⟩ : ∃ R, R = Fl.of s m e := ⟨_, rfl⟩
  rw [← hR] at hd HEX
  clear hm' he' hs' hk hsp b1 hR h
  go_enter Tryz.func19, Tryz.ntmps19
  go_wp2_with (first
    | (go_at_call 35; (with_reducible refine (HK.out _).mono ?_); rintro e w' ⟨rfl, rfl⟩)
    | (go_at_call 26; (with_reducible refine (HSP.out _).mono ?_); rintro e w' ⟨rfl, rfl⟩)
    | (go_at_call 28; (with_reducible refine (HO.out _).mono ?_); rintro e w1 ⟨a1, c1, rfl, s1, z1, -, hb1⟩; have zz1 := (Z5.new w _).on hb1; have hB1 : Below w.heap.size w w1 := Below.trans ((Below.refl _ _).alloc (Nat.le_refl _) _) (hb1.mono (by simp)))
    | (go_at_call 36; (with_reducible refine (HEX.out _ _ _ s1 z1).mono ?_); rintro e w2 ⟨rfl, hb2⟩; have hB2 := hB1.trans (hb2.mono hB1.size); have zz2 := zz1.on hb2; obtain ⟨y0, y1, y2, y3, y4, yf, yl⟩ := zz2; have yf0 := yf 0; have yf1 := yf 1; have yf2 := yf 2; have yf3 := yf 3; have yf4 := yf 4))
  refine bodyPost_ret (v := .tuple #[.agg #[.bool R.n, .string ⟨R.l.toArray⟩, .int .i64 R.x, .int .i64 0, .int .i64 1], .int .i64 0]) (by simp [results, Tryz.results19, go_sem, y0, y1, y2, y3, y4, yf0, yf1, yf2, yf3, yf4, yl]; done) rfl (RetB.of (by rw [hd.out]; first | done | rfl) (by (repeat (first | exact Below.refl _ _ | assumption | refine Below.setCell ?_ (by first | omega | (simp <;> omega)) _ | refine Below.alloc ?_ (by first | omega | (simp <;> omega)) _ | refine Below.drew ?_ | refine below_drewN' ?_ _))))
end

def ratLoop9 (r u M : Nat) (wo : World) (B : Nat) (sv tv qv : Value) (wr : World) : Prop := ∃ (q : Nat) (b : Nat × Nat), q ≤ M ∧ Hid (b = Fl.best r u q) ∧ b.1 ≤ 100000 ∧ b.2 ≤ 100000 ∧ sv = .int .i64 b.1 ∧ tv = .int .i64 b.2 ∧ qv = .int .i64 ((q : Int) + 1) ∧ Hid (Z5 wr B) ∧ Hid (Below wo.heap.size wo wr)
theorem lit_one9 (w : World) : Sl (w.alloc (Obj.cells #[Value.int IntKind.u32 1] 65)) (some ⟨w.heap.size, 0, none⟩) 1 (Na.limbs 1) := by rw [Na.limbs_one]; exact lit_sl w 1 (by decide)

set_option maxRecDepth 100000 in
set_option maxHeartbeats 8000000 in
theorem r9_ratio_main (x : Nat) (hx : x < 18446744073709551616) (M : Nat) (w : World) (h : Fl.kind x < 3) (hM : 1 ≤ M ∧ M ≤ 9999) (he : Fl.expn x < 0) :
    Calls Tryz.prog 19 #[.int .u64 x, .int .i64 M] w (RetB (Fl.fv (Fl.ratio x M)) w) := by
  obtain ⟨b1, -, b3, -⟩ := Fl.dec_bounds x
  have hm53 := Fl.mant_lt x
  have hk := fun w => r9_finite_any x hx w
  have hsp := fun w => r3_split_any x hx w
  rw [decide_eq_true h] at hk
  have HK := Lib.hid hk
  obtain ⟨k, hkk⟩ : ∃ k : Nat, k = (-Fl.expn x).toNat := ⟨_, rfl⟩
  have hd1 := Fl.best_bounds (r := Fl.mant x % 2 ^ k) (u := 2 ^ k) (Nat.mod_lt _ (Nat.pow_pos (by decide)))
  have hwh := Fl.best_whole (r := Fl.mant x % 2 ^ k) (u := 2 ^ k) (Nat.mod_lt _ (Nat.pow_pos (by decide)))
  have hd : Fl.ratio x M = if Fl.best (Fl.mant x % 2 ^ k) (2 ^ k) M = (1, 1) then ⟨Fl.of (Fl.neg x) (Fl.mant x / 2 ^ k + 1) 0, 0, 1, 0⟩ else ⟨Fl.of (Fl.neg x) (Fl.mant x / 2 ^ k) 0, (Fl.best (Fl.mant x % 2 ^ k) (2 ^ k) M).1, (Fl.best (Fl.mant x % 2 ^ k) (2 ^ k) M).2, 0⟩ := by
    rw [Fl.ratio, if_neg (by omega), if_neg (by omega), if_neg (by omega), ← hkk, Int.toNat_natCast]
  obtain ⟨m, hm'⟩ : ∃ k, k = Fl.mant x := ⟨_, rfl⟩
  obtain ⟨e, he'⟩ : ∃ k, k = Fl.expn x := ⟨_, rfl⟩
  obtain ⟨s, hs'⟩ : ∃ k, k = Fl.neg x := ⟨_, rfl⟩
  rw [← hm'] at hd1 hwh b1 hm53
  rw [← he'] at b3 he hkk
  rw [← hm', ← he', ← hs'] at hsp
  rw [← hm', ← hs'] at hd
  have hk1 : k ≤ 1100 := by omega
  have hke : -e = (k : Int) := by omega
  have hul := Fl.two_pow_lt hk1
  obtain ⟨u, hu⟩ : ∃ u, u = 2 ^ k := ⟨_, rfl⟩
  have hu0 : 0 < u := by rw [hu]; exact Nat.pow_pos (by decide)
  obtain ⟨r, hr⟩ : ∃ r, r = m % u := ⟨_, rfl⟩
  have hru : r < u := by rw [hr]; exact Nat.mod_lt _ hu0
  obtain ⟨v, hv⟩ : ∃ r, r = m / u := ⟨_, rfl⟩
  have hvl : v < 9007199254740992 := by rw [hv]; exact Nat.lt_of_le_of_lt (Nat.div_le_self _ _) hm53
  rw [← hu] at hul
  rw [← hu, ← hr] at hd1 hwh
  rw [← hu, ← hr, ← hv] at hd
  have hrl : r < Na.B ^ 40 := Nat.lt_trans hru hul
  have hml : m < 18446744073709551616 := b1
  obtain ⟨e3, e4⟩ := b3
  obtain ⟨m1, m2⟩ := hM
  have hmo1 : decide ((M : Int) < 1) = false := decide_eq_false (by omega)
  have HSP := Lib.hid hsp
  have HO := Lib.hid (fun w => r3_nat_any m hml w)
  have lu := Na.limbs_len_le _ _ hul
  have lm := Na.limbs_len_le m 2 b1
  have HUP := Lib.hid (fun (wr : World) => (by
    have := r3_up_any _ _ (Na.limbs 1) k _ (lit_one9 wr) (fun e => by cases e) (by rw [Na.limbs_one]; simp) (by omega)
    rw [Na.val_limbs, Nat.one_mul, ← hu, Na.limbs_one] at this
    exact this : Calls Tryz.prog 49 #[.slice (some ⟨wr.heap.size, 0, none⟩) 1 1, .int .i64 k] (wr.alloc (Obj.cells #[Value.int IntKind.u32 1] 65)) (GivesZ (Na.limbs u) (wr.alloc (Obj.cells #[Value.int IntKind.u32 1] 65)))))
  have HPT := Lib.hid (fun (wr : World) a1 c1 a2 c2 (s1 : Sl wr a1 c1 (Na.limbs m)) (z1 : a1 = none → c1 = 0) (s2 : Sl wr a2 c2 (Na.limbs u)) (z2 : a2 = none → c2 = 0) => (by
    have := r1_parts_z a1 c1 (Na.limbs m) a2 c2 (Na.limbs u) wr s1 z1 s2 z2 (by omega) (by omega) (by rw [Na.val_limbs]; exact hu0)
    rw [Na.val_limbs, Na.val_limbs, ← hr, ← hv] at this
    exact this : Calls Tryz.prog 50 #[.slice a1 (Na.limbs m).length c1, .slice a2 (Na.limbs u).length c2] wr (GvPz v r wr)))
  have HD := Lib.hid hd; have HD1 := Lib.hid hd1; have HWH := Lib.hid hwh
  have HU := Lib.hid hu
  clear hd hd1 hwh hm' he' hs' hk hsp b1 hkk h hr hv hu hm53 lm
  go_enter Tryz.func19, Tryz.ntmps19
  go_wp2_with (first
    | (go_at_call 35; (with_reducible refine (HK.out _).mono ?_); rintro e w' ⟨rfl, rfl⟩)
    | (go_at_call 26; (with_reducible refine (HSP.out _).mono ?_); rintro e w' ⟨rfl, rfl⟩)
    | (go_at_call 28; (with_reducible refine (HO.out _).mono ?_); rintro e w1 ⟨a1, c1, rfl, s1, z1, -, hb1⟩; have zz1 := (Z5.new w _).on hb1; have hB1 : Below w.heap.size w w1 := Below.trans ((Below.refl _ _).alloc (Nat.le_refl _) _) (hb1.mono (by simp)))
    | (go_at_call 49; (with_reducible refine (HUP.out _).mono ?_); rintro e w2 ⟨a2, c2, rfl, s2, z2, -, hb2⟩; have hba2 : Below w1.heap.size w1 w2 := Below.trans ((Below.refl _ _).alloc (Nat.le_refl _) _) (hb2.mono (by simp)); have s12 := s1.on hba2; have zz2 := zz1.on hba2; have hB2 := hB1.trans (hba2.mono hB1.size))
    | (go_at_call 50; (with_reducible refine (HPT.out _ _ _ _ _ s12 z1 s2 z2).mono ?_); rintro e w3 ⟨a3, c3, a4, c4, rfl, s3, s4, z3, z4, hb3⟩; have s23 := s2.on hb3; have zz3 := zz2.on hb3; have hB3 := hB2.trans (hb3.mono hB2.size)))
  have HSW := Lib.hid s3; have HSR := Lib.hid s4; have HSU := Lib.hid s23; have HB3 := Lib.hid hB3; have HZ3 := Lib.hid zz3
  clear s3 s4 s23 hB3 hb3 hb2 hb1 hB2 hba2 s12 s1 s2 zz1 zz2 zz3 hB1
  go_loopw [14, 15, 16] (ratLoop9 r u M w3 w.heap.size) (fun _ _ q _ => M + 1 - (intOf q).toNat)
  case atStart => exact ⟨0, (0, 1), Nat.zero_le _, Lib.hid rfl, by decide, by decide, rfl, rfl, rfl, HZ3, Lib.hid (Below.refl _ _)⟩
  case round =>
    obtain ⟨q, b, hq, HB, hb1, hb2, rfl, rfl, rfl, HZR, HBe⟩ := hrel
    have hsz := HBe.out.size
    by_cases hlt : q < M
    · obtain ⟨q1, hq1⟩ : ∃ q1, q1 = q + 1 := ⟨_, rfl⟩
      have hqi : (q : Int) + 1 = (q1 : Int) := by omega
      rw [hqi]
      have hq1M : q1 ≤ M := by omega
      obtain ⟨P, hP⟩ : ∃ P, P = r * q1 / u := ⟨_, rfl⟩
      have hPq : P ≤ q1 := by
        rw [hP]
        exact Nat.le_of_lt ((Nat.div_lt_iff_lt_mul hu0).2 (by rw [Nat.mul_comm q1]; exact Nat.mul_lt_mul_of_pos_right hru (by omega)))
      have HN := Lib.hid (fun w1 => r3_nat_any q1 (by omega) w1)
      have HT := Lib.hid (fun w1 a2 c2 (hb : Below w3.heap.size w3 w1) (h2 : Sl w1 a2 c2 (Na.limbs q1)) => Fl.times1_any a4 c4 r q1 a2 c2 w1 (HSR.out.on hb) h2 (Nat.lt_of_lt_of_le hrl (Nat.pow_le_pow_right (by decide) (by decide))) (Nat.lt_of_le_of_lt (show q1 ≤ 100000 by omega) (by decide)))
      have hprod : r * q1 < Na.B ^ 60 := Nat.lt_of_lt_of_le (Fl.prod_lt hrl (Fl.small_k (show q1 ≤ 100000 by omega))) (Nat.pow_le_pow_right (by decide) (by decide))
      have lprod := Na.limbs_len_le _ _ hprod
      obtain ⟨y, hy⟩ : ∃ y, y = r * q1 := ⟨_, rfl⟩
      rw [← hy] at HT hprod lprod hP
      have HSH := Lib.hid (fun w1 a2 c2 (h2 : Sl w1 a2 c2 (Na.limbs y)) (z2 : a2 = none → c2 = 0) => (by
        have := r1_shr_z a2 c2 (Na.limbs y) (k : Int) w1 h2 z2 (by omega) (by omega)
        rw [Fl.shr_small hprod, ← HU.out, ← hP] at this
        exact this : Calls Tryz.prog 51 #[.slice a2 (Na.limbs y).length c2, .int .i64 k] w1 (GvT3z (Na.limbs P, decide (y % u ≠ 0), 0) w1)))
      have lP := Na.limbs_len_le P 2 (show P < Na.B ^ 2 from Nat.lt_of_le_of_lt (show P ≤ 100000 by omega) (by decide))
      have HVL := Lib.hid (fun w1 a2 c2 (h2 : Sl w1 a2 c2 (Na.limbs P)) (z2 : a2 = none → c2 = 0) => (by
        have := r1_value_any a2 c2 (Na.limbs P) w1 h2 z2 (by omega)
        rw [Fl.value_small (show P < 18446744073709551616 by omega)] at this
        exact this : Calls Tryz.prog 53 #[.slice a2 (Na.limbs P).length c2] w1 (RetB (.tuple #[.int .u64 P, .bool true]) w1)))
      have HN1 := Lib.hid (fun w1 (hb : Below w3.heap.size w3 w1) => r9_nearer_any a4 a2 c4 c2 r u P q1 b w1 (HSR.out.on hb) (HSU.out.on hb) hrl hul (by omega) (by omega) hb1 hb2)
      have HT2 := Lib.hid (show Fl.best r u q1 = Fl.pick r u (P + 1) q1 (Fl.pick r u P q1 b) by rw [hP, hy, HB.out, hq1]; rfl)
      obtain ⟨n1, hn1⟩ : ∃ n1, n1 = Fl.nearer r u P q1 b := ⟨_, rfl⟩
      rw [← hn1] at HN1
      obtain ⟨b', hb'⟩ : ∃ b', b' = Fl.pick r u P q1 b := ⟨_, rfl⟩
      have hb1' : b' = if n1 = true then (P, q1) else b := by rw [hb', hn1]; rfl
      have hbb : b'.1 ≤ 100000 ∧ b'.2 ≤ 100000 := by
        rw [hb1']
        split
        · exact ⟨by show P ≤ 100000; omega, by show q1 ≤ 100000; omega⟩
        · exact ⟨hb1, hb2⟩
      have HN2 := Lib.hid (fun w1 (hb : Below w3.heap.size w3 w1) => r9_nearer_any a4 a2 c4 c2 r u (P + 1) q1 b' w1 (HSR.out.on hb) (HSU.out.on hb) hrl hul (by omega) (by omega) hbb.1 hbb.2)
      obtain ⟨n2, hn2⟩ : ∃ n2, n2 = Fl.nearer r u (P + 1) q1 b' := ⟨_, rfl⟩
      rw [← hn2] at HN2
      have hbn : Fl.best r u q1 = if n2 = true then (P + 1, q1) else b' := by rw [HT2.out, ← hb', hn2]; rfl
      have hp1 : ((P + 1 : Nat) : Int) = (P : Int) + 1 := by omega
      obtain ⟨s0, t0⟩ := b
      simp only at hb1 hb2
      clear hn1 hb' hn2 hP hy hq1 HT2
      cases n1 <;> cases n2
      · obtain rfl : b' = (s0, t0) := hb1'
        have hbx : Fl.best r u q1 = (s0, t0) := hbn
        have HBX := Lib.hid hbx.symm
        have HN2' := Lib.hid (show ∀ w1, Below w3.heap.size w3 w1 → Calls Tryz.prog 54 #[.slice a4 (Na.limbs r).length c4, .slice a2 (Na.limbs u).length c2, .int .i64 ((P : Int) + 1), .int .i64 q1, .int .i64 (s0 : Int), .int .i64 t0] w1 (RetB (.bool false) w1) from by rw [← hp1]; exact HN2.out)
        clear hbn hbx HN2 hbb hp1
        go_wp2_with (first
            | (go_at_call 28; (with_reducible refine (HN.out _).mono ?_); rintro e w5 ⟨a5, c5, rfl, s5, -, -, hb5⟩; have hB5 := HBe.out.trans (hb5.mono hsz))
            | (go_at_call 52; (with_reducible refine (HT.out _ _ _ hB5 s5).mono ?_); rintro e w6 ⟨a6, c6, rfl, s6, z6, -, hb6⟩; have hB6 := hB5.trans (hb6.mono hB5.size))
            | (go_at_call 51; (with_reducible refine (HSH.out _ _ _ s6 z6).mono ?_); rintro e w7 ⟨a7, c7, rfl, s7, z7, hb7⟩; have hB7 := hB6.trans (hb7.mono hB6.size))
            | (go_at_call 53; (with_reducible refine (HVL.out _ _ _ s7 z7).mono ?_); rintro e w8 ⟨rfl, hb8⟩; have hB8 := hB7.trans (hb8.mono hB7.size))
            | (go_at_call 54; (with_reducible refine (HN1.out _ hB8).mono ?_); rintro e w9 ⟨rfl, hb9⟩; have hB9 := hB8.trans (hb9.mono hB8.size))
            | (go_at_call 54; (with_reducible refine (HN2'.out _ hB9).mono ?_); rintro e w10 ⟨rfl, hb10⟩; have hB10 := hB9.trans (hb10.mono hB9.size); have zz10 := (((((HZR.out.on hb5).on hb6).on hb7).on hb8).on hb9).on hb10))
        go_roundw
        case rel => exact ⟨q1, (s0, t0), hq1M, HBX, by show s0 ≤ 100000; omega, by show t0 ≤ 100000; omega, by first | rfl | go_num, by first | rfl | go_num, rfl, Lib.hid zz10, Lib.hid hB10⟩
        case measure => simp [intOf]; omega
      · obtain rfl : b' = (s0, t0) := hb1'
        have hbx : Fl.best r u q1 = (P + 1, q1) := hbn
        have HBX := Lib.hid hbx.symm
        have HN2' := Lib.hid (show ∀ w1, Below w3.heap.size w3 w1 → Calls Tryz.prog 54 #[.slice a4 (Na.limbs r).length c4, .slice a2 (Na.limbs u).length c2, .int .i64 ((P : Int) + 1), .int .i64 q1, .int .i64 (s0 : Int), .int .i64 t0] w1 (RetB (.bool true) w1) from by rw [← hp1]; exact HN2.out)
        clear hbn hbx HN2 hbb hp1
        go_wp2_with (first
            | (go_at_call 28; (with_reducible refine (HN.out _).mono ?_); rintro e w5 ⟨a5, c5, rfl, s5, -, -, hb5⟩; have hB5 := HBe.out.trans (hb5.mono hsz))
            | (go_at_call 52; (with_reducible refine (HT.out _ _ _ hB5 s5).mono ?_); rintro e w6 ⟨a6, c6, rfl, s6, z6, -, hb6⟩; have hB6 := hB5.trans (hb6.mono hB5.size))
            | (go_at_call 51; (with_reducible refine (HSH.out _ _ _ s6 z6).mono ?_); rintro e w7 ⟨a7, c7, rfl, s7, z7, hb7⟩; have hB7 := hB6.trans (hb7.mono hB6.size))
            | (go_at_call 53; (with_reducible refine (HVL.out _ _ _ s7 z7).mono ?_); rintro e w8 ⟨rfl, hb8⟩; have hB8 := hB7.trans (hb8.mono hB7.size))
            | (go_at_call 54; (with_reducible refine (HN1.out _ hB8).mono ?_); rintro e w9 ⟨rfl, hb9⟩; have hB9 := hB8.trans (hb9.mono hB8.size))
            | (go_at_call 54; (with_reducible refine (HN2'.out _ hB9).mono ?_); rintro e w10 ⟨rfl, hb10⟩; have hB10 := hB9.trans (hb10.mono hB9.size); have zz10 := (((((HZR.out.on hb5).on hb6).on hb7).on hb8).on hb9).on hb10))
        go_roundw
        case rel => exact ⟨q1, (P + 1, q1), hq1M, HBX, by show P + 1 ≤ 100000; omega, by show q1 ≤ 100000; omega, by first | rfl | go_num, by first | rfl | go_num, rfl, Lib.hid zz10, Lib.hid hB10⟩
        case measure => simp [intOf]; omega
      · obtain rfl : b' = (P, q1) := hb1'
        have hbx : Fl.best r u q1 = (P, q1) := hbn
        have HBX := Lib.hid hbx.symm
        have HN2' := Lib.hid (show ∀ w1, Below w3.heap.size w3 w1 → Calls Tryz.prog 54 #[.slice a4 (Na.limbs r).length c4, .slice a2 (Na.limbs u).length c2, .int .i64 ((P : Int) + 1), .int .i64 q1, .int .i64 (P : Int), .int .i64 q1] w1 (RetB (.bool false) w1) from by rw [← hp1]; exact HN2.out)
        clear hbn hbx HN2 hbb hp1
        go_wp2_with (first
            | (go_at_call 28; (with_reducible refine (HN.out _).mono ?_); rintro e w5 ⟨a5, c5, rfl, s5, -, -, hb5⟩; have hB5 := HBe.out.trans (hb5.mono hsz))
            | (go_at_call 52; (with_reducible refine (HT.out _ _ _ hB5 s5).mono ?_); rintro e w6 ⟨a6, c6, rfl, s6, z6, -, hb6⟩; have hB6 := hB5.trans (hb6.mono hB5.size))
            | (go_at_call 51; (with_reducible refine (HSH.out _ _ _ s6 z6).mono ?_); rintro e w7 ⟨a7, c7, rfl, s7, z7, hb7⟩; have hB7 := hB6.trans (hb7.mono hB6.size))
            | (go_at_call 53; (with_reducible refine (HVL.out _ _ _ s7 z7).mono ?_); rintro e w8 ⟨rfl, hb8⟩; have hB8 := hB7.trans (hb8.mono hB7.size))
            | (go_at_call 54; (with_reducible refine (HN1.out _ hB8).mono ?_); rintro e w9 ⟨rfl, hb9⟩; have hB9 := hB8.trans (hb9.mono hB8.size))
            | (go_at_call 54; (with_reducible refine (HN2'.out _ hB9).mono ?_); rintro e w10 ⟨rfl, hb10⟩; have hB10 := hB9.trans (hb10.mono hB9.size); have zz10 := (((((HZR.out.on hb5).on hb6).on hb7).on hb8).on hb9).on hb10))
        go_roundw
        case rel => exact ⟨q1, (P, q1), hq1M, HBX, by show P ≤ 100000; omega, by show q1 ≤ 100000; omega, by first | rfl | go_num, by first | rfl | go_num, rfl, Lib.hid zz10, Lib.hid hB10⟩
        case measure => simp [intOf]; omega
      · obtain rfl : b' = (P, q1) := hb1'
        have hbx : Fl.best r u q1 = (P + 1, q1) := hbn
        have HBX := Lib.hid hbx.symm
        have HN2' := Lib.hid (show ∀ w1, Below w3.heap.size w3 w1 → Calls Tryz.prog 54 #[.slice a4 (Na.limbs r).length c4, .slice a2 (Na.limbs u).length c2, .int .i64 ((P : Int) + 1), .int .i64 q1, .int .i64 (P : Int), .int .i64 q1] w1 (RetB (.bool true) w1) from by rw [← hp1]; exact HN2.out)
        clear hbn hbx HN2 hbb hp1
        go_wp2_with (first
            | (go_at_call 28; (with_reducible refine (HN.out _).mono ?_); rintro e w5 ⟨a5, c5, rfl, s5, -, -, hb5⟩; have hB5 := HBe.out.trans (hb5.mono hsz))
            | (go_at_call 52; (with_reducible refine (HT.out _ _ _ hB5 s5).mono ?_); rintro e w6 ⟨a6, c6, rfl, s6, z6, -, hb6⟩; have hB6 := hB5.trans (hb6.mono hB5.size))
            | (go_at_call 51; (with_reducible refine (HSH.out _ _ _ s6 z6).mono ?_); rintro e w7 ⟨a7, c7, rfl, s7, z7, hb7⟩; have hB7 := hB6.trans (hb7.mono hB6.size))
            | (go_at_call 53; (with_reducible refine (HVL.out _ _ _ s7 z7).mono ?_); rintro e w8 ⟨rfl, hb8⟩; have hB8 := hB7.trans (hb8.mono hB7.size))
            | (go_at_call 54; (with_reducible refine (HN1.out _ hB8).mono ?_); rintro e w9 ⟨rfl, hb9⟩; have hB9 := hB8.trans (hb9.mono hB8.size))
            | (go_at_call 54; (with_reducible refine (HN2'.out _ hB9).mono ?_); rintro e w10 ⟨rfl, hb10⟩; have hB10 := hB9.trans (hb10.mono hB9.size); have zz10 := (((((HZR.out.on hb5).on hb6).on hb7).on hb8).on hb9).on hb10))
        go_roundw
        case rel => exact ⟨q1, (P + 1, q1), hq1M, HBX, by show P + 1 ≤ 100000; omega, by show q1 ≤ 100000; omega, by first | rfl | go_num, by first | rfl | go_num, rfl, Lib.hid zz10, Lib.hid hB10⟩
        case measure => simp [intOf]; omega
    · obtain rfl : q = M := by omega
      have hb := HB.out
      obtain ⟨hd1, hd2, hd3⟩ := HD1.out q
      have hwh := HWH.out q
      have hrt := HD.out
      rw [← hb] at hd1 hd2 hd3 hwh hrt
      obtain ⟨s0, t0⟩ := b
      simp only at *
      have hq1i : ¬ (q : Int) + 1 ≤ (q : Int) := by omega
      have hBW := HB3.out.trans (HBe.out.mono HB3.out.size)
      by_cases heq : s0 = t0
      · have hone := hwh heq
        rw [if_pos hone] at hrt
        have HR := Lib.hid hrt
        subst heq
        have hSA : Sl (wr.alloc (Obj.cells #[Value.int IntKind.u32 1] 65)) a3 c3 (Na.limbs v) := (HSW.out.on HBe.out).on ((Below.refl _ _).alloc (Nat.le_refl _) _)
        have hpl := r1_plus_any a3 c3 (Na.limbs v) _ _ (Na.limbs 1) _ hSA (lit_one9 wr) (by have := Na.limbs_len_le v 2 (Nat.lt_trans hvl (by decide)); omega) (by rw [Na.limbs_one]; simp)
        rw [Na.val_limbs, Na.val_limbs, Na.limbs_one] at hpl
        have HPL := Lib.hid (show Calls Tryz.prog 55 #[.slice a3 (Na.limbs v).length c3, .slice (some ⟨wr.heap.size, 0, none⟩) 1 1] (wr.alloc (Obj.cells #[Value.int IntKind.u32 1] 65)) (GivesZ (Na.limbs (v + 1)) (wr.alloc (Obj.cells #[Value.int IntKind.u32 1] 65))) from hpl)
        have HOF := Lib.hid (fun w1 a1 c1 (hs : Sl w1 a1 c1 (Na.limbs (v + 1))) (hz : a1 = none → c1 = 0) => r9_of_any s a1 c1 (v + 1) 0 w1 hs hz (Nat.lt_trans (show v + 1 < 18014398509481984 by omega) (by decide)) (by omega))
        obtain ⟨R, hR⟩ : ∃ R, R = Fl.of s (v + 1) 0 := ⟨_, rfl⟩
        rw [← hR] at HR HOF
        have HBA := Lib.hid (hBW.alloc hBW.size (Obj.cells #[Value.int IntKind.u32 1] 65))
        clear hone hwh hrt hpl hSA hR hb hd1 hd2 hd3
        go_wp2_with (first
          | (go_at_call 55; (with_reducible refine (HPL.out).mono ?_); rintro e w5 ⟨a5, c5, rfl, s5, z5, -, hb5⟩; have hB5 := HBA.out.trans (hb5.mono HBA.out.size); have zz5 := (HZR.out.alloc _).on hb5)
          | (go_at_call 36; (with_reducible refine (HOF.out _ _ _ s5 z5).mono ?_); rintro e w6 ⟨rfl, hb6⟩; have hB6 := hB5.trans (hb6.mono hB5.size); have zz6 := zz5.on hb6; obtain ⟨y0, y1, y2, y3, y4, yf, yl⟩ := zz6; have yf0 := yf 0; have yf1 := yf 1; have yf2 := yf 2; have yf3 := yf 3; have yf4 := yf 4))
        refine bodyPost_ret (v := .tuple #[.agg #[.bool R.n, .string ⟨R.l.toArray⟩, .int .i64 R.x, .int .i64 0, .int .i64 1], .int .i64 0]) (by simp [results, Tryz.results19, go_sem, y0, y1, y2, y3, y4, yf0, yf1, yf2, yf3, yf4, yl]; done) rfl (RetB.of (by rw [HR.out]; first | done | rfl) (by (repeat (first | exact Below.refl _ _ | assumption | refine Below.setCell ?_ (by first | omega | (simp <;> omega)) _ | refine Below.alloc ?_ (by first | omega | (simp <;> omega)) _ | refine Below.drew ?_ | refine below_drewN' ?_ _))))
      · have hne : ¬ (s0, t0) = (1, 1) := fun e => heq (by cases e; rfl)
        rw [if_neg hne] at hrt
        have HR := Lib.hid hrt
        have heqi : ((s0 : Int) == (t0 : Int)) = false := by simp only [beq_eq_false_iff_ne, ne_eq]; omega
        have HOF := Lib.hid (fun w1 (hs : Sl w1 a3 c3 (Na.limbs v)) => r9_of_any s a3 c3 v 0 w1 hs z3 (Nat.lt_trans hvl (by decide)) (by omega))
        obtain ⟨R, hR⟩ : ∃ R, R = Fl.of s v 0 := ⟨_, rfl⟩
        rw [← hR] at HR HOF
        have sv := HSW.out.on HBe.out
        clear hne hwh hrt hR hb hd1 hd2 hd3 heq
        go_wp2_with (first
          | (go_at_call 36; (with_reducible refine (HOF.out _ sv).mono ?_); rintro e w6 ⟨rfl, hb6⟩; have hB6 := hBW.trans (hb6.mono hBW.size); have zz6 := HZR.out.on hb6; obtain ⟨y0, y1, y2, y3, y4, yf, yl⟩ := zz6; have yf0 := yf 0; have yf1 := yf 1; have yf2 := yf 2; have yf3 := yf 3; have yf4 := yf 4))
        refine bodyPost_ret (v := .tuple #[.agg #[.bool R.n, .string ⟨R.l.toArray⟩, .int .i64 R.x, .int .i64 s0, .int .i64 t0], .int .i64 0]) (by simp [results, Tryz.results19, go_sem, y0, y1, y2, y3, y4, yf0, yf1, yf2, yf3, yf4, yl]; done) rfl (RetB.of (by rw [HR.out]; first | done | rfl) (by (repeat (first | exact Below.refl _ _ | assumption | refine Below.setCell ?_ (by first | omega | (simp <;> omega)) _ | refine Below.alloc ?_ (by first | omega | (simp <;> omega)) _ | refine Below.drew ?_ | refine below_drewN' ?_ _))))

theorem r9_ratio_any (x : Nat) (hx : x < 18446744073709551616) (most : Int) (hm : -9223372036854775808 ≤ most ∧ most ≤ 9223372036854775807) (w : World) : Calls Tryz.prog 19 #[.int .u64 x, .int .i64 most] w (RetB (Fl.fv (Fl.ratio x most)) w) := by
  by_cases h : 3 ≤ Fl.kind x
  · exact r9_ratio_none x hx most hm w h
  · by_cases hmo : most < 1 ∨ 9999 < most
    · exact r9_ratio_arg x hx most hm w (by omega) hmo
    · by_cases he : 0 ≤ Fl.expn x
      · exact r9_ratio_up x hx most hm w (by omega) (by omega) he
      · obtain ⟨M, rfl⟩ : ∃ M : Nat, most = M := ⟨most.toNat, by omega⟩
        exact r9_ratio_main x hx M w (by omega) (by omega) (by omega)
end Go.Proofs.YtlhahbniigjkkaaGreatDoor
