/- The reference: a right decimal's bits, a negative exponent. -/
import Derived.Test.YtiglekomfgfilaaGreatDoorY22
import Derived.Test.YtiglekomfgfilaaGreatDoorY29
import Derived.Test.YtiglekomfgfilaaGreatDoorY8
namespace Go.Proofs.YtiglekomfgfilaaGreatDoor
set_option maxRecDepth 100000
set_option maxHeartbeats 4000000
set_option linter.all false
open Go.RowKit
theorem Na.limbs_of_exp {v e m : Nat} (h : v < 2 ^ e) (he : e ≤ 32 * m) : (Na.limbs v).length ≤ m := Na.limbs_of_bits (Nat.lt_of_lt_of_le h (Nat.pow_le_pow_right (by decide) he))
theorem Na.limbs_of_exp' {v e m : Nat} (h : v ≤ 2 ^ e) (he : e + 1 ≤ 32 * m) : (Na.limbs v).length ≤ m := Na.limbs_of_bits (Nat.lt_of_le_of_lt h (Nat.pow_lt_pow_right (by decide) he))
theorem len_range {LT LN S X : Nat} {D : Int} (h : (LT : Int) - (LN : Int) = D) (h1 : LN ≤ 4 * S) (h2 : LT ≤ 4 * X + 1) (h3 : S ≤ 1100) (h4 : X ≤ 1500) : -10000 ≤ D ∧ D ≤ 10000 := by omega
theorem Na.len_pos_dec (r : Nat) : decide (0 < ((Na.limbs r).length : Int)) = decide (r ≠ 0) := by
  by_cases h : r = 0
  · subst h; rw [Na.limbs_zero]; rfl
  · have := (Na.limbs_head h).1
    rw [decide_eq_true h, decide_eq_true (by omega)]
theorem r8_bits_frac_k (n : Bool) (s : ByteArray) (x : Int) (X k : Nat) (w : World) (hxX : -x = (X : Int)) (hr : Dc.right s.data.toList x = true) (h0 : s.size ≠ 0) (hend : -400 ≤ (s.size : Int) + x ∧ (s.size : Int) + x ≤ 400) (hX : 0 < X)
    (hk : (Na.bitLen (10 ^ X) : Int) - Na.bitLen (Dc.nv s.data.toList) + 70 = (k : Int) ∧ 0 < k) :
    Calls Tryz.prog 21 #[.agg #[.bool n, .string s, .int .i64 x]] w (RetB (.int .u64 ((Fl.wsign n + Fl.bits s.data.toList x : Nat) : Int)) w) := by
  obtain ⟨hp, hs, hx1, hx2⟩ := r8_point_facts hr
  have hP := fun w => r7_point_any n s x w (by omega)
  rw [hp] at hP
  have hb0 : Below w.heap.size w (w.alloc (Obj.cells #[Value.bool n, Value.string s, Value.int IntKind.i64 x] 27)) := (Below.refl _ _).alloc (Nat.le_refl _) _
  have dd0 := DecB.new w n s x
  have hdig := Dc.right_dig hr
  have hne : s.data.toList ≠ [] := fun e => h0 (by have := congrArg List.length e; rwa [bs_length] at this)
  have hN0 := Nat.lt_of_lt_of_le (Nat.pow_pos (by decide)) (Dc.nv_first hdig hne (Dc.right_head hr hne))
  have hD := fun w => r8_digits_any s w (by omega) hdig
  have hN := Dc.nv_lt hdig
  rw [bs_length] at hN
  have hXx : (-x).toNat = X := by omega
  have hX15 : X ≤ 1500 := by omega
  have hLb := Na.len_ten_pow X
  have hTle := Na.ten_le X
  have hNlt : Dc.nv s.data.toList < 2 ^ (4 * s.size) := Na.ten_lt _ _ hN
  have hLn := Na.bitLen_le' hNlt
  have hbits := fun hq => Fl.bits_quot (l := s.data.toList) (x := x) (k := k) (by omega) (by omega) hN0 hq
  rw [hXx] at hbits
  obtain ⟨N, hNe⟩ : ∃ N, N = Dc.nv s.data.toList := ⟨_, rfl⟩
  rw [← hNe] at hD hN hbits hNlt hLn hN0 hk
  have hl1 : (Na.limbs N).length ≤ 150 := Na.limbs_of_exp hNlt (by omega)
  have hT := fun w => r8_ten_any X w (by omega)
  have hT0 : 0 < 10 ^ X := Nat.pow_pos (by decide)
  obtain ⟨T, hTe⟩ : ∃ T, T = 10 ^ X := ⟨_, rfl⟩
  rw [← hTe] at hT hbits hTle hLb hk hT0
  have hl2 : (Na.limbs T).length ≤ 200 := Na.limbs_of_exp' hTle (by omega)
  obtain ⟨LN, hLNe⟩ : ∃ z, z = Na.bitLen N := ⟨_, rfl⟩
  obtain ⟨LT, hLTe⟩ : ∃ z, z = Na.bitLen T := ⟨_, rfl⟩
  have hLnF := fun wr a c (sl : Sl wr a c (Na.limbs N)) (z : a = none → c = 0) => r1_len_any a c (Na.limbs N) wr sl z (by omega)
  have hLtF := fun wr a c (sl : Sl wr a c (Na.limbs T)) (z : a = none → c = 0) => r1_len_any a c (Na.limbs T) wr sl z (by omega)
  rw [Na.val_limbs] at hLnF hLtF
  have hbl := (Fl.bitLen_ge (n := N) (by omega)).2.2
  rw [← hLNe] at hLnF hLn hbits hk hbl
  rw [← hLTe] at hLtF hLb hbits hk
  have hk6 : k ≤ 6100 := by omega
  have hbits := hbits (by omega)
  have hU := fun wr a c (sl : Sl wr a c (Na.limbs N)) (z : a = none → c = 0) => r3_up_any a c (Na.limbs N) k wr sl z (by omega) (by omega)
  rw [Na.val_limbs] at hU
  have hl3 : (Na.limbs (N * 2 ^ k)).length ≤ 400 := by
    have h1 : N * 2 ^ k < 2 ^ (4 * s.size + k) := by rw [Nat.pow_add]; exact Nat.mul_lt_mul_of_pos_right hNlt (Nat.pow_pos (by decide))
    exact Na.limbs_of_exp h1 (by omega)
  obtain ⟨U, hUe⟩ : ∃ U, U = N * 2 ^ k := ⟨_, rfl⟩
  rw [← hUe] at hU hl3 hbits
  have hPt := fun wr a c b d (s1 : Sl wr a c (Na.limbs U)) (z1 : a = none → c = 0) (s2 : Sl wr b d (Na.limbs T)) (z2 : b = none → d = 0) => r1_parts_z a c (Na.limbs U) b d (Na.limbs T) wr s1 z1 s2 z2 (by omega) (by omega) (by rw [Na.val_limbs]; exact hT0)
  rw [Na.val_limbs, Na.val_limbs] at hPt
  have hl4 : (Na.limbs (U / T)).length ≤ 5000 := by
    have h1 := Na.val_lt (Na.limbs U) (Na.ok_limbs U)
    rw [Na.val_limbs] at h1
    have := Na.limbs_len_le (U / T) _ (Nat.lt_of_le_of_lt (Nat.div_le_self U T) h1)
    omega
  have hmr := Na.len_pos_dec (U % T)
  obtain ⟨Q, hQ⟩ : ∃ Q, Q = U / T := ⟨_, rfl⟩
  obtain ⟨R, hRe⟩ : ∃ R, R = U % T := ⟨_, rfl⟩
  rw [← hQ] at hPt hl4 hbits
  rw [← hRe] at hPt hmr hbits
  have hR := fun wr a c (sl : Sl wr a c (Na.limbs Q)) (z : a = none → c = 0) => r3_round_any n a c Q (-(k : Int)) (decide (R ≠ 0)) wr sl z hl4 (by omega)
  obtain ⟨Z, hZ⟩ : ∃ Z, Z = Fl.wsign n + Fl.bits s.data.toList x := ⟨_, rfl⟩
  have hR2 : ∀ wr a c, Sl wr a c (Na.limbs Q) → (a = none → c = 0) → Calls Tryz.prog 49 #[.bool n, .slice a (Na.limbs Q).length c, .int .i64 (-(k : Int)), .bool (decide (R ≠ 0))] wr (RetB (.int .u64 (Z : Int)) wr) := fun wr a c sl z => by
    rw [hZ, ← hbits]; exact hR wr a c sl z
  rw [← hZ]
  obtain ⟨more, hmo⟩ : ∃ b, b = decide (R ≠ 0) := ⟨_, rfl⟩
  rw [← hmo] at hR2 hmr
  obtain ⟨lr, hlr⟩ : ∃ z, z = (Na.limbs R).length := ⟨_, rfl⟩
  have hPt2 : ∀ wr a c b d, Sl wr a c (Na.limbs U) → (a = none → c = 0) → Sl wr b d (Na.limbs T) → (b = none → d = 0) → Calls Tryz.prog 53 #[.slice a (Na.limbs U).length c, .slice b (Na.limbs T).length d] wr (fun e w' => ∃ a c a' c', e = .returned (.tuple #[.slice a (Na.limbs Q).length c, .slice a' lr c']) ∧ Sl w' a c (Na.limbs Q) ∧ (a = none → c = 0) ∧ Below wr.heap.size wr w') := fun wr a c b d s1 z1 s2 z2 =>
    (hPt wr a c b d s1 z1 s2 z2).mono fun e w' ⟨a, c, a', c', e, s1, s2, z1, z2, hb⟩ => ⟨a, c, a', c', by rw [hlr]; exact e, s1, z1, hb⟩
  rw [← hlr] at hmr
  have hmr2 : decide (0 < lr) = more := by rw [← hmr]; exact decide_eq_decide.2 (by omega)
  obtain ⟨P, hPe⟩ : ∃ P, P = (s.size : Int) + x := ⟨_, rfl⟩
  rw [← hPe] at hP hend
  have hPm : decide (P < -400) = false := decide_eq_false (by omega)
  have hPm2 : decide (400 < P) = false := decide_eq_false (by omega)
  have hz : ((s.size : Int) == 0) = false := by simp only [beq_eq_false_iff_ne, ne_eq]; omega
  have hx0 : decide (0 ≤ x) = false := decide_eq_false (by omega)
  obtain ⟨D1, hD1⟩ : ∃ D1 : Int, (LT : Int) - (LN : Int) = D1 := ⟨_, rfl⟩
  have hD2 : D1 + 70 = (k : Int) := by omega
  have hwX : wrap64 (X : Int) = (X : Int) := by unfold wrap64; omega
  have hwk : wrap64 (-(k : Int)) = -(k : Int) := by unfold wrap64; omega
  have hD0 : -10000 ≤ D1 ∧ D1 ≤ 10000 := len_range hD1 hLn hLb hs hX15
  have hpk : decide (0 < k) = true := decide_eq_true (by omega)
  have HP := Lib.hid hP; have HDG := Lib.hid hD; have HT := Lib.hid hT; have HR := Lib.hid hR2; have HLN := Lib.hid hLnF; have HLT := Lib.hid hLtF; have HU := Lib.hid hU; have HPT := Lib.hid hPt2
  clear hr h0 hend hP hp hPe hZ hR hR2 hl3 hl2 hl1 hT hTe hD hNe hN hbits hdig hne hN0 hXx hX15 hLb hTle hNlt hLn hT0 hLNe hLTe hLnF hLtF hbl hU hUe hPt hl4 hQ hRe hmo hlr hPt2 hk hx1 hx2
  obtain ⟨d01, d02⟩ := hD0
  go_enter Tryz.func21, Tryz.ntmps21
  go_wp2_with (first
    | (go_at_call 46; (with_reducible refine (HP.out _).mono ?_); rintro e w1 ⟨rfl, hb1⟩; have hB1 : Below w.heap.size w w1 := hb0.trans (hb1.mono (by simp)); have dd1 := dd0.on hb1; obtain ⟨y0, y1, y2, yl⟩ := id dd1)
    | (go_at_call 48; (with_reducible refine (HDG.out _).mono ?_); rintro e w2 ⟨a2, c2, rfl, s2, z2, hb2⟩; have hB2 : Below w.heap.size w w2 := hB1.trans (hb2.mono hB1.size); have dd2 := dd1.on hb2; obtain ⟨u0, u1, u2, ul⟩ := id dd2)
    | (go_at_call 51; (with_reducible refine (HT.out _).mono ?_); rintro e w3 ⟨a3, c3, rfl, s3, z3, -, hb3⟩; have hB3 : Below w.heap.size w w3 := hB2.trans (hb3.mono hB2.size); have dd3 := dd2.on hb3; have s2 := s2.on hb3; obtain ⟨v0, v1, v2, vl⟩ := id dd3)
    | (go_at_call 52; (with_reducible refine (HLN.out _ _ _ s2 z2).mono ?_); rintro e w7 ⟨rfl, hb7⟩; have hB7 : Below w.heap.size w w7 := hB6.trans (hb7.mono hB6.size); have dd7 := dd6.on hb7; have s2 := s2.on hb7; have s3 := s3.on hb7)
    | (go_at_call 52; (with_reducible refine (HLT.out _ _ _ s3 z3).mono ?_); rintro e w6 ⟨rfl, hb6⟩; have hB6 : Below w.heap.size w w6 := hB5.trans (hb6.mono hB5.size); have dd6 := dd5.on hb6; have s2 := s2.on hb6; have s3 := s3.on hb6)
    | (go_at_call 52; (with_reducible refine (HLN.out _ _ _ s2 z2).mono ?_); rintro e w5 ⟨rfl, hb5⟩; have hB5 : Below w.heap.size w w5 := hB4.trans (hb5.mono hB4.size); have dd5 := dd4.on hb5; have s2 := s2.on hb5; have s3 := s3.on hb5)
    | (go_at_call 52; (with_reducible refine (HLT.out _ _ _ s3 z3).mono ?_); rintro e w4 ⟨rfl, hb4⟩; have hB4 : Below w.heap.size w w4 := hB3.trans (hb4.mono hB3.size); have dd4 := dd3.on hb4; have s2 := s2.on hb4; have s3 := s3.on hb4)
    | (go_at_call 54; (with_reducible refine (HU.out _ _ _ s2 z2).mono ?_); rintro e w8 ⟨a8, c8, rfl, s8, z8, -, hb8⟩; have hB8 : Below w.heap.size w w8 := hB7.trans (hb8.mono hB7.size); have dd8 := dd7.on hb8; have s3 := s3.on hb8)
    | (go_at_call 53; (with_reducible refine (HPT.out _ _ _ _ _ s8 z8 s3 z3).mono ?_); rintro e w9 ⟨a9, c9, a9', c9', rfl, s9, z9, hb9⟩; have hB9 : Below w.heap.size w w9 := hB8.trans (hb9.mono hB8.size); have dd9 := dd8.on hb9; obtain ⟨q0, q1, q2, ql⟩ := id dd9)
    | (go_at_call 49; (with_reducible refine (HR.out _ _ _ s9 z9).mono ?_); rintro e w10 ⟨rfl, hb10⟩; have hB10 : Below w.heap.size w w10 := hB9.trans (hb10.mono hB9.size)))
  go_ret
  exact RetB.of rfl hB10
theorem r8_bits_frac_0 (n : Bool) (s : ByteArray) (x : Int) (X k : Nat) (w : World) (hxX : -x = (X : Int)) (hr : Dc.right s.data.toList x = true) (h0 : s.size ≠ 0) (hend : -400 ≤ (s.size : Int) + x ∧ (s.size : Int) + x ≤ 400) (hX : 0 < X)
    (hk : (Na.bitLen (10 ^ X) : Int) - Na.bitLen (Dc.nv s.data.toList) + 70 ≤ 0 ∧ k = 0) :
    Calls Tryz.prog 21 #[.agg #[.bool n, .string s, .int .i64 x]] w (RetB (.int .u64 ((Fl.wsign n + Fl.bits s.data.toList x : Nat) : Int)) w) := by
  obtain ⟨hp, hs, hx1, hx2⟩ := r8_point_facts hr
  have hP := fun w => r7_point_any n s x w (by omega)
  rw [hp] at hP
  have hb0 : Below w.heap.size w (w.alloc (Obj.cells #[Value.bool n, Value.string s, Value.int IntKind.i64 x] 27)) := (Below.refl _ _).alloc (Nat.le_refl _) _
  have dd0 := DecB.new w n s x
  have hdig := Dc.right_dig hr
  have hne : s.data.toList ≠ [] := fun e => h0 (by have := congrArg List.length e; rwa [bs_length] at this)
  have hN0 := Nat.lt_of_lt_of_le (Nat.pow_pos (by decide)) (Dc.nv_first hdig hne (Dc.right_head hr hne))
  have hD := fun w => r8_digits_any s w (by omega) hdig
  have hN := Dc.nv_lt hdig
  rw [bs_length] at hN
  have hXx : (-x).toNat = X := by omega
  have hX15 : X ≤ 1500 := by omega
  have hLb := Na.len_ten_pow X
  have hTle := Na.ten_le X
  have hNlt : Dc.nv s.data.toList < 2 ^ (4 * s.size) := Na.ten_lt _ _ hN
  have hLn := Na.bitLen_le' hNlt
  have hbits := fun hq => Fl.bits_quot (l := s.data.toList) (x := x) (k := k) (by omega) (by omega) hN0 hq
  rw [hXx] at hbits
  obtain ⟨N, hNe⟩ : ∃ N, N = Dc.nv s.data.toList := ⟨_, rfl⟩
  rw [← hNe] at hD hN hbits hNlt hLn hN0 hk
  have hl1 : (Na.limbs N).length ≤ 150 := Na.limbs_of_exp hNlt (by omega)
  have hT := fun w => r8_ten_any X w (by omega)
  have hT0 : 0 < 10 ^ X := Nat.pow_pos (by decide)
  obtain ⟨T, hTe⟩ : ∃ T, T = 10 ^ X := ⟨_, rfl⟩
  rw [← hTe] at hT hbits hTle hLb hk hT0
  have hl2 : (Na.limbs T).length ≤ 200 := Na.limbs_of_exp' hTle (by omega)
  obtain ⟨LN, hLNe⟩ : ∃ z, z = Na.bitLen N := ⟨_, rfl⟩
  obtain ⟨LT, hLTe⟩ : ∃ z, z = Na.bitLen T := ⟨_, rfl⟩
  have hLnF := fun wr a c (sl : Sl wr a c (Na.limbs N)) (z : a = none → c = 0) => r1_len_any a c (Na.limbs N) wr sl z (by omega)
  have hLtF := fun wr a c (sl : Sl wr a c (Na.limbs T)) (z : a = none → c = 0) => r1_len_any a c (Na.limbs T) wr sl z (by omega)
  rw [Na.val_limbs] at hLnF hLtF
  have hbl := (Fl.bitLen_ge (n := N) (by omega)).2.2
  rw [← hLNe] at hLnF hLn hbits hk hbl
  rw [← hLTe] at hLtF hLb hbits hk
  have hk6 : k ≤ 6100 := by omega
  have hbits := hbits (by omega)
  have hU := fun wr a c (sl : Sl wr a c (Na.limbs N)) (z : a = none → c = 0) => r3_up_any a c (Na.limbs N) k wr sl z (by omega) (by omega)
  rw [Na.val_limbs] at hU
  have hl3 : (Na.limbs (N * 2 ^ k)).length ≤ 400 := by
    have h1 : N * 2 ^ k < 2 ^ (4 * s.size + k) := by rw [Nat.pow_add]; exact Nat.mul_lt_mul_of_pos_right hNlt (Nat.pow_pos (by decide))
    exact Na.limbs_of_exp h1 (by omega)
  obtain ⟨U, hUe⟩ : ∃ U, U = N * 2 ^ k := ⟨_, rfl⟩
  rw [← hUe] at hU hl3 hbits
  have hPt := fun wr a c b d (s1 : Sl wr a c (Na.limbs U)) (z1 : a = none → c = 0) (s2 : Sl wr b d (Na.limbs T)) (z2 : b = none → d = 0) => r1_parts_z a c (Na.limbs U) b d (Na.limbs T) wr s1 z1 s2 z2 (by omega) (by omega) (by rw [Na.val_limbs]; exact hT0)
  rw [Na.val_limbs, Na.val_limbs] at hPt
  have hl4 : (Na.limbs (U / T)).length ≤ 5000 := by
    have h1 := Na.val_lt (Na.limbs U) (Na.ok_limbs U)
    rw [Na.val_limbs] at h1
    have := Na.limbs_len_le (U / T) _ (Nat.lt_of_le_of_lt (Nat.div_le_self U T) h1)
    omega
  have hmr := Na.len_pos_dec (U % T)
  obtain ⟨Q, hQ⟩ : ∃ Q, Q = U / T := ⟨_, rfl⟩
  obtain ⟨R, hRe⟩ : ∃ R, R = U % T := ⟨_, rfl⟩
  rw [← hQ] at hPt hl4 hbits
  rw [← hRe] at hPt hmr hbits
  have hR := fun wr a c (sl : Sl wr a c (Na.limbs Q)) (z : a = none → c = 0) => r3_round_any n a c Q (-(k : Int)) (decide (R ≠ 0)) wr sl z hl4 (by omega)
  obtain ⟨Z, hZ⟩ : ∃ Z, Z = Fl.wsign n + Fl.bits s.data.toList x := ⟨_, rfl⟩
  have hR2 : ∀ wr a c, Sl wr a c (Na.limbs Q) → (a = none → c = 0) → Calls Tryz.prog 49 #[.bool n, .slice a (Na.limbs Q).length c, .int .i64 (-(k : Int)), .bool (decide (R ≠ 0))] wr (RetB (.int .u64 (Z : Int)) wr) := fun wr a c sl z => by
    rw [hZ, ← hbits]; exact hR wr a c sl z
  rw [← hZ]
  obtain ⟨more, hmo⟩ : ∃ b, b = decide (R ≠ 0) := ⟨_, rfl⟩
  rw [← hmo] at hR2 hmr
  obtain ⟨lr, hlr⟩ : ∃ z, z = (Na.limbs R).length := ⟨_, rfl⟩
  have hPt2 : ∀ wr a c b d, Sl wr a c (Na.limbs U) → (a = none → c = 0) → Sl wr b d (Na.limbs T) → (b = none → d = 0) → Calls Tryz.prog 53 #[.slice a (Na.limbs U).length c, .slice b (Na.limbs T).length d] wr (fun e w' => ∃ a c a' c', e = .returned (.tuple #[.slice a (Na.limbs Q).length c, .slice a' lr c']) ∧ Sl w' a c (Na.limbs Q) ∧ (a = none → c = 0) ∧ Below wr.heap.size wr w') := fun wr a c b d s1 z1 s2 z2 =>
    (hPt wr a c b d s1 z1 s2 z2).mono fun e w' ⟨a, c, a', c', e, s1, s2, z1, z2, hb⟩ => ⟨a, c, a', c', by rw [hlr]; exact e, s1, z1, hb⟩
  rw [← hlr] at hmr
  have hmr2 : decide (0 < lr) = more := by rw [← hmr]; exact decide_eq_decide.2 (by omega)
  obtain ⟨P, hPe⟩ : ∃ P, P = (s.size : Int) + x := ⟨_, rfl⟩
  rw [← hPe] at hP hend
  have hPm : decide (P < -400) = false := decide_eq_false (by omega)
  have hPm2 : decide (400 < P) = false := decide_eq_false (by omega)
  have hz : ((s.size : Int) == 0) = false := by simp only [beq_eq_false_iff_ne, ne_eq]; omega
  have hx0 : decide (0 ≤ x) = false := decide_eq_false (by omega)
  obtain ⟨D1, hD1⟩ : ∃ D1 : Int, (LT : Int) - (LN : Int) = D1 := ⟨_, rfl⟩
  have hD2 : D1 + 70 ≤ 0 := by omega
  have hwX : wrap64 (X : Int) = (X : Int) := by unfold wrap64; omega
  have hD0 : -10000 ≤ D1 ∧ D1 ≤ 10000 := len_range hD1 hLn hLb hs hX15
  have hpz : decide (0 < D1 + 70) = false := decide_eq_false (by omega)
  have hki : (k : Int) = 0 := by omega
  have hR20 := hR2
  rw [hki, Int.neg_zero] at hR20
  rw [hki] at hU
  have hR2 := hR20
  have HP := Lib.hid hP; have HDG := Lib.hid hD; have HT := Lib.hid hT; have HR := Lib.hid hR2; have HLN := Lib.hid hLnF; have HLT := Lib.hid hLtF; have HU := Lib.hid hU; have HPT := Lib.hid hPt2
  clear hR20 hki hr h0 hend hP hp hPe hZ hR hR2 hl3 hl2 hl1 hT hTe hD hNe hN hbits hdig hne hN0 hXx hX15 hLb hTle hNlt hLn hT0 hLNe hLTe hLnF hLtF hbl hU hUe hPt hl4 hQ hRe hmo hlr hPt2 hk hx1 hx2
  obtain ⟨d01, d02⟩ := hD0
  go_enter Tryz.func21, Tryz.ntmps21
  go_wp2_with (first
    | (go_at_call 46; (with_reducible refine (HP.out _).mono ?_); rintro e w1 ⟨rfl, hb1⟩; have hB1 : Below w.heap.size w w1 := hb0.trans (hb1.mono (by simp)); have dd1 := dd0.on hb1; obtain ⟨y0, y1, y2, yl⟩ := id dd1)
    | (go_at_call 48; (with_reducible refine (HDG.out _).mono ?_); rintro e w2 ⟨a2, c2, rfl, s2, z2, hb2⟩; have hB2 : Below w.heap.size w w2 := hB1.trans (hb2.mono hB1.size); have dd2 := dd1.on hb2; obtain ⟨u0, u1, u2, ul⟩ := id dd2)
    | (go_at_call 51; (with_reducible refine (HT.out _).mono ?_); rintro e w3 ⟨a3, c3, rfl, s3, z3, -, hb3⟩; have hB3 : Below w.heap.size w w3 := hB2.trans (hb3.mono hB2.size); have dd3 := dd2.on hb3; have s2 := s2.on hb3; obtain ⟨v0, v1, v2, vl⟩ := id dd3)
    | (go_at_call 52; (with_reducible refine (HLN.out _ _ _ s2 z2).mono ?_); rintro e w5 ⟨rfl, hb5⟩; have hB5 : Below w.heap.size w w5 := hB4.trans (hb5.mono hB4.size); have dd5 := dd4.on hb5; have s2 := s2.on hb5; have s3 := s3.on hb5)
    | (go_at_call 52; (with_reducible refine (HLT.out _ _ _ s3 z3).mono ?_); rintro e w4 ⟨rfl, hb4⟩; have hB4 : Below w.heap.size w w4 := hB3.trans (hb4.mono hB3.size); have dd4 := dd3.on hb4; have s2 := s2.on hb4; have s3 := s3.on hb4)
    | (go_at_call 54; (with_reducible refine (HU.out _ _ _ s2 z2).mono ?_); rintro e w8 ⟨a8, c8, rfl, s8, z8, -, hb8⟩; have hB8 : Below w.heap.size w w8 := hB5.trans (hb8.mono hB5.size); have dd8 := dd5.on hb8; have s3 := s3.on hb8)
    | (go_at_call 53; (with_reducible refine (HPT.out _ _ _ _ _ s8 z8 s3 z3).mono ?_); rintro e w9 ⟨a9, c9, a9', c9', rfl, s9, z9, hb9⟩; have hB9 : Below w.heap.size w w9 := hB8.trans (hb9.mono hB8.size); have dd9 := dd8.on hb9; obtain ⟨q0, q1, q2, ql⟩ := id dd9)
    | (go_at_call 49; (with_reducible refine (HR.out _ _ _ s9 z9).mono ?_); rintro e w10 ⟨rfl, hb10⟩; have hB10 : Below w.heap.size w w10 := hB9.trans (hb10.mono hB9.size)))
  go_ret
  exact RetB.of rfl hB10
theorem r8_bits_any (n : Bool) (s : ByteArray) (x : Int) (w : World) (hr : Dc.right s.data.toList x = true) :
    Calls Tryz.prog 21 #[.agg #[.bool n, .string s, .int .i64 x]] w (RetB (.int .u64 ((Fl.wsign n + Fl.bits s.data.toList x : Nat) : Int)) w) := by
  by_cases hend : s.size = 0 ∨ (s.size : Int) + x < -400 ∨ 400 < (s.size : Int) + x
  · exact r8_bits_end n s x w hr hend
  · by_cases h0 : 0 ≤ x
    · obtain ⟨X, rfl⟩ : ∃ X : Nat, x = (X : Int) := ⟨x.toNat, by omega⟩
      exact r8_bits_whole n s X w hr (by omega) (by omega)
    · obtain ⟨X, hX⟩ : ∃ X : Nat, -x = (X : Int) := ⟨(-x).toNat, by omega⟩
      by_cases hk : (Na.bitLen (10 ^ X) : Int) - Na.bitLen (Dc.nv s.data.toList) + 70 ≤ 0
      · exact r8_bits_frac_0 n s x X 0 w hX hr (by omega) (by omega) (by omega) ⟨hk, rfl⟩
      · obtain ⟨k, hk2⟩ : ∃ k : Nat, (Na.bitLen (10 ^ X) : Int) - Na.bitLen (Dc.nv s.data.toList) + 70 = (k : Int) := ⟨((Na.bitLen (10 ^ X) : Int) - Na.bitLen (Dc.nv s.data.toList) + 70).toNat, by omega⟩
        exact r8_bits_frac_k n s x X k w hX hr (by omega) (by omega) (by omega) ⟨hk2, by omega⟩
end Go.Proofs.YtiglekomfgfilaaGreatDoor

/- Plain Lean: the size of a number, where the two about it lie, what the document searches. -/
namespace Go.Proofs.YtiglekomfgfilaaGreatDoor.Fl
set_option linter.all false
theorem abs_kind {x : Nat} (hx : x < 18446744073709551616) : kind (x % 9223372036854775808) = kind x := by
  by_cases h : x < 9223372036854775808
  · rw [Nat.mod_eq_of_lt h]
  · have e : x % 9223372036854775808 = flip x := by unfold flip; rw [if_neg h]; omega
    rw [e, flip_kind hx]
theorem abs_dec {x : Nat} (hx : x < 18446744073709551616) (hk : kind x < 3) : dec (x % 9223372036854775808) = ⟨false, (dec x).l, (dec x).x, 0⟩ := by
  have hky : kind (x % 9223372036854775808) < 3 := by rw [abs_kind hx]; exact hk
  obtain ⟨d1, d2, -⟩ := decx_fine x hk
  obtain ⟨y1, y2, -⟩ := decx_fine (x % 9223372036854775808) hky
  have hny : neg (x % 9223372036854775808) = false := by unfold neg; exact decide_eq_false (by omega)
  by_cases h : x < 9223372036854775808
  · have e : x % 9223372036854775808 = x := Nat.mod_eq_of_lt h
    rw [e] at y1 y2 hny ⊢
    exact res_eq ⟨by rw [y2, hny], rfl, rfl, y1⟩
  · have e : x % 9223372036854775808 = flip x := by unfold flip; rw [if_neg h]; omega
    have hI := (dec_worth x hk).1
    obtain ⟨s1, s2⟩ := of_sign (neg x) (neg (flip x)) (mant x) (expn x) hI.ok
    rw [e] at y1 y2 hny ⊢
    refine res_eq ⟨by rw [y2, hny], ?_, ?_, y1⟩
    · rw [dec, if_neg (by rw [flip_kind hx]; omega), flip_mant hx, flip_expn hx, s1, dec, if_neg (by omega)]; rfl
    · rw [dec, if_neg (by rw [flip_kind hx]; omega), flip_mant hx, flip_expn hx, s1, dec, if_neg (by omega)]; rfl
theorem of_x1 (s : Bool) (n : Nat) (e : Int) (hn : n < 2 ^ 54) (he : -1075 ≤ e ∧ e ≤ 971) : -1100 ≤ (of s n e).x ∧ (of s n e).x ≤ 900 := by
  by_cases h0 : 0 ≤ e
  · have hl := up_len hn (show e.toNat ≤ n971 by unfold n971; omega)
    rw [of, if_pos h0]
    have ht := Dc.tz_le (Lib.decDigits (n * 2 ^ e.toNat))
    rcases mk_x s (Lib.decDigits (n * 2 ^ e.toNat)) 0 with h | h <;> rw [h] <;> omega
  · rw [of, if_neg h0]
    have hk := (halve_le (-e).toNat n).2
    have hl : (Lib.decDigits ((halve (-e).toNat n).1 * 5 ^ (halve (-e).toNat n).2)).length ≤ 800 := mid_len (Nat.lt_of_le_of_lt (halve_le (-e).toNat n).1 hn) (K := 1075) (by omega) rfl
    have ht := Dc.tz_le (Lib.decDigits ((halve (-e).toNat n).1 * 5 ^ (halve (-e).toNat n).2))
    rcases mk_x s (Lib.decDigits ((halve (-e).toNat n).1 * 5 ^ (halve (-e).toNat n).2)) (-((halve (-e).toNat n).2 : Int)) with h | h <;> rw [h] <;> omega
theorem dec_x1 {x : Nat} (h : kind x < 3) : -1100 ≤ (dec x).x ∧ (dec x).x ≤ 900 := by
  have hm := mant_lt x
  have he := expn_bound x
  have hx := of_x1 (neg x) (mant x) (expn x) (by omega) (by omega)
  rw [dec, if_neg (by omega)]
  exact hx
theorem dec_point {x : Nat} (h : kind x < 3) (hne : (dec x).l ≠ []) : -330 ≤ ((dec x).l.length : Int) + (dec x).x ∧ ((dec x).l.length : Int) + (dec x).x ≤ 310 := by
  obtain ⟨d1, d2, d3, d4, d5, d6, d7⟩ := decx_fine x h
  have hV := V_le_inf h
  constructor
  · rcases Int.lt_or_le (((dec x).l.length : Int) + (dec x).x) (-330) with c | c
    · exfalso
      have h0 := bits_tiny d3 hne c
      rw [d7] at h0
      rw [h0] at d6
      have hV0 : V 0 = 0 := by decide
      rw [hV0, Nat.zero_mul] at d6
      have b := (Dc.vv_bounds d3 hne).1
      have p1 : 0 < Dc.vv (dec x).l (dec x).x := Nat.lt_of_lt_of_le (Nat.pow_pos (by decide)) b
      have := Nat.mul_pos p1 (show 0 < 2 ^ low from Nat.pow_pos (by decide))
      omega
    · exact c
  · rcases Int.lt_or_le 310 (((dec x).l.length : Int) + (dec x).x) with c | c
    · exfalso
      have h0 := bits_huge d3 hne c
      omega
    · exact c
theorem sig_point {s : Bool} {l : Dc.Bs} {x : Int} {k : Nat} {way : Int} (h : Dc.right l x = true) (hne : l ≠ []) (hk : 1 ≤ k ∧ k ≤ 100) (hw : 0 ≤ way ∧ way ≤ 5) (hx : -40000 ≤ x ∧ x ≤ 40000) :
    (Dc.sig s l x k way).l ≠ [] ∧ (((Dc.sig s l x k way).l.length : Int) + (Dc.sig s l x k way).x = l.length + x ∨ ((Dc.sig s l x k way).l.length : Int) + (Dc.sig s l x k way).x = l.length + x + 1) := by
  have hs := sig_ok (s := s) h hne hk hw hx
  obtain ⟨u1, u2⟩ := sig_unit h hne hk hx
  have hlen := Dc.right_len h
  have hl0 : 0 < l.length := List.length_pos_iff.2 hne
  have hlift : Dc.lift = 200000 := rfl
  have hval := hs.val
  have hrx := Dc.right_exp hs.right
  have hrl := Dc.right_len hs.right
  have hUp : Dc.unit ((k : Int) - (l.length + x)) = 10 ^ (Dc.lift - ((k : Int) - (l.length + x))).toNat := rfl
  obtain ⟨u, hu⟩ : ∃ u, u = (Dc.lift - ((k : Int) - (l.length + x))).toNat := ⟨_, rfl⟩
  obtain ⟨U, hU⟩ : ∃ u, u = Dc.unit ((k : Int) - (l.length + x)) := ⟨_, rfl⟩
  obtain ⟨V, hV⟩ : ∃ V, V = Dc.vv l x := ⟨_, rfl⟩
  obtain ⟨r, hr⟩ : ∃ r, r = Dc.sig s l x k way := ⟨_, rfl⟩
  rw [← hU, ← hu] at hUp
  rw [← hU, ← hV] at u1 u2 hval
  rw [← hr] at hval hrx hrl ⊢
  have hrr : Dc.right r.l r.x = true := by rw [hr]; exact hs.right
  have hU0 : 0 < U := by rw [hUp]; exact Nat.pow_pos (by decide)
  have q1 : 10 ^ (k - 1) ≤ V / U := (Nat.le_div_iff_mul_le hU0).2 u1
  have q2 : V / U < 10 ^ k := (Nat.div_lt_iff_lt_mul hU0).2 u2
  have r1 : 10 ^ (k - 1) ≤ Dc.rnd s way V U := by unfold Dc.rnd; omega
  have r2 : Dc.rnd s way V U ≤ 10 ^ k := by unfold Dc.rnd; split <;> omega
  have v1 : 10 ^ (k - 1 + u) ≤ Dc.vv r.l r.x := by rw [hval, hUp, Nat.pow_add]; exact Nat.mul_le_mul_right _ (by rw [← hUp]; exact r1)
  have v2 : Dc.vv r.l r.x ≤ 10 ^ (k + u) := by rw [hval, hUp, Nat.pow_add]; exact Nat.mul_le_mul_right _ (by rw [← hUp]; exact r2)
  have hrne : r.l ≠ [] := by
    intro e
    rw [e, Dc.vv_zero] at v1
    have : 0 < 10 ^ (k - 1 + u) := Nat.pow_pos (by decide)
    omega
  refine ⟨hrne, ?_⟩
  obtain ⟨b1, b2⟩ := Dc.vv_bounds hrr hrne
  have hr0 : 0 < r.l.length := List.length_pos_iff.2 hrne
  obtain ⟨a, ha⟩ : ∃ a, a = ((r.l.length : Int) + r.x - 1 + Dc.lift).toNat := ⟨_, rfl⟩
  rw [← ha] at b1
  rw [show ((r.l.length : Int) + r.x + Dc.lift).toNat = a + 1 by omega] at b2
  have i1 : a ≤ k + u := (Nat.pow_le_pow_iff_right (show 1 < 10 by decide)).1 (Nat.le_trans b1 v2)
  have i2 : k - 1 + u < a + 1 := (Nat.pow_lt_pow_iff_right (show 1 < 10 by decide)).1 (Nat.lt_of_le_of_lt v1 b2)
  omega
def stepH (l : Dc.Bs) (x : Int) (b n : Nat) : Prop :=
  says (Dc.sig false l x n 3) b = true ∧ (says (Dc.sig false l x n 2) b = false ∨ same (Dc.sig false l x n 2) (Dc.sig false l x n 3) = true ∨ nearV (Dc.vv (Dc.sig false l x n 2).l (Dc.sig false l x n 2).x) (Dc.vv l x) (Dc.vv (Dc.sig false l x n 3).l (Dc.sig false l x n 3).x) = 2 ∨ nearV (Dc.vv (Dc.sig false l x n 2).l (Dc.sig false l x n 2).x) (Dc.vv l x) (Dc.vv (Dc.sig false l x n 3).l (Dc.sig false l x n 3).x) = 0 ∧ evenN (Dc.sig false l x n 2).l n = false)
theorem step_high {l : Dc.Bs} {x : Int} {b n : Nat} (h : Dc.right l x = true) (hne : l ≠ []) (hn : 1 ≤ n ∧ n ≤ 100) (hx : -40000 ≤ x ∧ x ≤ 40000) (c : stepH l x b n) : tryN false l x b n = some (Dc.sig false l x n 3) := by
  rw [← refN_eq h hne hn hx, refN_by]
  obtain ⟨c1, c2⟩ := c
  rw [c1]
  rcases c2 with c2 | c2 | c2
  · rw [c2]; rfl
  · rw [c2]; simp
  · by_cases d : (says (Dc.sig false l x n 2) b && true && !same (Dc.sig false l x n 2) (Dc.sig false l x n 3)) = true
    · rw [if_pos d, if_pos c2]
    · rw [if_neg d]; rfl
theorem step_low {l : Dc.Bs} {x : Int} {b n : Nat} (h : Dc.right l x = true) (hne : l ≠ []) (hn : 1 ≤ n ∧ n ≤ 100) (hx : -40000 ≤ x ∧ x ≤ 40000) (c : ¬ stepH l x b n) (c2 : says (Dc.sig false l x n 2) b = true) : tryN false l x b n = some (Dc.sig false l x n 2) := by
  rw [← refN_eq h hne hn hx, refN_by, c2]
  unfold stepH at c
  rw [c2] at c
  cases d : says (Dc.sig false l x n 3) b with
  | false => simp
  | true =>
    rw [d] at c
    cases s : same (Dc.sig false l x n 2) (Dc.sig false l x n 3) with
    | true => exact absurd ⟨rfl, Or.inr (Or.inl s)⟩ c
    | false =>
      rw [if_pos (by rfl), if_neg (fun q => c ⟨rfl, Or.inr (Or.inr q)⟩)]
theorem step_none {l : Dc.Bs} {x : Int} {b n : Nat} (h : Dc.right l x = true) (hne : l ≠ []) (hn : 1 ≤ n ∧ n ≤ 100) (hx : -40000 ≤ x ∧ x ≤ 40000) (c2 : says (Dc.sig false l x n 2) b = false) (c3 : says (Dc.sig false l x n 3) b = false) : tryN false l x b n = none := by
  rw [← refN_eq h hne hn hx, refN_by, c2, c3]; rfl
theorem search_step {l : Dc.Bs} {x : Int} {b n : Nat} {r : Dc.Res} (hn : n ≤ 16) (h : tryN false l x b n = some r) : search false l x b (17 - n) n = r := by
  rw [show 17 - n = (16 - n) + 1 by omega, search, h]
theorem search_next {l : Dc.Bs} {x : Int} {b n : Nat} (hn : n ≤ 16) (h : tryN false l x b n = none) : search false l x b (17 - n) n = search false l x b (17 - (n + 1)) (n + 1) := by
  rw [show 17 - n = (17 - (n + 1)) + 1 by omega, search, h]
end Go.Proofs.YtiglekomfgfilaaGreatDoor.Fl
