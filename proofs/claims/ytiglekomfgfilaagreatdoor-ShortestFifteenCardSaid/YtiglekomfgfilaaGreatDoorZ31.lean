/- The reference: a right decimal's bits, a negative exponent. -/
import Derived.Test.YtiglekomfgfilaaGreatDoorZ22
import Derived.Test.YtiglekomfgfilaaGreatDoorZ30
import Derived.Test.YtiglekomfgfilaaGreatDoorZ9
import Derived.Test.YtiglekomfgfilaaGreatDoorZ8
import Derived.Test.YtiglekomfgfilaaGreatDoorZ29
import Derived.Test.YtiglekomfgfilaaGreatDoorZ19
import Derived.Test.YtiglekomfgfilaaGreatDoorZ7
import Derived.Test.YtiglekomfgfilaaGreatDoorZ18
import Derived.Deep.DeepCutAuto
import Derived.Maps.AppendAt
import Derived.Test.YtiglekomfgfilaaGreatDoorZ26
import Derived.Test.YtiglekomfgfilaaGreatDoorZ20
import Derived.Deep.RegionHeld3
import Derived.Test.YtiglekomfgfilaaGreatDoorZ15
import Derived.Test.YtiglekomfgfilaaGreatDoorZ1
import Derived.JoinedOf
import Derived.Test.YtiglekomfgfilaaGreatDoorZ24
import Derived.Laws.StructEq
import Derived.Test.YtiglekomfgfilaaGreatDoorZ27
namespace Go.Proofs.YtiglekomfgfilaaGreatDoor
set_option maxRecDepth 100000
set_option maxHeartbeats 4000000
set_option linter.all false
open Go.RowKit
theorem Na.limbs_of_exp {v e m : Nat} (h : v < 2 ^ e) (he : e ≤ 32 * m) : (Na.limbs v).length ≤ m := Na.limbs_of_bits (Nat.lt_of_lt_of_le h (Nat.pow_le_pow_right (by decide) he))
theorem Na.limbs_of_exp' {v e m : Nat} (h : v ≤ 2 ^ e) (he : e + 1 ≤ 32 * m) : (Na.limbs v).length ≤ m := Na.limbs_of_bits (Nat.lt_of_le_of_lt h (Nat.pow_lt_pow_right (by decide) he))
theorem len_range {LT LN S X : Nat} {D : Int} (h : (LT : Int) - (LN : Int) = D) (h1 : LN ≤ 4 * S) (h2 : LT ≤ 4 * X + 1) (h3 : S ≤ 1100) (h4 : X ≤ 1500) : -10000 ≤ D ∧ D ≤ 10000 := by omega
theorem Na.len_pos_dec (r : Nat) : decide (0 < ((Na.limbs r).length : Int)) = decide (r ≠ 0) := by
  by_cases h : r = 0
  · subst h; rw [Na.limbs_zero]; rfl
  · have := (Na.limbs_head h).1
    rw [decide_eq_true h, decide_eq_true (by omega)]
theorem r8_bits_frac_k (n : Bool) (s : ByteArray) (x : Int) (X k : Nat) (w : World) (hxX : -x = (X : Int)) (hr : Dc.right s.data.toList x = true) (h0 : s.size ≠ 0) (hend : -400 ≤ (s.size : Int) + x ∧ (s.size : Int) + x ≤ 400) (hX : 0 < X)
    (hk : (Na.bitLen (10 ^ X) : Int) - Na.bitLen (Dc.nv s.data.toList) + 70 = (k : Int) ∧ 0 < k) :
    Calls Tryz.prog 21 #[.agg #[.bool n, .string s, .int .i64 x]] w (RetB (.int .u64 ((Fl.wsign n + Fl.bits s.data.toList x : Nat) : Int)) w) := by
  obtain ⟨hp, hs, hx1, hx2⟩ := r8_point_facts hr
  have hP := fun w => r7_point_any n s x w (by omega)
  rw [hp] at hP
  have hb0 : Below w.heap.size w (w.alloc (Obj.cells #[Value.bool n, Value.string s, Value.int IntKind.i64 x] 27)) := (Below.refl _ _).alloc (Nat.le_refl _) _
  have dd0 := DecB.new w n s x
  have hdig := Dc.right_dig hr
  have hne : s.data.toList ≠ [] := fun e => h0 (by have := congrArg List.length e; rwa [bs_length] at this)
  have hN0 := Nat.lt_of_lt_of_le (Nat.pow_pos (by decide)) (Dc.nv_first hdig hne (Dc.right_head hr hne))
  have hD := fun w => r8_digits_any s w (by omega) hdig
  have hN := Dc.nv_lt hdig
  rw [bs_length] at hN
  have hXx : (-x).toNat = X := by omega
  have hX15 : X ≤ 1500 := by omega
  have hLb := Na.len_ten_pow X
  have hTle := Na.ten_le X
  have hNlt : Dc.nv s.data.toList < 2 ^ (4 * s.size) := Na.ten_lt _ _ hN
  have hLn := Na.bitLen_le' hNlt
  have hbits := fun hq => Fl.bits_quot (l := s.data.toList) (x := x) (k := k) (by omega) (by omega) hN0 hq
  rw [hXx] at hbits
  obtain ⟨N, hNe⟩ : ∃ N, N = Dc.nv s.data.toList := ⟨_, rfl⟩
  rw [← hNe] at hD hN hbits hNlt hLn hN0 hk
  have hl1 : (Na.limbs N).length ≤ 150 := Na.limbs_of_exp hNlt (by omega)
  have hT := fun w => r8_ten_any X w (by omega)
  have hT0 : 0 < 10 ^ X := Nat.pow_pos (by decide)
  obtain ⟨T, hTe⟩ : ∃ T, T = 10 ^ X := ⟨_, rfl⟩
  rw [← hTe] at hT hbits hTle hLb hk hT0
  have hl2 : (Na.limbs T).length ≤ 200 := Na.limbs_of_exp' hTle (by omega)
  obtain ⟨LN, hLNe⟩ : ∃ z, z = Na.bitLen N := ⟨_, rfl⟩
  obtain ⟨LT, hLTe⟩ : ∃ z, z = Na.bitLen T := ⟨_, rfl⟩
  have hLnF := fun wr a c (sl : Sl wr a c (Na.limbs N)) (z : a = none → c = 0) => r1_len_any a c (Na.limbs N) wr sl z (by omega)
  have hLtF := fun wr a c (sl : Sl wr a c (Na.limbs T)) (z : a = none → c = 0) => r1_len_any a c (Na.limbs T) wr sl z (by omega)
  rw [Na.val_limbs] at hLnF hLtF
  have hbl := (Fl.bitLen_ge (n := N) (by omega)).2.2
  rw [← hLNe] at hLnF hLn hbits hk hbl
  rw [← hLTe] at hLtF hLb hbits hk
  have hk6 : k ≤ 6100 := by omega
  have hbits := hbits (by omega)
  have hU := fun wr a c (sl : Sl wr a c (Na.limbs N)) (z : a = none → c = 0) => r3_up_any a c (Na.limbs N) k wr sl z (by omega) (by omega)
  rw [Na.val_limbs] at hU
  have hl3 : (Na.limbs (N * 2 ^ k)).length ≤ 400 := by
    have h1 : N * 2 ^ k < 2 ^ (4 * s.size + k) := by rw [Nat.pow_add]; exact Nat.mul_lt_mul_of_pos_right hNlt (Nat.pow_pos (by decide))
    exact Na.limbs_of_exp h1 (by omega)
  obtain ⟨U, hUe⟩ : ∃ U, U = N * 2 ^ k := ⟨_, rfl⟩
  rw [← hUe] at hU hl3 hbits
  have hPt := fun wr a c b d (s1 : Sl wr a c (Na.limbs U)) (z1 : a = none → c = 0) (s2 : Sl wr b d (Na.limbs T)) (z2 : b = none → d = 0) => r1_parts_z a c (Na.limbs U) b d (Na.limbs T) wr s1 z1 s2 z2 (by omega) (by omega) (by rw [Na.val_limbs]; exact hT0)
  rw [Na.val_limbs, Na.val_limbs] at hPt
  have hl4 : (Na.limbs (U / T)).length ≤ 5000 := by
    have h1 := Na.val_lt (Na.limbs U) (Na.ok_limbs U)
    rw [Na.val_limbs] at h1
    have := Na.limbs_len_le (U / T) _ (Nat.lt_of_le_of_lt (Nat.div_le_self U T) h1)
    omega
  have hmr := Na.len_pos_dec (U % T)
  obtain ⟨Q, hQ⟩ : ∃ Q, Q = U / T := ⟨_, rfl⟩
  obtain ⟨R, hRe⟩ : ∃ R, R = U % T := ⟨_, rfl⟩
  rw [← hQ] at hPt hl4 hbits
  rw [← hRe] at hPt hmr hbits
  have hR := fun wr a c (sl : Sl wr a c (Na.limbs Q)) (z : a = none → c = 0) => r3_round_any n a c Q (-(k : Int)) (decide (R ≠ 0)) wr sl z hl4 (by omega)
  obtain ⟨Z, hZ⟩ : ∃ Z, Z = Fl.wsign n + Fl.bits s.data.toList x := ⟨_, rfl⟩
  have hR2 : ∀ wr a c, Sl wr a c (Na.limbs Q) → (a = none → c = 0) → Calls Tryz.prog 49 #[.bool n, .slice a (Na.limbs Q).length c, .int .i64 (-(k : Int)), .bool (decide (R ≠ 0))] wr (RetB (.int .u64 (Z : Int)) wr) := fun wr a c sl z => by
    rw [hZ, ← hbits]; exact hR wr a c sl z
  rw [← hZ]
  obtain ⟨more, hmo⟩ : ∃ b, b = decide (R ≠ 0) := ⟨_, rfl⟩
  rw [← hmo] at hR2 hmr
  obtain ⟨lr, hlr⟩ : ∃ z, z = (Na.limbs R).length := ⟨_, rfl⟩
  have hPt2 : ∀ wr a c b d, Sl wr a c (Na.limbs U) → (a = none → c = 0) → Sl wr b d (Na.limbs T) → (b = none → d = 0) → Calls Tryz.prog 53 #[.slice a (Na.limbs U).length c, .slice b (Na.limbs T).length d] wr (fun e w' => ∃ a c a' c', e = .returned (.tuple #[.slice a (Na.limbs Q).length c, .slice a' lr c']) ∧ Sl w' a c (Na.limbs Q) ∧ (a = none → c = 0) ∧ Below wr.heap.size wr w') := fun wr a c b d s1 z1 s2 z2 =>
    (hPt wr a c b d s1 z1 s2 z2).mono fun e w' ⟨a, c, a', c', e, s1, s2, z1, z2, hb⟩ => ⟨a, c, a', c', by rw [hlr]; exact e, s1, z1, hb⟩
  rw [← hlr] at hmr
  have hmr2 : decide (0 < lr) = more := by rw [← hmr]; exact decide_eq_decide.2 (by omega)
  obtain ⟨P, hPe⟩ : ∃ P, P = (s.size : Int) + x := ⟨_, rfl⟩
  rw [← hPe] at hP hend
  have hPm : decide (P < -400) = false := decide_eq_false (by omega)
  have hPm2 : decide (400 < P) = false := decide_eq_false (by omega)
  have hz : ((s.size : Int) == 0) = false := by simp only [beq_eq_false_iff_ne, ne_eq]; omega
  have hx0 : decide (0 ≤ x) = false := decide_eq_false (by omega)
  obtain ⟨D1, hD1⟩ : ∃ D1 : Int, (LT : Int) - (LN : Int) = D1 := ⟨_, rfl⟩
  have hD2 : D1 + 70 = (k : Int) := by omega
  have hwX : wrap64 (X : Int) = (X : Int) := by unfold wrap64; omega
  have hwk : wrap64 (-(k : Int)) = -(k : Int) := by unfold wrap64; omega
  have hD0 : -10000 ≤ D1 ∧ D1 ≤ 10000 := len_range hD1 hLn hLb hs hX15
  have hpk : decide (0 < k) = true := decide_eq_true (by omega)
  have HP := Lib.hid hP; have HDG := Lib.hid hD; have HT := Lib.hid hT; have HR := Lib.hid hR2; have HLN := Lib.hid hLnF; have HLT := Lib.hid hLtF; have HU := Lib.hid hU; have HPT := Lib.hid hPt2
  clear hr h0 hend hP hp hPe hZ hR hR2 hl3 hl2 hl1 hT hTe hD hNe hN hbits hdig hne hN0 hXx hX15 hLb hTle hNlt hLn hT0 hLNe hLTe hLnF hLtF hbl hU hUe hPt hl4 hQ hRe hmo hlr hPt2 hk hx1 hx2
  obtain ⟨d01, d02⟩ := hD0
  go_enter Tryz.func21, Tryz.ntmps21
  go_wp2_with (first
    | (go_at_call 46; (with_reducible refine (HP.out _).mono ?_); rintro e w1 ⟨rfl, hb1⟩; have hB1 : Below w.heap.size w w1 := hb0.trans (hb1.mono (by simp)); have dd1 := dd0.on hb1; obtain ⟨y0, y1, y2, yl⟩ := id dd1)
    | (go_at_call 48; (with_reducible refine (HDG.out _).mono ?_); rintro e w2 ⟨a2, c2, rfl, s2, z2, hb2⟩; have hB2 : Below w.heap.size w w2 := hB1.trans (hb2.mono hB1.size); have dd2 := dd1.on hb2; obtain ⟨u0, u1, u2, ul⟩ := id dd2)
    | (go_at_call 51; (with_reducible refine (HT.out _).mono ?_); rintro e w3 ⟨a3, c3, rfl, s3, z3, -, hb3⟩; have hB3 : Below w.heap.size w w3 := hB2.trans (hb3.mono hB2.size); have dd3 := dd2.on hb3; have s2 := s2.on hb3; obtain ⟨v0, v1, v2, vl⟩ := id dd3)
    | (go_at_call 52; (with_reducible refine (HLN.out _ _ _ s2 z2).mono ?_); rintro e w7 ⟨rfl, hb7⟩; have hB7 : Below w.heap.size w w7 := hB6.trans (hb7.mono hB6.size); have dd7 := dd6.on hb7; have s2 := s2.on hb7; have s3 := s3.on hb7)
    | (go_at_call 52; (with_reducible refine (HLT.out _ _ _ s3 z3).mono ?_); rintro e w6 ⟨rfl, hb6⟩; have hB6 : Below w.heap.size w w6 := hB5.trans (hb6.mono hB5.size); have dd6 := dd5.on hb6; have s2 := s2.on hb6; have s3 := s3.on hb6)
    | (go_at_call 52; (with_reducible refine (HLN.out _ _ _ s2 z2).mono ?_); rintro e w5 ⟨rfl, hb5⟩; have hB5 : Below w.heap.size w w5 := hB4.trans (hb5.mono hB4.size); have dd5 := dd4.on hb5; have s2 := s2.on hb5; have s3 := s3.on hb5)
    | (go_at_call 52; (with_reducible refine (HLT.out _ _ _ s3 z3).mono ?_); rintro e w4 ⟨rfl, hb4⟩; have hB4 : Below w.heap.size w w4 := hB3.trans (hb4.mono hB3.size); have dd4 := dd3.on hb4; have s2 := s2.on hb4; have s3 := s3.on hb4)
    | (go_at_call 54; (with_reducible refine (HU.out _ _ _ s2 z2).mono ?_); rintro e w8 ⟨a8, c8, rfl, s8, z8, -, hb8⟩; have hB8 : Below w.heap.size w w8 := hB7.trans (hb8.mono hB7.size); have dd8 := dd7.on hb8; have s3 := s3.on hb8)
    | (go_at_call 53; (with_reducible refine (HPT.out _ _ _ _ _ s8 z8 s3 z3).mono ?_); rintro e w9 ⟨a9, c9, a9', c9', rfl, s9, z9, hb9⟩; have hB9 : Below w.heap.size w w9 := hB8.trans (hb9.mono hB8.size); have dd9 := dd8.on hb9; obtain ⟨q0, q1, q2, ql⟩ := id dd9)
    | (go_at_call 49; (with_reducible refine (HR.out _ _ _ s9 z9).mono ?_); rintro e w10 ⟨rfl, hb10⟩; have hB10 : Below w.heap.size w w10 := hB9.trans (hb10.mono hB9.size)))
  go_ret
  exact RetB.of rfl hB10
theorem r8_bits_frac_0 (n : Bool) (s : ByteArray) (x : Int) (X k : Nat) (w : World) (hxX : -x = (X : Int)) (hr : Dc.right s.data.toList x = true) (h0 : s.size ≠ 0) (hend : -400 ≤ (s.size : Int) + x ∧ (s.size : Int) + x ≤ 400) (hX : 0 < X)
    (hk : (Na.bitLen (10 ^ X) : Int) - Na.bitLen (Dc.nv s.data.toList) + 70 ≤ 0 ∧ k = 0) :
    Calls Tryz.prog 21 #[.agg #[.bool n, .string s, .int .i64 x]] w (RetB (.int .u64 ((Fl.wsign n + Fl.bits s.data.toList x : Nat) : Int)) w) := by
  obtain ⟨hp, hs, hx1, hx2⟩ := r8_point_facts hr
  have hP := fun w => r7_point_any n s x w (by omega)
  rw [hp] at hP
  have hb0 : Below w.heap.size w (w.alloc (Obj.cells #[Value.bool n, Value.string s, Value.int IntKind.i64 x] 27)) := (Below.refl _ _).alloc (Nat.le_refl _) _
  have dd0 := DecB.new w n s x
  have hdig := Dc.right_dig hr
  have hne : s.data.toList ≠ [] := fun e => h0 (by have := congrArg List.length e; rwa [bs_length] at this)
  have hN0 := Nat.lt_of_lt_of_le (Nat.pow_pos (by decide)) (Dc.nv_first hdig hne (Dc.right_head hr hne))
  have hD := fun w => r8_digits_any s w (by omega) hdig
  have hN := Dc.nv_lt hdig
  rw [bs_length] at hN
  have hXx : (-x).toNat = X := by omega
  have hX15 : X ≤ 1500 := by omega
  have hLb := Na.len_ten_pow X
  have hTle := Na.ten_le X
  have hNlt : Dc.nv s.data.toList < 2 ^ (4 * s.size) := Na.ten_lt _ _ hN
  have hLn := Na.bitLen_le' hNlt
  have hbits := fun hq => Fl.bits_quot (l := s.data.toList) (x := x) (k := k) (by omega) (by omega) hN0 hq
  rw [hXx] at hbits
  obtain ⟨N, hNe⟩ : ∃ N, N = Dc.nv s.data.toList := ⟨_, rfl⟩
  rw [← hNe] at hD hN hbits hNlt hLn hN0 hk
  have hl1 : (Na.limbs N).length ≤ 150 := Na.limbs_of_exp hNlt (by omega)
  have hT := fun w => r8_ten_any X w (by omega)
  have hT0 : 0 < 10 ^ X := Nat.pow_pos (by decide)
  obtain ⟨T, hTe⟩ : ∃ T, T = 10 ^ X := ⟨_, rfl⟩
  rw [← hTe] at hT hbits hTle hLb hk hT0
  have hl2 : (Na.limbs T).length ≤ 200 := Na.limbs_of_exp' hTle (by omega)
  obtain ⟨LN, hLNe⟩ : ∃ z, z = Na.bitLen N := ⟨_, rfl⟩
  obtain ⟨LT, hLTe⟩ : ∃ z, z = Na.bitLen T := ⟨_, rfl⟩
  have hLnF := fun wr a c (sl : Sl wr a c (Na.limbs N)) (z : a = none → c = 0) => r1_len_any a c (Na.limbs N) wr sl z (by omega)
  have hLtF := fun wr a c (sl : Sl wr a c (Na.limbs T)) (z : a = none → c = 0) => r1_len_any a c (Na.limbs T) wr sl z (by omega)
  rw [Na.val_limbs] at hLnF hLtF
  have hbl := (Fl.bitLen_ge (n := N) (by omega)).2.2
  rw [← hLNe] at hLnF hLn hbits hk hbl
  rw [← hLTe] at hLtF hLb hbits hk
  have hk6 : k ≤ 6100 := by omega
  have hbits := hbits (by omega)
  have hU := fun wr a c (sl : Sl wr a c (Na.limbs N)) (z : a = none → c = 0) => r3_up_any a c (Na.limbs N) k wr sl z (by omega) (by omega)
  rw [Na.val_limbs] at hU
  have hl3 : (Na.limbs (N * 2 ^ k)).length ≤ 400 := by
    have h1 : N * 2 ^ k < 2 ^ (4 * s.size + k) := by rw [Nat.pow_add]; exact Nat.mul_lt_mul_of_pos_right hNlt (Nat.pow_pos (by decide))
    exact Na.limbs_of_exp h1 (by omega)
  obtain ⟨U, hUe⟩ : ∃ U, U = N * 2 ^ k := ⟨_, rfl⟩
  rw [← hUe] at hU hl3 hbits
  have hPt := fun wr a c b d (s1 : Sl wr a c (Na.limbs U)) (z1 : a = none → c = 0) (s2 : Sl wr b d (Na.limbs T)) (z2 : b = none → d = 0) => r1_parts_z a c (Na.limbs U) b d (Na.limbs T) wr s1 z1 s2 z2 (by omega) (by omega) (by rw [Na.val_limbs]; exact hT0)
  rw [Na.val_limbs, Na.val_limbs] at hPt
  have hl4 : (Na.limbs (U / T)).length ≤ 5000 := by
    have h1 := Na.val_lt (Na.limbs U) (Na.ok_limbs U)
    rw [Na.val_limbs] at h1
    have := Na.limbs_len_le (U / T) _ (Nat.lt_of_le_of_lt (Nat.div_le_self U T) h1)
    omega
  have hmr := Na.len_pos_dec (U % T)
  obtain ⟨Q, hQ⟩ : ∃ Q, Q = U / T := ⟨_, rfl⟩
  obtain ⟨R, hRe⟩ : ∃ R, R = U % T := ⟨_, rfl⟩
  rw [← hQ] at hPt hl4 hbits
  rw [← hRe] at hPt hmr hbits
  have hR := fun wr a c (sl : Sl wr a c (Na.limbs Q)) (z : a = none → c = 0) => r3_round_any n a c Q (-(k : Int)) (decide (R ≠ 0)) wr sl z hl4 (by omega)
  obtain ⟨Z, hZ⟩ : ∃ Z, Z = Fl.wsign n + Fl.bits s.data.toList x := ⟨_, rfl⟩
  have hR2 : ∀ wr a c, Sl wr a c (Na.limbs Q) → (a = none → c = 0) → Calls Tryz.prog 49 #[.bool n, .slice a (Na.limbs Q).length c, .int .i64 (-(k : Int)), .bool (decide (R ≠ 0))] wr (RetB (.int .u64 (Z : Int)) wr) := fun wr a c sl z => by
    rw [hZ, ← hbits]; exact hR wr a c sl z
  rw [← hZ]
  obtain ⟨more, hmo⟩ : ∃ b, b = decide (R ≠ 0) := ⟨_, rfl⟩
  rw [← hmo] at hR2 hmr
  obtain ⟨lr, hlr⟩ : ∃ z, z = (Na.limbs R).length := ⟨_, rfl⟩
  have hPt2 : ∀ wr a c b d, Sl wr a c (Na.limbs U) → (a = none → c = 0) → Sl wr b d (Na.limbs T) → (b = none → d = 0) → Calls Tryz.prog 53 #[.slice a (Na.limbs U).length c, .slice b (Na.limbs T).length d] wr (fun e w' => ∃ a c a' c', e = .returned (.tuple #[.slice a (Na.limbs Q).length c, .slice a' lr c']) ∧ Sl w' a c (Na.limbs Q) ∧ (a = none → c = 0) ∧ Below wr.heap.size wr w') := fun wr a c b d s1 z1 s2 z2 =>
    (hPt wr a c b d s1 z1 s2 z2).mono fun e w' ⟨a, c, a', c', e, s1, s2, z1, z2, hb⟩ => ⟨a, c, a', c', by rw [hlr]; exact e, s1, z1, hb⟩
  rw [← hlr] at hmr
  have hmr2 : decide (0 < lr) = more := by rw [← hmr]; exact decide_eq_decide.2 (by omega)
  obtain ⟨P, hPe⟩ : ∃ P, P = (s.size : Int) + x := ⟨_, rfl⟩
  rw [← hPe] at hP hend
  have hPm : decide (P < -400) = false := decide_eq_false (by omega)
  have hPm2 : decide (400 < P) = false := decide_eq_false (by omega)
  have hz : ((s.size : Int) == 0) = false := by simp only [beq_eq_false_iff_ne, ne_eq]; omega
  have hx0 : decide (0 ≤ x) = false := decide_eq_false (by omega)
  obtain ⟨D1, hD1⟩ : ∃ D1 : Int, (LT : Int) - (LN : Int) = D1 := ⟨_, rfl⟩
  have hD2 : D1 + 70 ≤ 0 := by omega
  have hwX : wrap64 (X : Int) = (X : Int) := by unfold wrap64; omega
  have hD0 : -10000 ≤ D1 ∧ D1 ≤ 10000 := len_range hD1 hLn hLb hs hX15
  have hpz : decide (0 < D1 + 70) = false := decide_eq_false (by omega)
  have hki : (k : Int) = 0 := by omega
  have hR20 := hR2
  rw [hki, Int.neg_zero] at hR20
  rw [hki] at hU
  have hR2 := hR20
  have HP := Lib.hid hP; have HDG := Lib.hid hD; have HT := Lib.hid hT; have HR := Lib.hid hR2; have HLN := Lib.hid hLnF; have HLT := Lib.hid hLtF; have HU := Lib.hid hU; have HPT := Lib.hid hPt2
  clear hR20 hki hr h0 hend hP hp hPe hZ hR hR2 hl3 hl2 hl1 hT hTe hD hNe hN hbits hdig hne hN0 hXx hX15 hLb hTle hNlt hLn hT0 hLNe hLTe hLnF hLtF hbl hU hUe hPt hl4 hQ hRe hmo hlr hPt2 hk hx1 hx2
  obtain ⟨d01, d02⟩ := hD0
  go_enter Tryz.func21, Tryz.ntmps21
  go_wp2_with (first
    | (go_at_call 46; (with_reducible refine (HP.out _).mono ?_); rintro e w1 ⟨rfl, hb1⟩; have hB1 : Below w.heap.size w w1 := hb0.trans (hb1.mono (by simp)); have dd1 := dd0.on hb1; obtain ⟨y0, y1, y2, yl⟩ := id dd1)
    | (go_at_call 48; (with_reducible refine (HDG.out _).mono ?_); rintro e w2 ⟨a2, c2, rfl, s2, z2, hb2⟩; have hB2 : Below w.heap.size w w2 := hB1.trans (hb2.mono hB1.size); have dd2 := dd1.on hb2; obtain ⟨u0, u1, u2, ul⟩ := id dd2)
    | (go_at_call 51; (with_reducible refine (HT.out _).mono ?_); rintro e w3 ⟨a3, c3, rfl, s3, z3, -, hb3⟩; have hB3 : Below w.heap.size w w3 := hB2.trans (hb3.mono hB2.size); have dd3 := dd2.on hb3; have s2 := s2.on hb3; obtain ⟨v0, v1, v2, vl⟩ := id dd3)
    | (go_at_call 52; (with_reducible refine (HLN.out _ _ _ s2 z2).mono ?_); rintro e w5 ⟨rfl, hb5⟩; have hB5 : Below w.heap.size w w5 := hB4.trans (hb5.mono hB4.size); have dd5 := dd4.on hb5; have s2 := s2.on hb5; have s3 := s3.on hb5)
    | (go_at_call 52; (with_reducible refine (HLT.out _ _ _ s3 z3).mono ?_); rintro e w4 ⟨rfl, hb4⟩; have hB4 : Below w.heap.size w w4 := hB3.trans (hb4.mono hB3.size); have dd4 := dd3.on hb4; have s2 := s2.on hb4; have s3 := s3.on hb4)
    | (go_at_call 54; (with_reducible refine (HU.out _ _ _ s2 z2).mono ?_); rintro e w8 ⟨a8, c8, rfl, s8, z8, -, hb8⟩; have hB8 : Below w.heap.size w w8 := hB5.trans (hb8.mono hB5.size); have dd8 := dd5.on hb8; have s3 := s3.on hb8)
    | (go_at_call 53; (with_reducible refine (HPT.out _ _ _ _ _ s8 z8 s3 z3).mono ?_); rintro e w9 ⟨a9, c9, a9', c9', rfl, s9, z9, hb9⟩; have hB9 : Below w.heap.size w w9 := hB8.trans (hb9.mono hB8.size); have dd9 := dd8.on hb9; obtain ⟨q0, q1, q2, ql⟩ := id dd9)
    | (go_at_call 49; (with_reducible refine (HR.out _ _ _ s9 z9).mono ?_); rintro e w10 ⟨rfl, hb10⟩; have hB10 : Below w.heap.size w w10 := hB9.trans (hb10.mono hB9.size)))
  go_ret
  exact RetB.of rfl hB10
theorem r8_bits_any (n : Bool) (s : ByteArray) (x : Int) (w : World) (hr : Dc.right s.data.toList x = true) :
    Calls Tryz.prog 21 #[.agg #[.bool n, .string s, .int .i64 x]] w (RetB (.int .u64 ((Fl.wsign n + Fl.bits s.data.toList x : Nat) : Int)) w) := by
  by_cases hend : s.size = 0 ∨ (s.size : Int) + x < -400 ∨ 400 < (s.size : Int) + x
  · exact r8_bits_end n s x w hr hend
  · by_cases h0 : 0 ≤ x
    · obtain ⟨X, rfl⟩ : ∃ X : Nat, x = (X : Int) := ⟨x.toNat, by omega⟩
      exact r8_bits_whole n s X w hr (by omega) (by omega)
    · obtain ⟨X, hX⟩ : ∃ X : Nat, -x = (X : Int) := ⟨(-x).toNat, by omega⟩
      by_cases hk : (Na.bitLen (10 ^ X) : Int) - Na.bitLen (Dc.nv s.data.toList) + 70 ≤ 0
      · exact r8_bits_frac_0 n s x X 0 w hX hr (by omega) (by omega) (by omega) ⟨hk, rfl⟩
      · obtain ⟨k, hk2⟩ : ∃ k : Nat, (Na.bitLen (10 ^ X) : Int) - Na.bitLen (Dc.nv s.data.toList) + 70 = (k : Int) := ⟨((Na.bitLen (10 ^ X) : Int) - Na.bitLen (Dc.nv s.data.toList) + 70).toNat, by omega⟩
        exact r8_bits_frac_k n s x X k w hX hr (by omega) (by omega) (by omega) ⟨hk2, by omega⟩
end Go.Proofs.YtiglekomfgfilaaGreatDoor

/- Plain Lean: the size of a number, where the two about it lie, what the document searches. -/
namespace Go.Proofs.YtiglekomfgfilaaGreatDoor.Fl
set_option linter.all false
end Go.Proofs.YtiglekomfgfilaaGreatDoor.Fl

/- The reference of chapter 10: Abs, Dec. -/
namespace Go.Proofs.YtiglekomfgfilaaGreatDoor
set_option linter.all false
open Go.RowKit
attribute [local go_sem] dc_guard
end Go.Proofs.YtiglekomfgfilaaGreatDoor

/- The reference of chapter 10: Dec. -/
namespace Go.Proofs.YtiglekomfgfilaaGreatDoor
set_option linter.all false
open Go.RowKit
end Go.Proofs.YtiglekomfgfilaaGreatDoor

namespace Go.Proofs.YtiglekomfgfilaaGreatDoor
set_option linter.all false
open Go.RowKit
attribute [local go_sem] Dc.Res.val
end Go.Proofs.YtiglekomfgfilaaGreatDoor

/- The reference: Read and Parse. -/
namespace Go.Proofs.YtiglekomfgfilaaGreatDoor
set_option linter.all false
open Go.RowKit
end Go.Proofs.YtiglekomfgfilaaGreatDoor

namespace Go.Proofs.YtiglekomfgfilaaGreatDoor
set_option linter.all false
open Go.RowKit
end Go.Proofs.YtiglekomfgfilaaGreatDoor

namespace Go.Proofs.YtiglekomfgfilaaGreatDoor
set_option linter.all false
open Go.RowKit
attribute [local go_sem] Dc.Res.val
end Go.Proofs.YtiglekomfgfilaaGreatDoor

/- The reference of chapter 10: Print, Parse. -/
namespace Go.Proofs.YtiglekomfgfilaaGreatDoor
set_option linter.all false
open Go.RowKit
end Go.Proofs.YtiglekomfgfilaaGreatDoor

/- Chapter 10's laws: a number is written, a text is read or refused, as the document says; the decimals. -/
namespace Go.Proofs.YtiglekomfgfilaaGreatDoor
set_option linter.all false
open Go.RowKit
attribute [local go_sem] dc_guard
end Go.Proofs.YtiglekomfgfilaaGreatDoor

/- Plain Lean: what is written of a number is short. -/
namespace Go.Proofs.YtiglekomfgfilaaGreatDoor
set_option linter.all false
theorem Dc.body_len (g l : Dc.Bs) (p : Int) (hl : l.length ≤ 1100) (hg : g.length ≤ 1) (hp : -200000 ≤ p ∧ p ≤ 200000) : (Dc.body g l p).length ≤ 2000 := by
  have h1 := Dc.itoa_len (p - 1) (by omega)
  have h2 := Dc.itoa_len (1 - p) (by omega)
  unfold Dc.body
  repeat' split
  all_goals simp [Dc.rep_len]
  all_goals omega
theorem Fl.wprint_len (x : Nat) : (Fl.wprint x).length ≤ 2000 := by
  unfold Fl.wprint
  split
  · unfold Fl.wname; repeat' split
    all_goals decide
  · by_cases hr : Dc.right (Fl.wdec x).l (Fl.wdec x).x = true
    · rw [Dc.print, if_pos hr]
      have h1 := Dc.right_len hr
      have h2 := Dc.right_exp hr
      exact Dc.body_len _ _ _ h1 (by split <;> decide) (by omega)
    · rw [Dc.print, if_neg hr]; decide
end Go.Proofs.YtiglekomfgfilaaGreatDoor

/- Chapter 10's laws: what is written is read back, what is read is written as it was. -/
namespace Go.Proofs.YtiglekomfgfilaaGreatDoor
set_option maxRecDepth 100000
set_option maxHeartbeats 4000000
set_option linter.all false
open Go.RowKit
theorem Fl.readS_err (s : Dc.Bs) : (Fl.readS s).2 = 0 ∨ (Fl.readS s).2 = 2 ∨ (Fl.readS s).2 = 3 := by
  unfold Fl.readS
  split
  · exact Or.inl rfl
  · rename_i hne
    rcases Dc.parse_fine s with ⟨q, -⟩ | ⟨q, q1, q2⟩
    · exact absurd q hne
    · rw [q2]; exact Or.inr q1
theorem Fl.wparse_err (s : Dc.Bs) : (Fl.wparse s).2 = 0 ∨ (Fl.wparse s).2 = 2 ∨ (Fl.wparse s).2 = 3 := by
  unfold Fl.wparse
  split
  · exact Or.inl rfl
  · split
    · exact Or.inl rfl
    · split
      · exact Or.inl rfl
      · split
        · exact Fl.readS_err s
        · split
          · exact Or.inr (Or.inr rfl)
          · exact Or.inl rfl
theorem r3_right_any (x : Nat) (hx : x < 18446744073709551616) (w : World) : Calls Tryz.prog 19 #[.int .u64 x] w (Ret0 (.int .u64 (if Fl.kind x = 4 then 9221120237041090560 else x : Nat)) w) := by
  have hK := fun w => r3_kind_any x hx w
  by_cases h4 : Fl.kind x = 4
  · rw [if_pos h4]
    rw [h4] at hK
    have HK := Lib.hid hK
    clear hK h4
    go_enter Tryz.func19, Tryz.ntmps19
    go_wp2_with (first
      | (go_at_call 12; (with_reducible refine (HK.out _).mono ?_); rintro e w' ⟨rfl, rfl⟩))
    go_ret
    exact Ret0.of rfl
  · rw [if_neg h4]
    obtain ⟨k, hkk⟩ : ∃ k, k = Fl.kind x := ⟨_, rfl⟩
    rw [← hkk] at hK h4
    have HK := Lib.hid hK
    clear hK hkk
    go_enter Tryz.func19, Tryz.ntmps19
    go_wp2_with (first
      | (go_at_call 12; (with_reducible refine (HK.out _).mono ?_); rintro e w' ⟨rfl, rfl⟩))
    go_ret
    exact Ret0.of rfl
theorem l10_back_any (x : Nat) (s : ByteArray) (w : World) (hx : x < 18446744073709551616) (hs : s.size ≤ 9223372036854775807) (ht : Tab w) : Calls Tryz.prog 5 #[.int .u64 x, .string s] w (RetB (.bool true) w) := by
  have HS := Lib.hid (l10_shown_any w ht)
  by_cases hl : 1200 < s.size
  · clear ht
    go_enter Tryz.func5, Tryz.ntmps5
    go_wp2_with (first | (go_at_call 8; (with_reducible refine (HS.out).mono ?_); rintro e w1 ⟨rfl, hb1⟩))
    go_ret
    exact RetB.of rfl hb1
  · have HP := Lib.hid (fun v b w1 (h : St10 w v b w1) => sh_parse_any v b s w1 h.tb (by omega) h.wt)
    have hp := fun v b w1 (h : St10 w v b w1) => sh_print_any v b x w1 h.tb hx h.wt
    have hpp := fun v b w1 (h : St10 w v b w1) => sh_parse_any v b ⟨(Fl.wprint x).toArray⟩ w1 h.tb (by have := Fl.wprint_len x; rw [← bs_length, bs_mk]; omega) h.wt
    rw [bs_mk, Fl.parse_print hx] at hpp
    have hri := fun w1 => r3_right_any x hx w1
    obtain ⟨P, hP⟩ : ∃ q : ByteArray, q = ⟨(Fl.wprint x).toArray⟩ := ⟨_, rfl⟩
    obtain ⟨R, hR⟩ : ∃ R : Nat, R = (if Fl.kind x = 4 then 9221120237041090560 else x) := ⟨_, rfl⟩
    rw [← hP] at hp hpp
    rw [← hR] at hpp hri
    have HPR := Lib.hid hp; have HPP := Lib.hid (show ∀ (v b : Nat) w1, St10 w v b w1 → Calls Tryz.prog 15 #[.pointer (some ⟨v, 0, none⟩), .string P] w1 (RetR b (.tuple #[.int .u64 R, .int .i64 0]) w1) from hpp); have HRI := Lib.hid hri
    have HN := Lib.hid (fun w1 => sh_new_any w1)
    have HT := Lib.hid ht
    have herr := Fl.wparse_err s.data.toList
    have hzl := Fl.wparse_lt s.data.toList
    have hback := Fl.print_parse10 s.data.toList
    obtain ⟨Y, hY⟩ : ∃ Y, Y = (Fl.wparse s.data.toList).1 := ⟨_, rfl⟩
    obtain ⟨F, hF⟩ : ∃ Y, Y = (Fl.wparse s.data.toList).2 := ⟨_, rfl⟩
    rw [← hY, ← hF] at HP
    rw [← hF] at herr hback
    rw [← hY] at hzl hback
    have hpz := fun (h : F = 0) v b w1 (hh : St10 w v b w1) => (show Calls Tryz.prog 17 #[.pointer (some ⟨v, 0, none⟩), .int .u64 Y] w1 (RetR b (.string s) w1) from by
      have q := sh_print_any v b Y w1 hh.tb hzl hh.wt
      rw [hback h] at q
      exact q)
    clear hp hpp hri hP hR ht hY hF hback
    rcases herr with rfl | rfl | rfl
    · have HPZ := Lib.hid (hpz rfl)
      clear hpz
      go_enter Tryz.func5, Tryz.ntmps5
      go_wp2_with (first
        | (go_at_call 8; (with_reducible refine (HS.out).mono ?_); rintro e w1 ⟨rfl, hb1⟩)
        | (go_at_call 9; (with_reducible refine (HN.out _).mono ?_); rintro e w2 ⟨v, b, rfl, gv, gb, wt2, hb2⟩; have hB2 := hb1.trans (hb2.mono hb1.size); have S2 : St10 w v b w2 := ⟨⟨w, HT.out, Nat.le_trans hb1.size gb, hB2⟩, wt2, hB2, Nat.le_trans hb1.size gb⟩)
        | (go_at_call 17; (with_reducible refine (HPZ.out _ _ _ S4).mono ?_); rintro e w6 ⟨rfl, ho6, rd6⟩; have S6 := S4.onl ho6 rd6)
        | (go_at_call 15; (with_reducible refine (HP.out _ _ _ S3).mono ?_); rintro e w4 ⟨rfl, ho4, rd4⟩; have S4 := S3.onl ho4 rd4)
        | (go_at_call 17; (with_reducible refine (HPR.out _ _ _ S2).mono ?_); rintro e w5 ⟨rfl, ho5, rd5⟩; have S5 := S2.onl ho5 rd5)
        | (go_at_call 15; (with_reducible refine (HPP.out _ _ _ S5).mono ?_); rintro e w3 ⟨rfl, ho3, rd3⟩; have S3 := S5.onl ho3 rd3)
        | (go_at_call 19; (with_reducible refine (HRI.out _).mono ?_); rintro e w' ⟨rfl, rfl⟩))
      go_ret
      exact RetB.of (by simp) S6.be
    all_goals (
      clear hpz
      go_enter Tryz.func5, Tryz.ntmps5
      go_wp2_with (first
        | (go_at_call 8; (with_reducible refine (HS.out).mono ?_); rintro e w1 ⟨rfl, hb1⟩)
        | (go_at_call 9; (with_reducible refine (HN.out _).mono ?_); rintro e w2 ⟨v, b, rfl, gv, gb, wt2, hb2⟩; have hB2 := hb1.trans (hb2.mono hb1.size); have S2 : St10 w v b w2 := ⟨⟨w, HT.out, Nat.le_trans hb1.size gb, hB2⟩, wt2, hB2, Nat.le_trans hb1.size gb⟩)
        | (go_at_call 15; (with_reducible refine (HP.out _ _ _ S3).mono ?_); rintro e w4 ⟨rfl, ho4, rd4⟩; have S4 := S3.onl ho4 rd4)
        | (go_at_call 17; (with_reducible refine (HPR.out _ _ _ S2).mono ?_); rintro e w5 ⟨rfl, ho5, rd5⟩; have S5 := S2.onl ho5 rd5)
        | (go_at_call 15; (with_reducible refine (HPP.out _ _ _ S5).mono ?_); rintro e w3 ⟨rfl, ho3, rd3⟩; have S3 := S5.onl ho3 rd3)
        | (go_at_call 19; (with_reducible refine (HRI.out _).mono ?_); rintro e w' ⟨rfl, rfl⟩))
      go_ret
      exact RetB.of (by simp) S4.be)
end Go.Proofs.YtiglekomfgfilaaGreatDoor

/- What all cards of this seat ask of the program as a whole: each a fact of its own (together they outgrow the memory's lid). -/
namespace Go.Proofs.YtiglekomfgfilaaGreatDoor
set_option linter.all false
open Go.ChangeShapes Go.WideShapes Go.ChangeAt Go.RowKit Go.WideMaps Go.WideElems
theorem and_mk {a b : Bool} (ha : a = true) (hb : b = true) : (a && b) = true := by rw [ha, hb]; rfl
theorem cf_laid : laidOutB Tryz.pinned.checked.prog = true := laidOut
theorem cf_maps : mapsRowed Tryz.pinned.checked.prog = true := by kernel_rfl
theorem cf_stops : (Tryz.pinned.checked.prog.stops == []) = true := by kernel_rfl
theorem cf_knobs : (Tryz.pinned.checked.prog.stopKnobs == []) = true := by kernel_rfl
theorem cf_plain : (true == Tryz.pinned.checked.prog.plainKeys) = true := by kernel_rfl
theorem cf_heard : Tryz.pinned.checked.prog.stopsHeard = true := by kernel_rfl
theorem cf_enter : Tryz.pinned.checked.prog.mayEnter = true := by kernel_rfl
theorem cf_lifted : (Rows.shortestDecsRow.lifted == Tryz.pinned.checked.prog.liftsFinal) = true := by kernel_rfl
theorem cf_make : (Tryz.pinned.checked.prog.make == some Rows.shortestDecsRow.make) = true := by kernel_rfl
end Go.Proofs.YtiglekomfgfilaaGreatDoor

/- Chapter 10's laws: a number is written, a text is read or refused, as the document says; the decimals. -/
namespace Go.Proofs.YtiglekomfgfilaaGreatDoor
set_option linter.all false
open Go.RowKit
attribute [local go_sem] dc_guard
theorem St10.dec {w0 w : World} {v b x : Nat} (h : St10 w0 v b w) (hx : x < 18446744073709551616) : Calls Tryz.prog 10 #[.pointer (some ⟨v, 0, none⟩), .int .u64 x] w (RetR b (.tuple #[drv (Fl.wdec x), .int .i64 (Fl.wdec x).e]) w) := sh_dec_any v b x w h.tb.tab hx h.wt
theorem St10.fif {w0 w : World} {v b x : Nat} (h : St10 w0 v b w) (hx : x < 18446744073709551616) : Calls Tryz.prog 11 #[.pointer (some ⟨v, 0, none⟩), .int .u64 x] w (RetB (.tuple #[drv (Fl.sig x 15 1), .int .i64 (Fl.sig x 15 1).e]) w) := sh_fifteen_any (some ⟨v, 0, none⟩) x w h.tb.tab hx
end Go.Proofs.YtiglekomfgfilaaGreatDoor

/- Chapter 10's laws: the decimal has the fewest digits. -/
namespace Go.Proofs.YtiglekomfgfilaaGreatDoor
set_option maxRecDepth 100000
set_option maxHeartbeats 8000000
set_option linter.all false
open Go.RowKit
attribute [local go_sem] dc_guard
theorem l10_fewest_none (x : Nat) (w : World) (hx : x < 18446744073709551616) (ht : Tab w) (hk : 3 ≤ Fl.kind x) : Calls Tryz.prog 6 #[.int .u64 x] w (RetB (.bool true) w) := by
  have HS := Lib.hid (l10_shown_any w ht)
  have hK := fun w => r3_kind_any x hx w
  obtain ⟨k, hkk⟩ : ∃ k, k = Fl.kind x := ⟨_, rfl⟩
  rw [← hkk] at hK hk
  have HK := Lib.hid hK
  clear hK hkk ht
  have hkc : (3 : Int) ≤ (k : Int) := by omega
  go_enter Tryz.func6, Tryz.ntmps6
  go_wp2_with (first
    | (go_at_call 8; (with_reducible refine (HS.out).mono ?_); rintro e w1 ⟨rfl, hb1⟩)
    | (go_at_call 12; (with_reducible refine (HK.out _).mono ?_); rintro e w' ⟨rfl, rfl⟩))
  go_ret
  exact RetB.of rfl hb1
theorem Fl.sign_back {x : Nat} (hx : x < 18446744073709551616) : Fl.wsign (Fl.neg x) + x % 9223372036854775808 = x := by
  unfold Fl.wsign Fl.neg
  by_cases h : 9223372036854775808 ≤ x
  · rw [decide_eq_true h, if_pos rfl]; omega
  · rw [decide_eq_false h, if_neg (by decide)]; omega
theorem l10_fewest_fine (x : Nat) (w : World) (hx : x < 18446744073709551616) (ht : Tab w) (hk : Fl.kind x < 3) : Calls Tryz.prog 6 #[.int .u64 x] w (RetB (.bool true) w) := by
  have HS := Lib.hid (l10_shown_any w ht)
  have HN := Lib.hid (fun w1 => sh_new_any w1)
  have HT := Lib.hid ht
  have hK := fun w => r3_kind_any x hx w
  obtain ⟨k1, k2, k3, k4, k5, k6⟩ := Fl.wdec_fine x hk
  obtain ⟨d1, d2, d3, d4, d5, -⟩ := Fl.decx_fine x hk
  have hd := fun v b w1 (h : St10 w v b w1) => h.dec hx
  rw [k1] at hd
  have he := fun w1 => r9_dec_any x hx w1
  rw [drv_val, d1] at he
  unfold drv dag at hd he
  have hsb := Fl.sign_back hx
  obtain ⟨k, hkk⟩ : ∃ k, k = Fl.kind x := ⟨_, rfl⟩
  rw [← hkk] at hK
  have hkc : ¬ (3 : Int) ≤ (k : Int) := by omega
  obtain ⟨dn, hdn⟩ : ∃ q, q = Fl.neg x := ⟨_, rfl⟩
  obtain ⟨dS, hdS⟩ : ∃ q : ByteArray, q = ⟨(Fl.wdec x).l.toArray⟩ := ⟨_, rfl⟩
  obtain ⟨dX, hdX⟩ : ∃ q : Int, q = (Fl.wdec x).x := ⟨_, rfl⟩
  obtain ⟨eS, heS⟩ : ∃ q : ByteArray, q = ⟨(Fl.dec x).l.toArray⟩ := ⟨_, rfl⟩
  obtain ⟨eX, heX⟩ : ∃ q : Int, q = (Fl.dec x).x := ⟨_, rfl⟩
  have hdl : (Fl.wdec x).l = dS.data.toList := by rw [hdS]
  have hel : (Fl.dec x).l = eS.data.toList := by rw [heS]
  rw [k2] at hd
  simp only [← hdn, ← hdS, ← hdX] at hd
  rw [d2] at he
  simp only [← hdn, ← heS, ← heX] at he
  rw [hdl, ← hdX] at k3 k5
  rw [hdl] at k4 k6
  rw [hel, ← heX] at d3 k6
  rw [← hdn] at hsb k6
  rw [← heX] at d4 d5
  rw [bs_length] at k4 k6
  have hr := fun w1 => d_right_any dn dS dX w1 (by omega)
  rw [k3] at hr
  have hb := fun w1 => r8_bits_any dn dS dX w1 k3
  rw [k5, hsb] at hb
  have hkl : ¬ (17 : Int) < (dS.size : Int) := by omega
  have HK := Lib.hid hK; have HD := Lib.hid hd; have HE := Lib.hid he; have HR := Lib.hid hr; have HB := Lib.hid hb
  have hen := Dc.right_len d3
  rw [bs_length] at hen
  by_cases h2 : dS.size < 2
  · clear hK hd he hr hb hkk hdn hdS hdX heS heX hdl hel k1 k2 k3 k4 k5 k6 d1 d2 d3 d4 d5 ht hsb hk
    go_enter Tryz.func6, Tryz.ntmps6
    go_wp2_with (first
      | (go_at_call 8; (with_reducible refine (HS.out).mono ?_); rintro e w1 ⟨rfl, hb1⟩)
      | (go_at_call 12; (with_reducible refine (HK.out _).mono ?_); rintro e w' ⟨rfl, rfl⟩)
      | (go_at_call 9; (with_reducible refine (HN.out _).mono ?_); rintro e w2 ⟨v, b, rfl, gv, gb, wt2, hb2⟩; have hB2 := hb1.trans (hb2.mono hb1.size); have S2 := Lib.hid (show St10 w v b w2 from ⟨⟨w, HT.out, Nat.le_trans hb1.size gb, hB2⟩, wt2, hB2, Nat.le_trans hb1.size gb⟩))
      | (go_at_call 10; (with_reducible refine (HD.out _ _ _ S2.out).mono ?_); rintro e w3 ⟨rfl, ho3, rd3⟩; have S3 := Lib.hid ((S2.out.onl ho3 rd3).on ((Below.refl _ w3).alloc (Nat.le_refl _) (.cells #[.bool dn, .string dS, .int .i64 dX] 27))); have C3 := Cs.new w3 (dcs dn dS dX) 27)
      | (go_at_call 20; (with_reducible refine (HR.out _).mono ?_); rintro e w4 ⟨rfl, hb4⟩; have S4 := Lib.hid (S3.out.on hb4); have C4 := C3.on hb4; have x0 := C4.get 0 rfl; have x1 := C4.get 1 rfl; have x2 := C4.get 2 rfl; have xl := C4.1)
      | (go_at_call 21; (with_reducible refine (HB.out _).mono ?_); rintro e w5 ⟨rfl, hb5⟩; have S5 := Lib.hid (S4.out.on hb5); have C5 := C4.on hb5; have y0 := C5.get 0 rfl; have y1 := C5.get 1 rfl; have y2 := C5.get 2 rfl; have yl := C5.1))
    go_ret
    exact RetB.of rfl S5.out.be
  · have hne : eS.data.toList ≠ [] := by
      intro h
      rw [← hel] at h
      have e : Fl.wdec x = Fl.dec x := by rw [Fl.wdec, if_neg (by omega), if_pos h]
      have e2 : dS.data.toList = [] := by rw [← hdl, e, h]
      have e3 := bs_length dS
      rw [e2] at e3
      simp at e3
      omega
    obtain ⟨i, hi⟩ : ∃ i, i = dS.size - 1 := ⟨_, rfl⟩
    have hi2 : (dS.size : Int) - 1 = (i : Int) := by omega
    obtain ⟨n2, n3⟩ := k6 i (by omega) (by omega)
    have o2 := Fl.sig_ok (s := dn) (k := i) (way := 2) d3 hne (by omega) (by omega) (by omega)
    have o3 := Fl.sig_ok (s := dn) (k := i) (way := 3) d3 hne (by omega) (by omega) (by omega)
    have s2 := fun w1 => r7_sig_any dn eS eX i 2 w1 (by omega) (by omega) (by omega)
    have s3 := fun w1 => r7_sig_any dn eS eX i 3 w1 (by omega) (by omega) (by omega)
    rw [drv_val, o2.e] at s2
    rw [drv_val, o3.e] at s3
    unfold drv dag at s2 s3
    rw [o2.n] at s2
    rw [o3.n] at s3
    obtain ⟨lS, hlS⟩ : ∃ q : ByteArray, q = ⟨(Dc.sig dn eS.data.toList eX i 2).l.toArray⟩ := ⟨_, rfl⟩
    obtain ⟨lX, hlX⟩ : ∃ q : Int, q = (Dc.sig dn eS.data.toList eX i 2).x := ⟨_, rfl⟩
    obtain ⟨hS, hhS⟩ : ∃ q : ByteArray, q = ⟨(Dc.sig dn eS.data.toList eX i 3).l.toArray⟩ := ⟨_, rfl⟩
    obtain ⟨hX, hhX⟩ : ∃ q : Int, q = (Dc.sig dn eS.data.toList eX i 3).x := ⟨_, rfl⟩
    have hll : (Dc.sig dn eS.data.toList eX i 2).l = lS.data.toList := by rw [hlS]
    have hhl : (Dc.sig dn eS.data.toList eX i 3).l = hS.data.toList := by rw [hhS]
    have r2 := o2.right; have r3 := o3.right
    rw [← hlS, ← hlX] at s2
    rw [← hhS, ← hhX] at s3
    rw [hll, ← hlX] at r2 n2
    rw [hhl, ← hhX] at r3 n3
    have b2 := fun w1 => r8_bits_any dn lS lX w1 r2
    have b3 := fun w1 => r8_bits_any dn hS hX w1 r3
    obtain ⟨z2, hz2⟩ : ∃ z, z = Fl.wsign dn + Fl.bits lS.data.toList lX := ⟨_, rfl⟩
    obtain ⟨z3, hz3⟩ : ∃ z, z = Fl.wsign dn + Fl.bits hS.data.toList hX := ⟨_, rfl⟩
    rw [← hz2] at b2
    rw [← hz3] at b3
    have q2 : ((z2 : Int) == (x : Int)) = false := by rw [beq_eq_false_iff_ne]; omega
    have q3 : ((z3 : Int) == (x : Int)) = false := by rw [beq_eq_false_iff_ne]; omega
    have q2e : ¬ z2 = x := by omega
    have q3e : ¬ z3 = x := by omega
    have q2c : (z2 == x) = false := by rw [beq_eq_false_iff_ne]; exact q2e
    have q3c : (z3 == x) = false := by rw [beq_eq_false_iff_ne]; exact q3e
    have q2d : (z2 != x) = true := by rw [bne, q2c]; rfl
    have q3d : (z3 != x) = true := by rw [bne, q3c]; rfl
    have q2b : ((z2 : Int) != (x : Int)) = true := by rw [bne, q2]; rfl
    have q3b : ((z3 : Int) != (x : Int)) = true := by rw [bne, q3]; rfl
    have HS2 := Lib.hid s2; have HS3 := Lib.hid s3; have HB2 := Lib.hid b2; have HB3 := Lib.hid b3
    clear hK hd he hr hb hkk hdn hdS hdX heS heX hdl hel k1 k2 k3 k4 k5 k6 d1 d2 d3 d4 d5 ht hsb hk s2 s3 b2 b3 hlS hlX hhS hhX hll hhl r2 r3 n2 n3 o2 o3 hz2 hz3 hne hi
    go_enter Tryz.func6, Tryz.ntmps6
    go_wp2_with (first
      | (go_at_call 8; (with_reducible refine (HS.out).mono ?_); rintro e w1 ⟨rfl, hb1⟩)
      | (go_at_call 12; (with_reducible refine (HK.out _).mono ?_); rintro e w' ⟨rfl, rfl⟩)
      | (go_at_call 9; (with_reducible refine (HN.out _).mono ?_); rintro e w2 ⟨v, b, rfl, gv, gb, wt2, hb2⟩; have hB2 := hb1.trans (hb2.mono hb1.size); have S2 := Lib.hid (show St10 w v b w2 from ⟨⟨w, HT.out, Nat.le_trans hb1.size gb, hB2⟩, wt2, hB2, Nat.le_trans hb1.size gb⟩))
      | (go_at_call 10; (with_reducible refine (HD.out _ _ _ S2.out).mono ?_); rintro e w3 ⟨rfl, ho3, rd3⟩; have S3 := Lib.hid ((S2.out.onl ho3 rd3).on ((Below.refl _ w3).alloc (Nat.le_refl _) (.cells #[.bool dn, .string dS, .int .i64 dX] 27))); have C3 := Cs.new w3 (dcs dn dS dX) 27)
      | (go_at_call 20; (with_reducible refine (HR.out _).mono ?_); rintro e w4 ⟨rfl, hb4⟩; have S4 := Lib.hid (S3.out.on hb4); have C4 := C3.on hb4; have x0 := C4.get 0 rfl; have x1 := C4.get 1 rfl; have x2 := C4.get 2 rfl; have xl := C4.1)
      | (go_at_call 21; (with_reducible refine (HB.out _).mono ?_); rintro e w5 ⟨rfl, hb5⟩; have S5 := Lib.hid (S4.out.on hb5); have C5 := C4.on hb5; have y0 := C5.get 0 rfl; have y1 := C5.get 1 rfl; have y2 := C5.get 2 rfl; have yl := C5.1)
      | (go_at_call 22; (with_reducible refine (HE.out _).mono ?_); rintro e w6 ⟨rfl, hb6⟩; have S6 := Lib.hid ((S5.out.on hb6).on ((Below.refl _ w6).alloc (Nat.le_refl _) (.cells #[.bool dn, .string eS, .int .i64 eX] 27))); have C6 := (C5.on hb6).alloc (.cells #[.bool dn, .string eS, .int .i64 eX] 27); have E6 := Cs.new w6 (dcs dn eS eX) 27; have p1 := C6.get 1 rfl; have pl := C6.1)
      | (go_at_call 23; (with_reducible refine (HS2.out _).mono ?_); rintro e w7 ⟨rfl, hb7⟩; have S7 := Lib.hid ((S6.out.on hb7).on ((Below.refl _ w7).alloc (Nat.le_refl _) (.cells #[.bool dn, .string lS, .int .i64 lX] 27))); have C7 := (C6.on hb7).alloc (.cells #[.bool dn, .string lS, .int .i64 lX] 27); have E7 := (E6.on hb7).alloc (.cells #[.bool dn, .string lS, .int .i64 lX] 27); have L7 := Cs.new w7 (dcs dn lS lX) 27; have t1 := C7.get 1 rfl; have tl := C7.1; have u0 := E7.get 0 rfl; have u1 := E7.get 1 rfl; have u2 := E7.get 2 rfl; have ul := E7.1)
      | (go_at_call 23; (with_reducible refine (HS3.out _).mono ?_); rintro e w8 ⟨rfl, hb8⟩; have S8 := Lib.hid ((S7.out.on hb8).on ((Below.refl _ w8).alloc (Nat.le_refl _) (.cells #[.bool dn, .string hS, .int .i64 hX] 27))); have L8 := (L7.on hb8).alloc (.cells #[.bool dn, .string hS, .int .i64 hX] 27); have H8 := Cs.new w8 (dcs dn hS hX) 27; have v0 := L8.get 0 rfl; have v1 := L8.get 1 rfl; have v2 := L8.get 2 rfl; have vl := L8.1)
      | (go_at_call 21; (with_reducible refine (HB2.out _).mono ?_); rintro e w9 ⟨rfl, hb9⟩; have S9 := Lib.hid (S8.out.on hb9); have H9 := H8.on hb9; have m0 := H9.get 0 rfl; have m1 := H9.get 1 rfl; have m2 := H9.get 2 rfl; have ml := H9.1)
      | (go_at_call 21; (with_reducible refine (HB3.out _).mono ?_); rintro e wA ⟨rfl, hbA⟩; have SA := Lib.hid (S9.out.on hbA)))
    go_ret
    exact RetB.of rfl SA.out.be
theorem l10_fewest_any (x : Nat) (w : World) (hx : x < 18446744073709551616) (ht : Tab w) : Calls Tryz.prog 6 #[.int .u64 x] w (RetB (.bool true) w) := by
  by_cases hk : 3 ≤ Fl.kind x
  · exact l10_fewest_none x w hx ht hk
  · exact l10_fewest_fine x w hx ht (by omega)
end Go.Proofs.YtiglekomfgfilaaGreatDoor

/- The Reader in the program: Power. -/
namespace Go.Proofs.YtiglekomfgfilaaGreatDoor
set_option linter.all false
open Go.RowKit
end Go.Proofs.YtiglekomfgfilaaGreatDoor

/- Ints of 128 bits are compared. -/
namespace Go.Proofs.YtiglekomfgfilaaGreatDoor
set_option linter.all false
open Go.RowKit
def u2Eq (p0 p1 q0 q1 : Int) : Bool := p0 == q0 && p1 == q1
theorem u2_struct : Tryz.prog.underlying 91 = some (.struct (Tryz.prog.fieldsOf 91)) := by kernel_rfl
theorem u2_held : Tryz.prog.stoodInHeld 91 = false := by kernel_rfl
theorem u2_guardT : Tryz.prog.eqGuardType Tryz.prog.depth 91 = false := by kernel_rfl
theorem u2_fields : (Tryz.prog.fieldsOf 91).toList.map (fun f => (f.type, f.offset, f.name == "_")) = [(22, 0, false), (22, 1, false)] := by kernel_rfl
theorem u2_guard (op : BinOp) (x y : Operand) (xs ys : Array Value) (w : World) : (eqGuard op 91 x y (.agg xs) (.agg ys)).run Tryz.prog w = .ok () w := run_eqGuard_agg _ _ _ _ _ _ _ u2_guardT
theorem u2_equalIn (p0 p1 q0 q1 : Int) (w : World) :
    (Op.equalIn 10000 91 (.agg #[.int .u64 p0, .int .u64 p1]) (.agg #[.int .u64 q0, .int .u64 q1])).run Tryz.prog w = .ok (u2Eq p0 p1 q0 q1) w := by
  rw [run_equalIn_agg _ 9999 _ _ _ u2_struct u2_held]
  have hf := u2_fields
  generalize (Tryz.prog.fieldsOf 91).toList = fs at hf
  have hl := congrArg List.length hf
  rw [List.length_map] at hl
  obtain ⟨f0, f1, rfl⟩ : ∃ f0 f1, fs = [f0, f1] := by
    match fs, hl with
    | [a, b], _ => exact ⟨a, b, rfl⟩
  simp only [List.map_cons, List.map_nil, List.cons.injEq, Prod.mk.injEq, and_true] at hf
  obtain ⟨⟨t0, o0, n0⟩, ⟨t1, o1, n1⟩⟩ := hf
  have m0 := beq_eq_false_iff_ne.1 n0
  have m1 := beq_eq_false_iff_ne.1 n1
  simp [Op.eqFields, u2Eq, go_sem, t0, t1, o0, o1, m0, m1, Tryz.underlying22]
  by_cases h0 : p0 = q0 <;> by_cases h1 : p1 = q1 <;> simp [h0, h1]
theorem u2_neq (p0 p1 q0 q1 : Int) (w : World) :
    (binOp .neq 91 (.agg #[.int .u64 p0, .int .u64 p1]) (.agg #[.int .u64 q0, .int .u64 q1])).run Tryz.prog w = .ok (.bool (!(u2Eq p0 p1 q0 q1))) w := by
  rw [run_neq_struct, u2_equalIn]; rfl
theorem u2_eql (p0 p1 q0 q1 : Int) (w : World) :
    (binOp .eql 91 (.agg #[.int .u64 p0, .int .u64 p1]) (.agg #[.int .u64 q0, .int .u64 q1])).run Tryz.prog w = .ok (.bool (u2Eq p0 p1 q0 q1)) w := by
  rw [run_eql_struct, u2_equalIn]; rfl
end Go.Proofs.YtiglekomfgfilaaGreatDoor

/- Plain Lean: chapter 8's examples: what nine texts are read as; three powers of ten. -/
namespace Go.Proofs.YtiglekomfgfilaaGreatDoor.Fl
set_option linter.all false
open Go
end Go.Proofs.YtiglekomfgfilaaGreatDoor.Fl

/- The examples at the head of chapter 8's statements hold: shown() returns true. -/
namespace Go.Proofs.YtiglekomfgfilaaGreatDoor
set_option linter.all false
open Go.RowKit
attribute [local go_sem] u2_eql u2_neq u2Eq u2_guard
theorem Cs.onl {w w' : World} {b c : Nat} {vs : List Value} (h : Cs w b vs) (ho : Onl c w w') (hne : b ≠ c) : Cs w' b vs :=
  ⟨Nat.lt_of_lt_of_le h.1 ho.size, fun k hk => (ho.cell hne h.1).trans (h.2 k hk)⟩
end Go.Proofs.YtiglekomfgfilaaGreatDoor

/- Plain Lean: ints and middles as texts: what the texts of ReadInts and of ReadHalves are read as. -/
namespace Go.Proofs.YtiglekomfgfilaaGreatDoor.Fl
set_option linter.all false
open Go
end Go.Proofs.YtiglekomfgfilaaGreatDoor.Fl

/- Chapter 8's law: an int of 53 bits, written in digits, is the int, times any power of two that is told exactly. -/
namespace Go.Proofs.YtiglekomfgfilaaGreatDoor
set_option linter.all false
open Go.RowKit
def decS (N : Nat) : ByteArray := ⟨(Lib.decDigits N).toArray⟩
theorem decS_list (N : Nat) : (decS N).data.toList = Lib.decDigits N := rfl
theorem decS_size (N : Nat) : (decS N).size = (Lib.decDigits N).length := by rw [← bs_length]; rfl
theorem ba_app (a b : ByteArray) : (a ++ b).data.toList = a.data.toList ++ b.data.toList := by
  simp [ByteArray.append_eq]
end Go.Proofs.YtiglekomfgfilaaGreatDoor
