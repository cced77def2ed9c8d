/- Plain Lean: how the reference reads a right decimal: the ends, and the quotient to any length. -/
import Derived.Test.YtjnkbifafbjckaaGreatDoorZ23
import Derived.Test.YtjnkbifafbjckaaGreatDoorZ27
import Derived.Test.YtjnkbifafbjckaaGreatDoorZ10
namespace Go.Proofs.YtjnkbifafbjckaaGreatDoor.Fl
set_option linter.all false

theorem bits_nil : bits [] 0 = 0 := by
  rw [bits, if_pos (by omega), Dc.nv_nil, Nat.zero_mul, rd, if_pos rfl]

def n400 : Nat := 400
def n401 : Nat := 401
def n2046 : Nat := 2046
theorem bound_small : 2 * 2 ^ low ≤ 10 ^ n401 := by decide +kernel
theorem bound_big : 4503599627370496 * 2 ^ n2046 ≤ 10 ^ n400 * 2 ^ low := by decide +kernel
theorem V_inf : V 9218868437227405312 = 4503599627370496 * 2 ^ n2046 := V_form n2046 4503599627370496 (Or.inr ⟨Nat.le_refl _, by decide⟩)
theorem V_one : V 1 = 1 := by
  have := V_form 0 1 (Or.inl ⟨rfl, by decide⟩)
  simpa using this

theorem bits_small {l : Dc.Bs} {x : Int} (h : Dc.right l x = true) (hne : l ≠ []) (hp : (l.length : Int) + x < -400) : bits l x = 0 := by
  have hx := (Dc.right_exp h).1
  refine (bits_eq hx ⟨by decide, Or.inl rfl, Or.inr (Or.inl ?_)⟩).symm
  have hv := (Dc.vv_bounds h hne).2
  have hl : Dc.lift = 200000 := rfl
  obtain ⟨c, hc⟩ : ∃ c, Dc.lift = c + n401 := ⟨Dc.lift - n401, by unfold n401; omega⟩
  have h4 : n401 = 401 := rfl
  have hv2 : Dc.vv l x < 10 ^ c := Nat.lt_of_lt_of_le hv (Nat.pow_le_pow_right (by decide) (by omega))
  rw [Nat.zero_add, V_zero, V_one, Nat.zero_add, Nat.one_mul, hc, Nat.pow_add]
  have h1 : 2 * (Dc.vv l x * 2 ^ low) = Dc.vv l x * (2 * 2 ^ low) := by rw [Nat.mul_left_comm]
  rw [h1]
  exact Nat.lt_of_le_of_lt (Nat.mul_le_mul_left _ bound_small) (Nat.mul_lt_mul_of_pos_right hv2 (Nat.pow_pos (by decide)))

theorem bits_big {l : Dc.Bs} {x : Int} (h : Dc.right l x = true) (hne : l ≠ []) (hp : 400 < (l.length : Int) + x) : bits l x = 9218868437227405312 := by
  have hx := (Dc.right_exp h).1
  refine (bits_eq hx ⟨Nat.le_refl _, Or.inr (Or.inl ?_), Or.inl rfl⟩).symm
  have hv := (Dc.vv_bounds h hne).1
  have hl : Dc.lift = 200000 := rfl
  have h4 : n400 = 400 := rfl
  have hv2 : 10 ^ n400 * 10 ^ Dc.lift ≤ Dc.vv l x := by
    rw [← Nat.pow_add]
    exact Nat.le_trans (Nat.pow_le_pow_right (by decide) (by omega)) hv
  have hlt : V (9218868437227405312 - 1) < V 9218868437227405312 := V_lt (by decide)
  have hD : 0 < 10 ^ Dc.lift := Nat.pow_pos (by decide)
  have h1 : (V (9218868437227405312 - 1) + V 9218868437227405312) * 10 ^ Dc.lift < 2 * (V 9218868437227405312) * 10 ^ Dc.lift := Nat.mul_lt_mul_of_pos_right (by omega) hD
  refine Nat.lt_of_lt_of_le h1 ?_
  rw [Nat.mul_assoc]
  refine Nat.mul_le_mul_left _ ?_
  rw [V_inf]
  refine Nat.le_trans (Nat.mul_le_mul_right _ bound_big) ?_
  rw [Nat.mul_right_comm]
  exact Nat.mul_le_mul_right _ hv2

theorem bits_quot {l : Dc.Bs} {x : Int} {k : Nat} (hx : -100000 ≤ x) (h0 : x < 0) (hn : 0 < Dc.nv l) (hk : Na.bitLen (10 ^ (-x).toNat) + 54 ≤ k + Na.bitLen (Dc.nv l)) :
    rd (Dc.nv l * 2 ^ k / 10 ^ (-x).toNat) (-(k : Int)) (decide (Dc.nv l * 2 ^ k % 10 ^ (-x).toNat ≠ 0)) = bits l x := by
  refine bits_eq hx ?_
  rw [near_scale hx, if_neg (by omega)]
  exact quot_near (Nat.pow_pos (by decide)) (Or.inr (quot_long hn (Nat.pow_pos (by decide)) hk))
theorem bits_whole {l : Dc.Bs} {x : Int} (h0 : 0 ≤ x) : rd (Dc.nv l * 10 ^ x.toNat) 0 false = bits l x := by
  rw [bits, if_pos h0]

/-- A number's sign and its bits. -/
def wsign (s : Bool) : Nat := if s then 9223372036854775808 else 0
end Go.Proofs.YtjnkbifafbjckaaGreatDoor.Fl

/- The reference: a right decimal's bits. -/
namespace Go.Proofs.YtjnkbifafbjckaaGreatDoor
set_option linter.all false
open Go.RowKit

/-- The cells of a decimal that was handed in. -/
def DecB (W : World) (b : Nat) (n : Bool) (s : ByteArray) (x : Int) : Prop := W.cell? ⟨b, 0, none⟩ = some (.bool n) ∧ W.cell? ⟨b, 1, none⟩ = some (.string s) ∧ W.cell? ⟨b, 2, none⟩ = some (.int .i64 x) ∧ b < W.heap.size
theorem DecB.new (w : World) (n : Bool) (s : ByteArray) (x : Int) : DecB (w.alloc (Obj.cells #[Value.bool n, Value.string s, Value.int IntKind.i64 x] 25)) w.heap.size n s x :=
  ⟨by simp [go_sem], by simp [go_sem], by simp [go_sem], by simp⟩
theorem DecB.on {W W' : World} {b : Nat} {n : Bool} {s : ByteArray} {x : Int} (h : DecB W b n s x) (hb : Below W.heap.size W W') : DecB W' b n s x := by
  obtain ⟨h0, h1, h2, hl⟩ := h
  exact ⟨(hb.cell (p := ⟨b, 0, none⟩) hl).trans h0, (hb.cell (p := ⟨b, 1, none⟩) hl).trans h1, (hb.cell (p := ⟨b, 2, none⟩) hl).trans h2, Nat.lt_of_lt_of_le hl hb.size⟩

theorem r8_with_any (b : Bool) (v : Nat) (w : World) (hv : v < 9223372036854775808) : Calls Tryz.prog 76 #[.bool b, .int .u64 v] w (Ret0 (.int .u64 ((Fl.wsign b + v : Nat) : Int)) w) := by
  cases b with
  | false =>
    go_enter Tryz.func76, Tryz.ntmps76
    go_wp2
    refine bodyPost_ret (v := .int .u64 (v : Int)) (by simp [results, Tryz.results76, go_sem]) rfl ⟨by simp [Fl.wsign], rfl⟩
  | true =>
    go_enter Tryz.func76, Tryz.ntmps76
    go_wp2
    refine bodyPost_ret (v := .int .u64 ((v : Int) + 9223372036854775808)) (by simp [results, Tryz.results76, go_sem] <;> omega) rfl ⟨by rw [Fl.wsign, if_pos rfl, Int.natCast_add, Int.add_comm]; rfl, rfl⟩

theorem Na.ten_le (j : Nat) : 10 ^ j ≤ 2 ^ (4 * j) := by rw [Nat.pow_mul]; exact Nat.pow_le_pow_left (by decide) j
theorem Na.len_ten_pow (j : Nat) : Na.bitLen (10 ^ j) ≤ 4 * j + 1 :=
  Na.bitLen_le' (Nat.lt_of_le_of_lt (Na.ten_le j) (Nat.pow_lt_pow_right (by decide) (by omega)))
theorem Na.limbs_of_bits {v m : Nat} (h : v < 2 ^ (32 * m)) : (Na.limbs v).length ≤ m :=
  Na.limbs_len_le v m (by rwa [show Na.B ^ m = 2 ^ (32 * m) by rw [Nat.pow_mul]])
theorem Na.ten_lt (v j : Nat) (h : v < 10 ^ j) : v < 2 ^ (4 * j) := Nat.lt_of_lt_of_le h (by rw [Nat.pow_mul]; exact Nat.pow_le_pow_left (by decide) j)

/-- What the early ends and the two ways share: the walk up to the number of the digits. -/
theorem r8_point_facts {s : ByteArray} {x : Int} (hr : Dc.right s.data.toList x = true) : Dc.point s.data.toList x = (s.size : Int) + x ∧ s.size ≤ 1100 ∧ -100000 ≤ x ∧ x ≤ 100000 := by
  have h1 := Dc.right_len hr; have h2 := Dc.right_exp hr
  rw [bs_length] at h1
  exact ⟨by rw [Dc.point_eq, if_pos hr], h1, h2⟩

set_option maxRecDepth 100000 in
set_option maxHeartbeats 4000000 in
theorem r8_bits_end (n : Bool) (s : ByteArray) (x : Int) (w : World) (hr : Dc.right s.data.toList x = true) (hend : s.size = 0 ∨ (s.size : Int) + x < -400 ∨ 400 < (s.size : Int) + x) :
    Calls Tryz.prog 21 #[.agg #[.bool n, .string s, .int .i64 x]] w (RetB (.int .u64 ((Fl.wsign n + Fl.bits s.data.toList x : Nat) : Int)) w) := by
  obtain ⟨hp, hs, hx1, hx2⟩ := r8_point_facts hr
  have hP := fun w => r7_point_any n s x w (by omega)
  rw [hp] at hP
  have hb0 : Below w.heap.size w (w.alloc (Obj.cells #[Value.bool n, Value.string s, Value.int IntKind.i64 x] 25)) := (Below.refl _ _).alloc (Nat.le_refl _) _
  have dd0 := DecB.new w n s x
  have hw0 : ∀ w, Calls Tryz.prog 76 #[.bool n, .int .u64 0] w (Ret0 (.int .u64 ((Fl.wsign n + 0 : Nat) : Int)) w) := fun w => r8_with_any n 0 w (by omega)
  have hwi : ∀ w, Calls Tryz.prog 76 #[.bool n, .int .u64 9218868437227405312] w (Ret0 (.int .u64 ((Fl.wsign n + 9218868437227405312 : Nat) : Int)) w) := fun w => r8_with_any n 9218868437227405312 w (by omega)
  obtain ⟨Z, hZ⟩ : ∃ Z, Z = Fl.wsign n + Fl.bits s.data.toList x := ⟨_, rfl⟩
  rw [← hZ]
  have HP := Lib.hid hP
  by_cases h0 : s.size = 0
  · have hl : s.data.toList = [] := List.eq_nil_of_length_eq_zero (by rw [bs_length]; exact h0)
    have hx0 : x = 0 := by rw [hl] at hr; simpa [Dc.right] using hr
    have hb : Fl.bits s.data.toList x = 0 := by rw [hl, hx0]; exact Fl.bits_nil
    rw [hb] at hZ; rw [← hZ] at hw0
    have HW0 := Lib.hid hw0
    have hz : ((s.size : Int) == 0) = true := by simp only [beq_iff_eq]; omega
    clear hl hx0 hb hr hend hP hw0 hwi hp hZ
    go_enter Tryz.func21, Tryz.ntmps21
    go_wp2_with (first
      | (go_at_call 75; (with_reducible refine (HP.out _).mono ?_); rintro e w1 ⟨rfl, hb1⟩; have hB1 : Below w.heap.size w w1 := hb0.trans (hb1.mono (by simp)); obtain ⟨y0, y1, y2, yl⟩ := dd0.on hb1)
      | (go_at_call 76; (with_reducible refine (HW0.out _).mono ?_); rintro e w' ⟨rfl, rfl⟩))
    go_ret
    exact RetB.of rfl hB1
  · have hz : ((s.size : Int) == 0) = false := by simp only [beq_eq_false_iff_ne, ne_eq]; omega
    have hne : s.data.toList ≠ [] := fun e => h0 (by have := congrArg List.length e; rwa [bs_length] at this)
    obtain ⟨P, hPe⟩ : ∃ P, P = (s.size : Int) + x := ⟨_, rfl⟩
    rw [← hPe] at HP hend
    by_cases hm : P < -400
    · have hb : Fl.bits s.data.toList x = 0 := Fl.bits_small hr hne (by rw [bs_length]; omega)
      rw [hb] at hZ; rw [← hZ] at hw0
      have HW0 := Lib.hid hw0
      clear hne hb hr hend hP hw0 hwi hp hZ hPe h0
      go_enter Tryz.func21, Tryz.ntmps21
      go_wp2_with (first
        | (go_at_call 75; (with_reducible refine (HP.out _).mono ?_); rintro e w1 ⟨rfl, hb1⟩; have hB1 : Below w.heap.size w w1 := hb0.trans (hb1.mono (by simp)); obtain ⟨y0, y1, y2, yl⟩ := dd0.on hb1)
        | (go_at_call 76; (with_reducible refine (HW0.out _).mono ?_); rintro e w' ⟨rfl, rfl⟩))
      go_ret
      exact RetB.of rfl hB1
    · have hm2 : 400 < P := by omega
      have hb : Fl.bits s.data.toList x = 9218868437227405312 := Fl.bits_big hr hne (by rw [bs_length]; omega)
      rw [hb] at hZ; rw [← hZ] at hwi
      have HWI := Lib.hid hwi
      clear hne hb hr hend hP hw0 hwi hp hZ hPe h0
      go_enter Tryz.func21, Tryz.ntmps21
      go_wp2_with (first
        | (go_at_call 75; (with_reducible refine (HP.out _).mono ?_); rintro e w1 ⟨rfl, hb1⟩; have hB1 : Below w.heap.size w w1 := hb0.trans (hb1.mono (by simp)); obtain ⟨y0, y1, y2, yl⟩ := dd0.on hb1)
        | (go_at_call 76; (with_reducible refine (HWI.out _).mono ?_); rintro e w' ⟨rfl, rfl⟩))
      go_ret
      exact RetB.of rfl hB1
end Go.Proofs.YtjnkbifafbjckaaGreatDoor

/- The reference: a right decimal's bits, the two long ways. -/
namespace Go.Proofs.YtjnkbifafbjckaaGreatDoor
set_option linter.all false
open Go.RowKit

theorem DecB.drewn {W : World} {b : Nat} {n : Bool} {s : ByteArray} {x : Int} (h : DecB W b n s x) : DecB W.drew b n s x := h.on ((Below.refl _ _).drew)

set_option maxRecDepth 100000 in
set_option maxHeartbeats 4000000 in
theorem r8_bits_whole (n : Bool) (s : ByteArray) (X : Nat) (w : World) (hr : Dc.right s.data.toList X = true) (h0 : s.size ≠ 0) (hend : (s.size : Int) + X ≤ 400) :
    Calls Tryz.prog 21 #[.agg #[.bool n, .string s, .int .i64 X]] w (RetB (.int .u64 ((Fl.wsign n + Fl.bits s.data.toList X : Nat) : Int)) w) := by
  obtain ⟨hp, hs, hx1, hx2⟩ := r8_point_facts hr
  have hP := fun w => r7_point_any n s X w (by omega)
  rw [hp] at hP
  have hb0 : Below w.heap.size w (w.alloc (Obj.cells #[Value.bool n, Value.string s, Value.int IntKind.i64 X] 25)) := (Below.refl _ _).alloc (Nat.le_refl _) _
  have dd0 := DecB.new w n s X
  have hdig := Dc.right_dig hr
  have hD := fun w => r8_digits_any s w (by omega) hdig
  have hN := Dc.nv_lt hdig
  rw [bs_length] at hN
  have hbits := Fl.bits_whole (l := s.data.toList) (x := (X : Int)) (by omega)
  rw [Int.toNat_natCast] at hbits
  obtain ⟨N, hNe⟩ : ∃ N, N = Dc.nv s.data.toList := ⟨_, rfl⟩
  rw [← hNe] at hD hN hbits
  have hl1 : (Na.limbs N).length ≤ 400 := by have := Na.len_tens hN; omega
  have hT := fun w => r8_ten_any X w (by omega)
  obtain ⟨T, hTe⟩ : ∃ T, T = 10 ^ X := ⟨_, rfl⟩
  rw [← hTe] at hT hbits
  have hl2 : (Na.limbs T).length ≤ 401 := by have := Na.len_tens (x := T) (k := X + 1) (by rw [hTe]; exact Nat.pow_lt_pow_right (by decide) (by omega)); omega
  have hM := fun wr a1 c1 a2 c2 (s1 : Sl wr a1 c1 (Na.limbs N)) (s2 : Sl wr a2 c2 (Na.limbs T)) => r1_times_any a1 c1 (Na.limbs N) a2 c2 (Na.limbs T) wr s1 s2 (by omega) (by omega)
  rw [Na.val_limbs, Na.val_limbs] at hM
  have hl3 : (Na.limbs (N * T)).length ≤ 5000 := by
    have h1 := Na.val_lt (Na.limbs N) (Na.ok_limbs N)
    have h2 := Na.val_lt (Na.limbs T) (Na.ok_limbs T)
    rw [Na.val_limbs] at h1 h2
    have h3 := Na.len_prod h1 h2
    omega
  obtain ⟨M, hMe⟩ : ∃ M, M = N * T := ⟨_, rfl⟩
  rw [← hMe] at hM hbits hl3
  have hR := fun wr a c (sl : Sl wr a c (Na.limbs M)) (z : a = none → c = 0) => r3_round_any n a c M 0 false wr sl z hl3 (by omega)
  obtain ⟨Z, hZ⟩ : ∃ Z, Z = Fl.wsign n + Fl.bits s.data.toList X := ⟨_, rfl⟩
  have hR2 : ∀ wr a c, Sl wr a c (Na.limbs M) → (a = none → c = 0) → Calls Tryz.prog 28 #[.bool n, .slice a (Na.limbs M).length c, .int .i64 0, .bool false] wr (RetB (.int .u64 (Z : Int)) wr) := fun wr a c sl z => by
    rw [hZ, ← hbits]; exact hR wr a c sl z
  rw [← hZ]
  obtain ⟨P, hPe⟩ : ∃ P, P = (s.size : Int) + X := ⟨_, rfl⟩
  rw [← hPe] at hP hend
  have hPm : decide (P < -400) = false := decide_eq_false (by omega)
  have hPm2 : decide (400 < P) = false := decide_eq_false (by omega)
  have hz : ((s.size : Int) == 0) = false := by simp only [beq_eq_false_iff_ne, ne_eq]; omega
  have HP := Lib.hid hP; have HDG := Lib.hid hD; have HT := Lib.hid hT; have HM := Lib.hid hM; have HR := Lib.hid hR2
  clear hr h0 hend hP hp hPe hZ hR hR2 hM hMe hl3 hl2 hl1 hT hTe hD hNe hN hbits hdig
  go_enter Tryz.func21, Tryz.ntmps21
  go_upto_region 8 with (first
    | (go_at_call 75; (with_reducible refine (HP.out _).mono ?_); rintro e w1 ⟨rfl, hb1⟩; have hB1 : Below w.heap.size w w1 := hb0.trans (hb1.mono (by simp)); have dd1 := dd0.on hb1; obtain ⟨y0, y1, y2, yl⟩ := id dd1)
    | (go_at_call 77; (with_reducible refine (HDG.out _).mono ?_); rintro e w2 ⟨a2, c2, rfl, s2, z2, hb2⟩; have hB2 : Below w.heap.size w w2 := hB1.trans (hb2.mono hB1.size); have dd2 := dd1.on hb2; obtain ⟨u0, u1, u2, ul⟩ := id dd2))
  go_region_with (first
    | (go_at_call 78; (with_reducible refine (HT.out _).mono ?_); rintro e w3 ⟨a3, c3, rfl, s3, z3, -, hb3⟩; have hB3 : Below w.heap.size w w3 := Below.trans (by (repeat (first | exact Below.refl _ _ | assumption | refine Below.setCell ?_ (by first | omega | (simp <;> omega)) _ | refine Below.alloc ?_ (by first | omega | (simp <;> omega)) _ | refine Below.drew ?_ | refine below_drewN' ?_ _))) (hb3.mono (by have := hB2.size; (try simp only [size_drew', World.size_alloc]); omega)); have dd3 := (dd2.drewn).on hb3; obtain ⟨v0, v1, v2, vl⟩ := id dd3)
    | (go_at_call 46; (with_reducible refine (HM.out _ _ _ _ _ ?_ s3).mono ?_); exact (s2.drewn).on hb3; rintro e w4 ⟨a4, c4, rfl, s4, z4, -, hb4⟩; have hB4 : Below w.heap.size w w4 := hB3.trans (hb4.mono hB3.size); have dd4 := dd3.on hb4; obtain ⟨t0, t1, t2, tl⟩ := id dd4)
    | (go_at_call 28; (with_reducible refine (HR.out _ _ _ s4 z4).mono ?_); rintro e w5 ⟨rfl, hb5⟩; have hB5 : Below w.heap.size w w5 := hB4.trans (hb5.mono hB4.size)))
  all_goals (try go_wp2_with fail)
  all_goals (go_ret; exact RetB.of rfl hB5)
end Go.Proofs.YtjnkbifafbjckaaGreatDoor

/- The reference: a right decimal's bits, a negative exponent. -/
namespace Go.Proofs.YtjnkbifafbjckaaGreatDoor
set_option linter.all false
open Go.RowKit

theorem Na.limbs_of_exp {v e m : Nat} (h : v < 2 ^ e) (he : e ≤ 32 * m) : (Na.limbs v).length ≤ m := Na.limbs_of_bits (Nat.lt_of_lt_of_le h (Nat.pow_le_pow_right (by decide) he))
theorem Na.limbs_of_exp' {v e m : Nat} (h : v ≤ 2 ^ e) (he : e + 1 ≤ 32 * m) : (Na.limbs v).length ≤ m := Na.limbs_of_bits (Nat.lt_of_le_of_lt h (Nat.pow_lt_pow_right (by decide) he))
theorem len_range {LT LN S X : Nat} {D : Int} (h : (LT : Int) - (LN : Int) = D) (h1 : LN ≤ 4 * S) (h2 : LT ≤ 4 * X + 1) (h3 : S ≤ 1100) (h4 : X ≤ 1500) : -10000 ≤ D ∧ D ≤ 10000 := by omega
theorem Na.len_pos_dec (r : Nat) : decide (0 < ((Na.limbs r).length : Int)) = decide (r ≠ 0) := by
  by_cases h : r = 0
  · subst h; rw [Na.limbs_zero]; rfl
  · have := (Na.limbs_head h).1
    rw [decide_eq_true h, decide_eq_true (by omega)]

set_option maxRecDepth 100000 in
set_option maxHeartbeats 4000000 in
theorem r8_bits_frac_k (n : Bool) (s : ByteArray) (x : Int) (X k : Nat) (w : World) (hxX : -x = (X : Int)) (hr : Dc.right s.data.toList x = true) (h0 : s.size ≠ 0) (hend : -400 ≤ (s.size : Int) + x ∧ (s.size : Int) + x ≤ 400) (hX : 0 < X)
    (hk : (Na.bitLen (10 ^ X) : Int) - Na.bitLen (Dc.nv s.data.toList) + 70 = (k : Int) ∧ 0 < k) :
    Calls Tryz.prog 21 #[.agg #[.bool n, .string s, .int .i64 x]] w (RetB (.int .u64 ((Fl.wsign n + Fl.bits s.data.toList x : Nat) : Int)) w) := by
  obtain ⟨hp, hs, hx1, hx2⟩ := r8_point_facts hr
  have hP := fun w => r7_point_any n s x w (by omega)
  rw [hp] at hP
  have hb0 : Below w.heap.size w (w.alloc (Obj.cells #[Value.bool n, Value.string s, Value.int IntKind.i64 x] 25)) := (Below.refl _ _).alloc (Nat.le_refl _) _
  have dd0 := DecB.new w n s x
  have hdig := Dc.right_dig hr
  have hne : s.data.toList ≠ [] := fun e => h0 (by have := congrArg List.length e; rwa [bs_length] at this)
  have hN0 := Nat.lt_of_lt_of_le (Nat.pow_pos (by decide)) (Dc.nv_first hdig hne (Dc.right_head hr hne))
  have hD := fun w => r8_digits_any s w (by omega) hdig
  have hN := Dc.nv_lt hdig
  rw [bs_length] at hN
  have hXx : (-x).toNat = X := by omega
  have hX15 : X ≤ 1500 := by omega
  have hLb := Na.len_ten_pow X
  have hTle := Na.ten_le X
  have hNlt : Dc.nv s.data.toList < 2 ^ (4 * s.size) := Na.ten_lt _ _ hN
  have hLn := Na.bitLen_le' hNlt
  have hbits := fun hq => Fl.bits_quot (l := s.data.toList) (x := x) (k := k) (by omega) (by omega) hN0 hq
  rw [hXx] at hbits
  obtain ⟨N, hNe⟩ : ∃ N, N = Dc.nv s.data.toList := ⟨_, rfl⟩
  rw [← hNe] at hD hN hbits hNlt hLn hN0 hk
  have hl1 : (Na.limbs N).length ≤ 150 := Na.limbs_of_exp hNlt (by omega)
  have hT := fun w => r8_ten_any X w (by omega)
  have hT0 : 0 < 10 ^ X := Nat.pow_pos (by decide)
  obtain ⟨T, hTe⟩ : ∃ T, T = 10 ^ X := ⟨_, rfl⟩
  rw [← hTe] at hT hbits hTle hLb hk hT0
  have hl2 : (Na.limbs T).length ≤ 200 := Na.limbs_of_exp' hTle (by omega)
  obtain ⟨LN, hLNe⟩ : ∃ z, z = Na.bitLen N := ⟨_, rfl⟩
  obtain ⟨LT, hLTe⟩ : ∃ z, z = Na.bitLen T := ⟨_, rfl⟩
  have hLnF := fun wr a c (sl : Sl wr a c (Na.limbs N)) (z : a = none → c = 0) => r1_len_any a c (Na.limbs N) wr sl z (by omega)
  have hLtF := fun wr a c (sl : Sl wr a c (Na.limbs T)) (z : a = none → c = 0) => r1_len_any a c (Na.limbs T) wr sl z (by omega)
  rw [Na.val_limbs] at hLnF hLtF
  have hbl := (Fl.bitLen_ge (n := N) (by omega)).2.2
  rw [← hLNe] at hLnF hLn hbits hk hbl
  rw [← hLTe] at hLtF hLb hbits hk
  have hk6 : k ≤ 6100 := by omega
  have hbits := hbits (by omega)
  have hU := fun wr a c (sl : Sl wr a c (Na.limbs N)) (z : a = none → c = 0) => r3_up_any a c (Na.limbs N) k wr sl z (by omega) (by omega)
  rw [Na.val_limbs] at hU
  have hl3 : (Na.limbs (N * 2 ^ k)).length ≤ 400 := by
    have h1 : N * 2 ^ k < 2 ^ (4 * s.size + k) := by rw [Nat.pow_add]; exact Nat.mul_lt_mul_of_pos_right hNlt (Nat.pow_pos (by decide))
    exact Na.limbs_of_exp h1 (by omega)
  obtain ⟨U, hUe⟩ : ∃ U, U = N * 2 ^ k := ⟨_, rfl⟩
  rw [← hUe] at hU hl3 hbits
  have hPt := fun wr a c b d (s1 : Sl wr a c (Na.limbs U)) (z1 : a = none → c = 0) (s2 : Sl wr b d (Na.limbs T)) (z2 : b = none → d = 0) => r1_parts_z a c (Na.limbs U) b d (Na.limbs T) wr s1 z1 s2 z2 (by omega) (by omega) (by rw [Na.val_limbs]; exact hT0)
  rw [Na.val_limbs, Na.val_limbs] at hPt
  have hl4 : (Na.limbs (U / T)).length ≤ 5000 := by
    have h1 := Na.val_lt (Na.limbs U) (Na.ok_limbs U)
    rw [Na.val_limbs] at h1
    have := Na.limbs_len_le (U / T) _ (Nat.lt_of_le_of_lt (Nat.div_le_self U T) h1)
    omega
  have hmr := Na.len_pos_dec (U % T)
  obtain ⟨Q, hQ⟩ : ∃ Q, Q = U / T := ⟨_, rfl⟩
  obtain ⟨R, hRe⟩ : ∃ R, R = U % T := ⟨_, rfl⟩
  rw [← hQ] at hPt hl4 hbits
  rw [← hRe] at hPt hmr hbits
  have hR := fun wr a c (sl : Sl wr a c (Na.limbs Q)) (z : a = none → c = 0) => r3_round_any n a c Q (-(k : Int)) (decide (R ≠ 0)) wr sl z hl4 (by omega)
  obtain ⟨Z, hZ⟩ : ∃ Z, Z = Fl.wsign n + Fl.bits s.data.toList x := ⟨_, rfl⟩
  have hR2 : ∀ wr a c, Sl wr a c (Na.limbs Q) → (a = none → c = 0) → Calls Tryz.prog 28 #[.bool n, .slice a (Na.limbs Q).length c, .int .i64 (-(k : Int)), .bool (decide (R ≠ 0))] wr (RetB (.int .u64 (Z : Int)) wr) := fun wr a c sl z => by
    rw [hZ, ← hbits]; exact hR wr a c sl z
  rw [← hZ]
  obtain ⟨more, hmo⟩ : ∃ b, b = decide (R ≠ 0) := ⟨_, rfl⟩
  rw [← hmo] at hR2 hmr
  obtain ⟨lr, hlr⟩ : ∃ z, z = (Na.limbs R).length := ⟨_, rfl⟩
  have hPt2 : ∀ wr a c b d, Sl wr a c (Na.limbs U) → (a = none → c = 0) → Sl wr b d (Na.limbs T) → (b = none → d = 0) → Calls Tryz.prog 80 #[.slice a (Na.limbs U).length c, .slice b (Na.limbs T).length d] wr (fun e w' => ∃ a c a' c', e = .returned (.tuple #[.slice a (Na.limbs Q).length c, .slice a' lr c']) ∧ Sl w' a c (Na.limbs Q) ∧ (a = none → c = 0) ∧ Below wr.heap.size wr w') := fun wr a c b d s1 z1 s2 z2 =>
    (hPt wr a c b d s1 z1 s2 z2).mono fun e w' ⟨a, c, a', c', e, s1, s2, z1, z2, hb⟩ => ⟨a, c, a', c', by rw [hlr]; exact e, s1, z1, hb⟩
  rw [← hlr] at hmr
  have hmr2 : decide (0 < lr) = more := by rw [← hmr]; exact decide_eq_decide.2 (by omega)
  obtain ⟨P, hPe⟩ : ∃ P, P = (s.size : Int) + x := ⟨_, rfl⟩
  rw [← hPe] at hP hend
  have hPm : decide (P < -400) = false := decide_eq_false (by omega)
  have hPm2 : decide (400 < P) = false := decide_eq_false (by omega)
  have hz : ((s.size : Int) == 0) = false := by simp only [beq_eq_false_iff_ne, ne_eq]; omega
  have hx0 : decide (0 ≤ x) = false := decide_eq_false (by omega)
  obtain ⟨D1, hD1⟩ : ∃ D1 : Int, (LT : Int) - (LN : Int) = D1 := ⟨_, rfl⟩
  have hD2 : D1 + 70 = (k : Int) := by omega
  have hwX : wrap64 (X : Int) = (X : Int) := by unfold wrap64; omega
  have hwk : wrap64 (-(k : Int)) = -(k : Int) := by unfold wrap64; omega
  have hD0 : -10000 ≤ D1 ∧ D1 ≤ 10000 := len_range hD1 hLn hLb hs hX15
  have hpk : decide (0 < k) = true := decide_eq_true (by omega)
  have HP := Lib.hid hP; have HDG := Lib.hid hD; have HT := Lib.hid hT; have HR := Lib.hid hR2; have HLN := Lib.hid hLnF; have HLT := Lib.hid hLtF; have HU := Lib.hid hU; have HPT := Lib.hid hPt2
  clear hr h0 hend hP hp hPe hZ hR hR2 hl3 hl2 hl1 hT hTe hD hNe hN hbits hdig hne hN0 hXx hX15 hLb hTle hNlt hLn hT0 hLNe hLTe hLnF hLtF hbl hU hUe hPt hl4 hQ hRe hmo hlr hPt2 hk hx1 hx2
  obtain ⟨d01, d02⟩ := hD0
  go_enter Tryz.func21, Tryz.ntmps21
  go_wp2_with (first
    | (go_at_call 75; (with_reducible refine (HP.out _).mono ?_); rintro e w1 ⟨rfl, hb1⟩; have hB1 : Below w.heap.size w w1 := hb0.trans (hb1.mono (by simp)); have dd1 := dd0.on hb1; obtain ⟨y0, y1, y2, yl⟩ := id dd1)
    | (go_at_call 77; (with_reducible refine (HDG.out _).mono ?_); rintro e w2 ⟨a2, c2, rfl, s2, z2, hb2⟩; have hB2 : Below w.heap.size w w2 := hB1.trans (hb2.mono hB1.size); have dd2 := dd1.on hb2; obtain ⟨u0, u1, u2, ul⟩ := id dd2)
    | (go_at_call 78; (with_reducible refine (HT.out _).mono ?_); rintro e w3 ⟨a3, c3, rfl, s3, z3, -, hb3⟩; have hB3 : Below w.heap.size w w3 := hB2.trans (hb3.mono hB2.size); have dd3 := dd2.on hb3; have s2 := s2.on hb3; obtain ⟨v0, v1, v2, vl⟩ := id dd3)
    | (go_at_call 79; (with_reducible refine (HLN.out _ _ _ s2 z2).mono ?_); rintro e w7 ⟨rfl, hb7⟩; have hB7 : Below w.heap.size w w7 := hB6.trans (hb7.mono hB6.size); have dd7 := dd6.on hb7; have s2 := s2.on hb7; have s3 := s3.on hb7)
    | (go_at_call 79; (with_reducible refine (HLT.out _ _ _ s3 z3).mono ?_); rintro e w6 ⟨rfl, hb6⟩; have hB6 : Below w.heap.size w w6 := hB5.trans (hb6.mono hB5.size); have dd6 := dd5.on hb6; have s2 := s2.on hb6; have s3 := s3.on hb6)
    | (go_at_call 79; (with_reducible refine (HLN.out _ _ _ s2 z2).mono ?_); rintro e w5 ⟨rfl, hb5⟩; have hB5 : Below w.heap.size w w5 := hB4.trans (hb5.mono hB4.size); have dd5 := dd4.on hb5; have s2 := s2.on hb5; have s3 := s3.on hb5)
    | (go_at_call 79; (with_reducible refine (HLT.out _ _ _ s3 z3).mono ?_); rintro e w4 ⟨rfl, hb4⟩; have hB4 : Below w.heap.size w w4 := hB3.trans (hb4.mono hB3.size); have dd4 := dd3.on hb4; have s2 := s2.on hb4; have s3 := s3.on hb4)
    | (go_at_call 43; (with_reducible refine (HU.out _ _ _ s2 z2).mono ?_); rintro e w8 ⟨a8, c8, rfl, s8, z8, -, hb8⟩; have hB8 : Below w.heap.size w w8 := hB7.trans (hb8.mono hB7.size); have dd8 := dd7.on hb8; have s3 := s3.on hb8)
    | (go_at_call 80; (with_reducible refine (HPT.out _ _ _ _ _ s8 z8 s3 z3).mono ?_); rintro e w9 ⟨a9, c9, a9', c9', rfl, s9, z9, hb9⟩; have hB9 : Below w.heap.size w w9 := hB8.trans (hb9.mono hB8.size); have dd9 := dd8.on hb9; obtain ⟨q0, q1, q2, ql⟩ := id dd9)
    | (go_at_call 28; (with_reducible refine (HR.out _ _ _ s9 z9).mono ?_); rintro e w10 ⟨rfl, hb10⟩; have hB10 : Below w.heap.size w w10 := hB9.trans (hb10.mono hB9.size)))
  go_ret
  exact RetB.of rfl hB10

set_option maxRecDepth 100000 in
set_option maxHeartbeats 4000000 in
theorem r8_bits_frac_0 (n : Bool) (s : ByteArray) (x : Int) (X k : Nat) (w : World) (hxX : -x = (X : Int)) (hr : Dc.right s.data.toList x = true) (h0 : s.size ≠ 0) (hend : -400 ≤ (s.size : Int) + x ∧ (s.size : Int) + x ≤ 400) (hX : 0 < X)
    (hk : (Na.bitLen (10 ^ X) : Int) - Na.bitLen (Dc.nv s.data.toList) + 70 ≤ 0 ∧ k = 0) :
    Calls Tryz.prog 21 #[.agg #[.bool n, .string s, .int .i64 x]] w (RetB (.int .u64 ((Fl.wsign n + Fl.bits s.data.toList x : Nat) : Int)) w) := by
  obtain ⟨hp, hs, hx1, hx2⟩ := r8_point_facts hr
  have hP := fun w => r7_point_any n s x w (by omega)
  rw [hp] at hP
  have hb0 : Below w.heap.size w (w.alloc (Obj.cells #[Value.bool n, Value.string s, Value.int IntKind.i64 x] 25)) := (Below.refl _ _).alloc (Nat.le_refl _) _
  have dd0 := DecB.new w n s x
  have hdig := Dc.right_dig hr
  have hne : s.data.toList ≠ [] := fun e => h0 (by have := congrArg List.length e; rwa [bs_length] at this)
  have hN0 := Nat.lt_of_lt_of_le (Nat.pow_pos (by decide)) (Dc.nv_first hdig hne (Dc.right_head hr hne))
  have hD := fun w => r8_digits_any s w (by omega) hdig
  have hN := Dc.nv_lt hdig
  rw [bs_length] at hN
  have hXx : (-x).toNat = X := by omega
  have hX15 : X ≤ 1500 := by omega
  have hLb := Na.len_ten_pow X
  have hTle := Na.ten_le X
  have hNlt : Dc.nv s.data.toList < 2 ^ (4 * s.size) := Na.ten_lt _ _ hN
  have hLn := Na.bitLen_le' hNlt
  have hbits := fun hq => Fl.bits_quot (l := s.data.toList) (x := x) (k := k) (by omega) (by omega) hN0 hq
  rw [hXx] at hbits
  obtain ⟨N, hNe⟩ : ∃ N, N = Dc.nv s.data.toList := ⟨_, rfl⟩
  rw [← hNe] at hD hN hbits hNlt hLn hN0 hk
  have hl1 : (Na.limbs N).length ≤ 150 := Na.limbs_of_exp hNlt (by omega)
  have hT := fun w => r8_ten_any X w (by omega)
  have hT0 : 0 < 10 ^ X := Nat.pow_pos (by decide)
  obtain ⟨T, hTe⟩ : ∃ T, T = 10 ^ X := ⟨_, rfl⟩
  rw [← hTe] at hT hbits hTle hLb hk hT0
  have hl2 : (Na.limbs T).length ≤ 200 := Na.limbs_of_exp' hTle (by omega)
  obtain ⟨LN, hLNe⟩ : ∃ z, z = Na.bitLen N := ⟨_, rfl⟩
  obtain ⟨LT, hLTe⟩ : ∃ z, z = Na.bitLen T := ⟨_, rfl⟩
  have hLnF := fun wr a c (sl : Sl wr a c (Na.limbs N)) (z : a = none → c = 0) => r1_len_any a c (Na.limbs N) wr sl z (by omega)
  have hLtF := fun wr a c (sl : Sl wr a c (Na.limbs T)) (z : a = none → c = 0) => r1_len_any a c (Na.limbs T) wr sl z (by omega)
  rw [Na.val_limbs] at hLnF hLtF
  have hbl := (Fl.bitLen_ge (n := N) (by omega)).2.2
  rw [← hLNe] at hLnF hLn hbits hk hbl
  rw [← hLTe] at hLtF hLb hbits hk
  have hk6 : k ≤ 6100 := by omega
  have hbits := hbits (by omega)
  have hU := fun wr a c (sl : Sl wr a c (Na.limbs N)) (z : a = none → c = 0) => r3_up_any a c (Na.limbs N) k wr sl z (by omega) (by omega)
  rw [Na.val_limbs] at hU
  have hl3 : (Na.limbs (N * 2 ^ k)).length ≤ 400 := by
    have h1 : N * 2 ^ k < 2 ^ (4 * s.size + k) := by rw [Nat.pow_add]; exact Nat.mul_lt_mul_of_pos_right hNlt (Nat.pow_pos (by decide))
    exact Na.limbs_of_exp h1 (by omega)
  obtain ⟨U, hUe⟩ : ∃ U, U = N * 2 ^ k := ⟨_, rfl⟩
  rw [← hUe] at hU hl3 hbits
  have hPt := fun wr a c b d (s1 : Sl wr a c (Na.limbs U)) (z1 : a = none → c = 0) (s2 : Sl wr b d (Na.limbs T)) (z2 : b = none → d = 0) => r1_parts_z a c (Na.limbs U) b d (Na.limbs T) wr s1 z1 s2 z2 (by omega) (by omega) (by rw [Na.val_limbs]; exact hT0)
  rw [Na.val_limbs, Na.val_limbs] at hPt
  have hl4 : (Na.limbs (U / T)).length ≤ 5000 := by
    have h1 := Na.val_lt (Na.limbs U) (Na.ok_limbs U)
    rw [Na.val_limbs] at h1
    have := Na.limbs_len_le (U / T) _ (Nat.lt_of_le_of_lt (Nat.div_le_self U T) h1)
    omega
  have hmr := Na.len_pos_dec (U % T)
  obtain ⟨Q, hQ⟩ : ∃ Q, Q = U / T := ⟨_, rfl⟩
  obtain ⟨R, hRe⟩ : ∃ R, R = U % T := ⟨_, rfl⟩
  rw [← hQ] at hPt hl4 hbits
  rw [← hRe] at hPt hmr hbits
  have hR := fun wr a c (sl : Sl wr a c (Na.limbs Q)) (z : a = none → c = 0) => r3_round_any n a c Q (-(k : Int)) (decide (R ≠ 0)) wr sl z hl4 (by omega)
  obtain ⟨Z, hZ⟩ : ∃ Z, Z = Fl.wsign n + Fl.bits s.data.toList x := ⟨_, rfl⟩
  have hR2 : ∀ wr a c, Sl wr a c (Na.limbs Q) → (a = none → c = 0) → Calls Tryz.prog 28 #[.bool n, .slice a (Na.limbs Q).length c, .int .i64 (-(k : Int)), .bool (decide (R ≠ 0))] wr (RetB (.int .u64 (Z : Int)) wr) := fun wr a c sl z => by
    rw [hZ, ← hbits]; exact hR wr a c sl z
  rw [← hZ]
  obtain ⟨more, hmo⟩ : ∃ b, b = decide (R ≠ 0) := ⟨_, rfl⟩
  rw [← hmo] at hR2 hmr
  obtain ⟨lr, hlr⟩ : ∃ z, z = (Na.limbs R).length := ⟨_, rfl⟩
  have hPt2 : ∀ wr a c b d, Sl wr a c (Na.limbs U) → (a = none → c = 0) → Sl wr b d (Na.limbs T) → (b = none → d = 0) → Calls Tryz.prog 80 #[.slice a (Na.limbs U).length c, .slice b (Na.limbs T).length d] wr (fun e w' => ∃ a c a' c', e = .returned (.tuple #[.slice a (Na.limbs Q).length c, .slice a' lr c']) ∧ Sl w' a c (Na.limbs Q) ∧ (a = none → c = 0) ∧ Below wr.heap.size wr w') := fun wr a c b d s1 z1 s2 z2 =>
    (hPt wr a c b d s1 z1 s2 z2).mono fun e w' ⟨a, c, a', c', e, s1, s2, z1, z2, hb⟩ => ⟨a, c, a', c', by rw [hlr]; exact e, s1, z1, hb⟩
  rw [← hlr] at hmr
  have hmr2 : decide (0 < lr) = more := by rw [← hmr]; exact decide_eq_decide.2 (by omega)
  obtain ⟨P, hPe⟩ : ∃ P, P = (s.size : Int) + x := ⟨_, rfl⟩
  rw [← hPe] at hP hend
  have hPm : decide (P < -400) = false := decide_eq_false (by omega)
  have hPm2 : decide (400 < P) = false := decide_eq_false (by omega)
  have hz : ((s.size : Int) == 0) = false := by simp only [beq_eq_false_iff_ne, ne_eq]; omega
  have hx0 : decide (0 ≤ x) = false := decide_eq_false (by omega)
  obtain ⟨D1, hD1⟩ : ∃ D1 : Int, (LT : Int) - (LN : Int) = D1 := ⟨_, rfl⟩
  have hD2 : D1 + 70 ≤ 0 := by omega
  have hwX : wrap64 (X : Int) = (X : Int) := by unfold wrap64; omega
  have hD0 : -10000 ≤ D1 ∧ D1 ≤ 10000 := len_range hD1 hLn hLb hs hX15
  have hpz : decide (0 < D1 + 70) = false := decide_eq_false (by omega)
  have hki : (k : Int) = 0 := by omega
  have hR20 := hR2
  rw [hki, Int.neg_zero] at hR20
  rw [hki] at hU
  have hR2 := hR20
  have HP := Lib.hid hP; have HDG := Lib.hid hD; have HT := Lib.hid hT; have HR := Lib.hid hR2; have HLN := Lib.hid hLnF; have HLT := Lib.hid hLtF; have HU := Lib.hid hU; have HPT := Lib.hid hPt2
  clear hR20 hki hr h0 hend hP hp hPe hZ hR hR2 hl3 hl2 hl1 hT hTe hD hNe hN hbits hdig hne hN0 hXx hX15 hLb hTle hNlt hLn hT0 hLNe hLTe hLnF hLtF hbl hU hUe hPt hl4 hQ hRe hmo hlr hPt2 hk hx1 hx2
  obtain ⟨d01, d02⟩ := hD0
  go_enter Tryz.func21, Tryz.ntmps21
  go_wp2_with (first
    | (go_at_call 75; (with_reducible refine (HP.out _).mono ?_); rintro e w1 ⟨rfl, hb1⟩; have hB1 : Below w.heap.size w w1 := hb0.trans (hb1.mono (by simp)); have dd1 := dd0.on hb1; obtain ⟨y0, y1, y2, yl⟩ := id dd1)
    | (go_at_call 77; (with_reducible refine (HDG.out _).mono ?_); rintro e w2 ⟨a2, c2, rfl, s2, z2, hb2⟩; have hB2 : Below w.heap.size w w2 := hB1.trans (hb2.mono hB1.size); have dd2 := dd1.on hb2; obtain ⟨u0, u1, u2, ul⟩ := id dd2)
    | (go_at_call 78; (with_reducible refine (HT.out _).mono ?_); rintro e w3 ⟨a3, c3, rfl, s3, z3, -, hb3⟩; have hB3 : Below w.heap.size w w3 := hB2.trans (hb3.mono hB2.size); have dd3 := dd2.on hb3; have s2 := s2.on hb3; obtain ⟨v0, v1, v2, vl⟩ := id dd3)
    | (go_at_call 79; (with_reducible refine (HLN.out _ _ _ s2 z2).mono ?_); rintro e w5 ⟨rfl, hb5⟩; have hB5 : Below w.heap.size w w5 := hB4.trans (hb5.mono hB4.size); have dd5 := dd4.on hb5; have s2 := s2.on hb5; have s3 := s3.on hb5)
    | (go_at_call 79; (with_reducible refine (HLT.out _ _ _ s3 z3).mono ?_); rintro e w4 ⟨rfl, hb4⟩; have hB4 : Below w.heap.size w w4 := hB3.trans (hb4.mono hB3.size); have dd4 := dd3.on hb4; have s2 := s2.on hb4; have s3 := s3.on hb4)
    | (go_at_call 43; (with_reducible refine (HU.out _ _ _ s2 z2).mono ?_); rintro e w8 ⟨a8, c8, rfl, s8, z8, -, hb8⟩; have hB8 : Below w.heap.size w w8 := hB5.trans (hb8.mono hB5.size); have dd8 := dd5.on hb8; have s3 := s3.on hb8)
    | (go_at_call 80; (with_reducible refine (HPT.out _ _ _ _ _ s8 z8 s3 z3).mono ?_); rintro e w9 ⟨a9, c9, a9', c9', rfl, s9, z9, hb9⟩; have hB9 : Below w.heap.size w w9 := hB8.trans (hb9.mono hB8.size); have dd9 := dd8.on hb9; obtain ⟨q0, q1, q2, ql⟩ := id dd9)
    | (go_at_call 28; (with_reducible refine (HR.out _ _ _ s9 z9).mono ?_); rintro e w10 ⟨rfl, hb10⟩; have hB10 : Below w.heap.size w w10 := hB9.trans (hb10.mono hB9.size)))
  go_ret
  exact RetB.of rfl hB10

theorem r8_bits_any (n : Bool) (s : ByteArray) (x : Int) (w : World) (hr : Dc.right s.data.toList x = true) :
    Calls Tryz.prog 21 #[.agg #[.bool n, .string s, .int .i64 x]] w (RetB (.int .u64 ((Fl.wsign n + Fl.bits s.data.toList x : Nat) : Int)) w) := by
  by_cases hend : s.size = 0 ∨ (s.size : Int) + x < -400 ∨ 400 < (s.size : Int) + x
  · exact r8_bits_end n s x w hr hend
  · by_cases h0 : 0 ≤ x
    · obtain ⟨X, rfl⟩ : ∃ X : Nat, x = (X : Int) := ⟨x.toNat, by omega⟩
      exact r8_bits_whole n s X w hr (by omega) (by omega)
    · obtain ⟨X, hX⟩ : ∃ X : Nat, -x = (X : Int) := ⟨(-x).toNat, by omega⟩
      by_cases hk : (Na.bitLen (10 ^ X) : Int) - Na.bitLen (Dc.nv s.data.toList) + 70 ≤ 0
      · exact r8_bits_frac_0 n s x X 0 w hX hr (by omega) (by omega) (by omega) ⟨hk, rfl⟩
      · obtain ⟨k, hk2⟩ : ∃ k : Nat, (Na.bitLen (10 ^ X) : Int) - Na.bitLen (Dc.nv s.data.toList) + 70 = (k : Int) := ⟨((Na.bitLen (10 ^ X) : Int) - Na.bitLen (Dc.nv s.data.toList) + 70).toNat, by omega⟩
        exact r8_bits_frac_k n s x X k w hX hr (by omega) (by omega) (by omega) ⟨hk2, by omega⟩
end Go.Proofs.YtjnkbifafbjckaaGreatDoor

/- Plain Lean: the other sign of a number. -/
namespace Go.Proofs.YtjnkbifafbjckaaGreatDoor.Fl
set_option linter.all false

/-- The number with the other sign. -/
def flip (x : Nat) : Nat := if x < 9223372036854775808 then x + 9223372036854775808 else x - 9223372036854775808
theorem flip_lt {x : Nat} (hx : x < 18446744073709551616) : flip x < 18446744073709551616 := by unfold flip; split <;> omega
theorem flip_frac (x : Nat) : frac (flip x) = frac x := by unfold flip frac; split <;> omega
theorem flip_expo {x : Nat} (hx : x < 18446744073709551616) : expo (flip x) = expo x := by unfold flip expo; split <;> omega
theorem flip_kind {x : Nat} (hx : x < 18446744073709551616) : kind (flip x) = kind x := by unfold kind; rw [flip_frac, flip_expo hx]
theorem flip_mant {x : Nat} (hx : x < 18446744073709551616) : mant (flip x) = mant x := by unfold mant; rw [flip_frac, flip_kind hx]
theorem flip_expn {x : Nat} (hx : x < 18446744073709551616) : expn (flip x) = expn x := by unfold expn; rw [flip_expo hx, flip_kind hx]
theorem flip_neg {x : Nat} (hx : x < 18446744073709551616) : neg (flip x) = !neg x := by
  unfold neg flip
  by_cases h : x < 9223372036854775808
  · rw [if_pos h, decide_eq_true (by omega), decide_eq_false (by omega)]; rfl
  · rw [if_neg h, decide_eq_false (by omega), decide_eq_true (by omega)]; rfl
theorem mk_sign (s t : Bool) (l : Dc.Bs) (x : Int) (h : (Dc.mk s l x).e = 0) : Dc.mk t l x = ⟨t, (Dc.mk s l x).l, (Dc.mk s l x).x, 0⟩ ∧ (Dc.mk s l x).n = s := by
  unfold Dc.mk at h ⊢
  split at h
  · rename_i h1
    rw [if_pos h1, if_pos h1]
    split at h
    · rename_i h2
      rw [if_pos h2, if_pos h2]; exact ⟨rfl, rfl⟩
    · rename_i h2
      rw [if_neg h2, if_neg h2]
      split at h
      · rename_i h3
        rw [if_pos h3, if_pos h3]; exact ⟨rfl, rfl⟩
      · cases h
  · cases h
theorem of_sign (s t : Bool) (n : Nat) (e : Int) (h : (of s n e).e = 0) : of t n e = ⟨t, (of s n e).l, (of s n e).x, 0⟩ ∧ (of s n e).n = s := by
  unfold of at h ⊢
  split at h
  · rename_i h1; rw [if_pos h1, if_pos h1]; exact mk_sign s t _ _ h
  · rename_i h1; rw [if_neg h1, if_neg h1]; exact mk_sign s t _ _ h
theorem add_xor {y : Nat} (h : y < 2 ^ 63) : y ^^^ 2 ^ 63 = y + 2 ^ 63 := by
  rw [Nat.add_comm]
  apply Nat.eq_of_testBit_eq
  intro i
  rw [Nat.testBit_xor, Nat.testBit_two_pow]
  rcases Nat.lt_trichotomy i 63 with hi | hi | hi
  · rw [decide_eq_false (by omega), Nat.testBit_two_pow_add_gt hi]; simp
  · subst hi; rw [Nat.testBit_two_pow_add_eq, Nat.testBit_lt_two_pow h]; rfl
  · rw [decide_eq_false (by omega), Nat.testBit_lt_two_pow (Nat.lt_of_lt_of_le h (Nat.pow_le_pow_right (by decide) (by omega))), Nat.testBit_lt_two_pow (Nat.lt_of_lt_of_le (show 2 ^ 63 + y < 2 ^ 64 by omega) (Nat.pow_le_pow_right (by decide) (by omega)))]; rfl
theorem flip_xor {x : Nat} (hx : x < 18446744073709551616) : x ^^^ 9223372036854775808 = flip x := by
  unfold flip
  by_cases h : x < 9223372036854775808
  · rw [if_pos h]; exact add_xor h
  · rw [if_neg h]
    have := add_xor (y := x - 9223372036854775808) (by omega)
    have e : x - 9223372036854775808 + 2 ^ 63 = x := by omega
    rw [e] at this
    show x ^^^ 2 ^ 63 = _
    rw [← this, Nat.xor_assoc, Nat.xor_self, Nat.xor_zero]
    rw [this]
end Go.Proofs.YtjnkbifafbjckaaGreatDoor.Fl
