/- binary64 in the program: a number of two words, times a power of two, is rounded (1): the parts. -/
import Derived.Test.YtjnkbifafbjckaaGreatDoorZ9
import Derived.Test.YtjnkbifafbjckaaGreatDoorZ13
import Derived.Test.YtjnkbifafbjckaaGreatDoorZ1
import Derived.Laws.StructEq
import Derived.BigRegion
import Derived.BigQuiet
namespace Go.Proofs.YtjnkbifafbjckaaGreatDoor
set_option linter.all false
open Go.RowKit

theorem fl_unit_any (L : Nat) (e : Int) (w : World) (hL : L ≤ 1000000) (he : -1000000 ≤ e ∧ e ≤ 1000000) : Calls Tryz.prog 162 #[.int .i64 L, .int .i64 e] w (Ret0 (.int .i64 (max (e + (L : Int) - 53) (-1074))) w) := by
  obtain ⟨h1, h2⟩ := he
  go_enter Tryz.func162, Tryz.ntmps162
  go_wp2
  go_ret
  exact Ret0.of rfl

/-- The bits that are put together of what is kept, m, and of the last place's exponent. -/
def Fl.pk (m : Nat) (u : Int) : Nat := if m < 4503599627370496 then m else if m = 9007199254740992 then (if 2047 ≤ u + 1076 then 9218868437227405312 else (u + 1076).toNat * 4503599627370496) else (if 2047 ≤ u + 1075 then 9218868437227405312 else (u + 1075).toNat * 4503599627370496 + m - 4503599627370496)
def Fl.sgn (neg : Bool) : Nat := if neg then 9223372036854775808 else 0
theorem Fl.pk_lt {m : Nat} {u : Int} (hm : m ≤ 9007199254740992) : Fl.pk m u < 9223372036854775808 := by
  unfold Fl.pk
  split
  · omega
  · split
    · split <;> omega
    · split <;> omega
theorem Fl.or_sign (D : Nat) (h : D < 9223372036854775808) : Go.bits BinOp.or IntKind.u64 (D : Int) 9223372036854775808 = ((9223372036854775808 + D : Nat) : Int) := by
  rw [show (9223372036854775808 : Int) = ((9223372036854775808 : Nat) : Int) by rfl, bits_or_u64_nat _ _ (by omega) (by omega)]
  congr 1
  have := Nat.two_pow_add_eq_or_of_lt (show D < 2 ^ 63 by omega) 1
  rw [Nat.mul_one, Nat.or_comm] at this
  exact this.symm

set_option maxHeartbeats 2000000 in
theorem fl_pack_any (neg : Bool) (m : Nat) (u : Int) (w : World) (hm : m ≤ 9007199254740992) (hu : -1074 ≤ u ∧ u ≤ 100000) :
    Calls Tryz.prog 163 #[.bool neg, .int .u64 m, .int .i64 u] w (Ret0 (.int .u64 ((Fl.sgn neg + Fl.pk m u : Nat) : Int)) w) := by
  have hlt := Fl.pk_lt (u := u) hm
  have hor := Fl.or_sign (Fl.pk m u) hlt
  obtain ⟨D, hD⟩ : ∃ D, D = Fl.pk m u := ⟨_, rfl⟩
  rw [← hD] at hlt hor ⊢
  obtain ⟨u1, u2⟩ := hu
  rw [Fl.pk] at hD
  by_cases c1 : m < 4503599627370496
  · rw [if_pos c1] at hD
    subst hD
    have n1 : ((D : Int) == 9007199254740992) = false := by simp only [beq_eq_false_iff_ne, ne_eq]; omega
    cases neg
    all_goals (
      go_enter Tryz.func163, Tryz.ntmps163
      go_wp2
      go_ret
      exact Ret0.of (by first | rfl | (simp [Fl.sgn]; done)))
  · rw [if_neg c1] at hD
    by_cases c2 : m = 9007199254740992
    · rw [if_pos c2] at hD
      subst c2
      by_cases c3 : 2047 ≤ u + 1076
      · rw [if_pos c3] at hD
        subst hD
        have c4 : 2047 ≤ u + 1 + 1075 := by omega
        cases neg
        all_goals (
          go_enter Tryz.func163, Tryz.ntmps163
          go_wp2
          go_ret
          exact Ret0.of (by first | rfl | (simp [Fl.sgn]; done)))
      · rw [if_neg c3] at hD
        have c4 : ¬ 2047 ≤ u + 1 + 1075 := by omega
        obtain ⟨z, hz⟩ : ∃ z : Nat, u + 1 + 1075 - 1 = (z : Int) := ⟨(u + 1075).toNat, by omega⟩
        have hzl : z < 2046 := by omega
        obtain ⟨Z, hZ⟩ : ∃ Z, Z = z * 4503599627370496 := ⟨_, rfl⟩
        have hZi : (z : Int) * 4503599627370496 = (Z : Int) := by omega
        have hZl : Z ≤ 9209861237972664320 := by omega
        have hsum : (4503599627370496 : Int) + (Z : Int) = (D : Int) := by omega
        clear hD hZ
        cases neg
        all_goals (
          go_enter Tryz.func163, Tryz.ntmps163
          go_wp2
          go_ret
          exact Ret0.of (by first | rfl | (simp [Fl.sgn]; done)))
    · rw [if_neg c2] at hD
      have n1 : ((m : Int) == 9007199254740992) = false := by simp only [beq_eq_false_iff_ne, ne_eq]; omega
      by_cases c3 : 2047 ≤ u + 1075
      · rw [if_pos c3] at hD
        subst hD
        cases neg
        all_goals (
          go_enter Tryz.func163, Tryz.ntmps163
          go_wp2
          go_ret
          exact Ret0.of (by first | rfl | (simp [Fl.sgn]; done)))
      · rw [if_neg c3] at hD
        obtain ⟨z, hz⟩ : ∃ z : Nat, u + 1075 - 1 = (z : Int) := ⟨(u + 1074).toNat, by omega⟩
        have hzl : z < 2046 := by omega
        obtain ⟨Z, hZ⟩ : ∃ Z, Z = z * 4503599627370496 := ⟨_, rfl⟩
        have hZi : (z : Int) * 4503599627370496 = (Z : Int) := by omega
        have hZl : Z ≤ 9209861237972664320 := by omega
        have hsum : (m : Int) + (Z : Int) = (D : Int) := by omega
        clear hD hZ
        cases neg
        all_goals (
          go_enter Tryz.func163, Tryz.ntmps163
          go_wp2
          go_ret
          exact Ret0.of (by first | rfl | (simp [Fl.sgn]; done)))

theorem fl_far_zero (neg : Bool) (e : Int) (w : World) (he : -9000000000000000000 ≤ e ∧ e ≤ 9000000000000000000) :
    Calls Tryz.prog 161 #[.bool neg, .int .i64 0, .int .i64 e] w (Ret0 (.tuple #[.int .u64 ((Fl.sgn neg : Nat) : Int), .bool true]) w) := by
  have H := Lib.hid (fun w1 => (show Calls Tryz.prog 163 #[.bool neg, .int .u64 0, .int .i64 0] w1 (Ret0 (.int .u64 ((Fl.sgn neg : Nat) : Int)) w1) from fl_pack_any neg 0 0 w1 (by omega) (by omega)))
  obtain ⟨h1, h2⟩ := he
  go_enter Tryz.func161, Tryz.ntmps161
  go_wp2_with (go_at_call 163; (with_reducible refine (H.out _).mono ?_); rintro e w' ⟨rfl, rfl⟩)
  refine bodyPost_ret (v := .tuple #[.int .u64 ((Fl.sgn neg : Nat) : Int), .bool true]) (by simp [results, Tryz.results161, go_sem]) rfl (Ret0.of rfl)
theorem fl_far_no (neg : Bool) (L : Nat) (e : Int) (w : World) (hL : 0 < L ∧ L ≤ 1000000) (he : -10000 ≤ e ∧ e ≤ 2000) :
    Calls Tryz.prog 161 #[.bool neg, .int .i64 L, .int .i64 e] w (Ret0 (.tuple #[.int .u64 0, .bool false]) w) := by
  obtain ⟨h1, h2⟩ := he
  obtain ⟨h3, h4⟩ := hL
  have d0 : ((L : Int) == 0) = false := by simp only [beq_eq_false_iff_ne, ne_eq]; omega
  have d1 : decide (e < -10000) = false := decide_eq_false (by omega)
  have d2 : decide (2000 < e) = false := decide_eq_false (by omega)
  go_enter Tryz.func161, Tryz.ntmps161
  go_wp2
  refine bodyPost_ret (v := .tuple #[.int .u64 0, .bool false]) (by simp [results, Tryz.results161, go_sem]) rfl (Ret0.of rfl)
end Go.Proofs.YtjnkbifafbjckaaGreatDoor

/- Ints of 192 bits are compared. -/
namespace Go.Proofs.YtjnkbifafbjckaaGreatDoor
set_option linter.all false
open Go.RowKit

def w3Eq (p0 p1 p2 q0 q1 q2 : Int) : Bool := p0 == q0 && (p1 == q1 && p2 == q2)
theorem w3_struct : Tryz.prog.underlying 182 = some (.struct (Tryz.prog.fieldsOf 182)) := by kernel_rfl
theorem w3_held : Tryz.prog.stoodInHeld 182 = false := by kernel_rfl
theorem w3_guardT : Tryz.prog.eqGuardType Tryz.prog.depth 182 = false := by kernel_rfl
theorem w3_fields : (Tryz.prog.fieldsOf 182).toList.map (fun f => (f.type, f.offset, f.name == "_")) = [(22, 0, false), (22, 1, false), (22, 2, false)] := by kernel_rfl
theorem w3_guard (op : BinOp) (x y : Operand) (xs ys : Array Value) (w : World) : (eqGuard op 182 x y (.agg xs) (.agg ys)).run Tryz.prog w = .ok () w := run_eqGuard_agg _ _ _ _ _ _ _ w3_guardT
theorem w3_equalIn (p0 p1 p2 q0 q1 q2 : Int) (w : World) :
    (Op.equalIn 10000 182 (.agg #[.int .u64 p0, .int .u64 p1, .int .u64 p2]) (.agg #[.int .u64 q0, .int .u64 q1, .int .u64 q2])).run Tryz.prog w = .ok (w3Eq p0 p1 p2 q0 q1 q2) w := by
  rw [run_equalIn_agg _ 9999 _ _ _ w3_struct w3_held]
  have hf := w3_fields
  generalize (Tryz.prog.fieldsOf 182).toList = fs at hf
  have hl := congrArg List.length hf
  rw [List.length_map] at hl
  obtain ⟨f0, f1, f2, rfl⟩ : ∃ f0 f1 f2, fs = [f0, f1, f2] := by
    match fs, hl with
    | [a, b, c], _ => exact ⟨a, b, c, rfl⟩
  simp only [List.map_cons, List.map_nil, List.cons.injEq, Prod.mk.injEq, and_true] at hf
  obtain ⟨⟨t0, o0, n0⟩, ⟨t1, o1, n1⟩, ⟨t2, o2, n2⟩⟩ := hf
  have m0 := beq_eq_false_iff_ne.1 n0
  have m1 := beq_eq_false_iff_ne.1 n1
  have m2 := beq_eq_false_iff_ne.1 n2
  simp [Op.eqFields, w3Eq, go_sem, t0, t1, t2, o0, o1, o2, m0, m1, m2, Tryz.underlying22]
  by_cases h0 : p0 = q0 <;> by_cases h1 : p1 = q1 <;> by_cases h2 : p2 = q2 <;> simp [h0, h1, h2]
theorem w3_neq (p0 p1 p2 q0 q1 q2 : Int) (w : World) :
    (binOp .neq 182 (.agg #[.int .u64 p0, .int .u64 p1, .int .u64 p2]) (.agg #[.int .u64 q0, .int .u64 q1, .int .u64 q2])).run Tryz.prog w = .ok (.bool (!(w3Eq p0 p1 p2 q0 q1 q2))) w := by
  rw [run_neq_struct, w3_equalIn]; rfl
theorem w3_eql (p0 p1 p2 q0 q1 q2 : Int) (w : World) :
    (binOp .eql 182 (.agg #[.int .u64 p0, .int .u64 p1, .int .u64 p2]) (.agg #[.int .u64 q0, .int .u64 q1, .int .u64 q2])).run Tryz.prog w = .ok (.bool (w3Eq p0 p1 p2 q0 q1 q2)) w := by
  rw [run_eql_struct, w3_equalIn]; rfl
end Go.Proofs.YtjnkbifafbjckaaGreatDoor

/- Ints of 192 bits, shifted down. -/
namespace Go.Proofs.YtjnkbifafbjckaaGreatDoor
set_option linter.all false
open Go.RowKit
attribute [local go_sem high] w3_guard w3_neq w3_eql

def dropLoop (N n : Nat) (w : World) (nv lv : Value) (wr : World) : Prop := ∃ (k j h m l : Nat) (b : Bool), nv = .int .i64 j ∧ lv = .bool b ∧ j ≤ n ∧ Hid (j + 64 * k = n) ∧ h < 18446744073709551616 ∧ m < 18446744073709551616 ∧ l < 18446744073709551616 ∧
  Hid (Fl.w3 h m l = N / 2 ^ (64 * k)) ∧ Hid (b = decide (N % 2 ^ (64 * k) ≠ 0)) ∧ Hid (C3 wr w.heap.size h m l) ∧ Hid (C3 wr (w.heap.size + 1) 0 0 0) ∧ Hid (Below w.heap.size w wr)

theorem Fl.drop_word {N k h m l : Nat} (hl : l < 18446744073709551616) (e : Fl.w3 h m l = N / 2 ^ (64 * k)) : Fl.w3 0 h m = N / 2 ^ (64 * (k + 1)) ∧ (N % 2 ^ (64 * (k + 1)) ≠ 0 ↔ N % 2 ^ (64 * k) ≠ 0 ∨ l ≠ 0) := by
  obtain ⟨a1, a2⟩ := Fl.w3_word h m l hl
  have e64 : (18446744073709551616 : Nat) = 2 ^ 64 := by decide
  have hp : 0 < 2 ^ (64 * k) := Nat.pow_pos (by decide)
  have hpow : 2 ^ (64 * (k + 1)) = 2 ^ (64 * k) * 18446744073709551616 := by rw [Nat.mul_add, Nat.pow_add, Nat.mul_one, ← e64]
  constructor
  · rw [← a1, e, hpow, Nat.div_div_eq_div_mul]
  · have h1 := Nat.mod_mul (x := N) (a := 2 ^ (64 * k)) (b := 18446744073709551616)
    rw [hpow, h1, ← e, a2]
    constructor
    · intro h0
      by_cases h2 : N % 2 ^ (64 * k) = 0
      · right; intro h3; apply h0; rw [h2, h3, Nat.mul_zero]
      · exact Or.inl h2
    · rintro (h2 | h2)
      · omega
      · have := Nat.mul_pos hp (Nat.pos_of_ne_zero h2); omega
theorem Fl.drop_zero {N k n : Nat} (h : N / 2 ^ k = 0) (hk : k ≤ n) : N / 2 ^ n = 0 ∧ N % 2 ^ n = N % 2 ^ k := by
  have hp : 0 < 2 ^ k := Nat.pow_pos (by decide)
  have h1 : N < 2 ^ k := by
    rcases Nat.lt_or_ge N (2 ^ k) with h2 | h2
    · exact h2
    · have := (Nat.le_div_iff_mul_le hp).2 (show 1 * 2 ^ k ≤ N by omega); omega
  have h2 : N < 2 ^ n := Nat.lt_of_lt_of_le h1 (Nat.pow_le_pow_right (by decide) hk)
  exact ⟨Nat.div_eq_of_lt h2, by rw [Nat.mod_eq_of_lt h2, Nat.mod_eq_of_lt h1]⟩
/-- The last step: by less than a word. -/
theorem Fl.drop_last {N k n j h m l : Nat} (hj : j < 64) (hn : j + 64 * k = n) (hl : l < 18446744073709551616) (hm : m < 18446744073709551616) (hh : h < 18446744073709551616) (e : Fl.w3 h m l = N / 2 ^ (64 * k)) :
    Fl.w3 (h / 2 ^ j) (h * 2 ^ (64 - j) % 18446744073709551616 + m / 2 ^ j) (m * 2 ^ (64 - j) % 18446744073709551616 + l / 2 ^ j) = N / 2 ^ n ∧ (N % 2 ^ n ≠ 0 ↔ N % 2 ^ (64 * k) ≠ 0 ∨ l % 2 ^ j ≠ 0) := by
  obtain ⟨a1, a2⟩ := Fl.w3_shr (show j + (64 - j) = 64 by omega) hl hm hh
  have hp : 0 < 2 ^ (64 * k) := Nat.pow_pos (by decide)
  have hpow : 2 ^ n = 2 ^ (64 * k) * 2 ^ j := by rw [← hn, Nat.pow_add, Nat.mul_comm]
  constructor
  · rw [← a1, e, hpow, Nat.div_div_eq_div_mul]
  · have h1 := Nat.mod_mul (x := N) (a := 2 ^ (64 * k)) (b := 2 ^ j)
    rw [hpow, h1, ← e, a2]
    constructor
    · intro h0
      by_cases h2 : N % 2 ^ (64 * k) = 0
      · right; intro h3; apply h0; rw [h2, h3, Nat.mul_zero]
      · exact Or.inl h2
    · rintro (h2 | h2)
      · omega
      · have := Nat.mul_pos hp (Nat.pos_of_ne_zero h2); omega
set_option maxRecDepth 100000 in
set_option maxHeartbeats 8000000 in
theorem wi_drop_any (h m l n : Nat) (w : World) (hh : h < 18446744073709551616) (hm : m < 18446744073709551616) (hl : l < 18446744073709551616) (hn : n ≤ 1000000) :
    Calls Tryz.prog 165 #[.agg #[.int .u64 h, .int .u64 m, .int .u64 l], .int .i64 n] w (fun e w' => ∃ h' m' l' : Nat, e = .returned (.tuple #[.agg #[.int .u64 h', .int .u64 m', .int .u64 l'], .bool (decide (Fl.w3 h m l % 2 ^ n ≠ 0))]) ∧
      h' < 18446744073709551616 ∧ m' < 18446744073709551616 ∧ l' < 18446744073709551616 ∧ Fl.w3 h' m' l' = Fl.w3 h m l / 2 ^ n ∧ Below w.heap.size w w') := by
  obtain ⟨N, hN⟩ : ∃ N, N = Fl.w3 h m l := ⟨_, rfl⟩
  rw [← hN]
  obtain ⟨z, hz⟩ : ∃ z, z = decide (N % 2 ^ n ≠ 0) := ⟨_, rfl⟩
  rw [← hz]
  have HN := Lib.hid hN; have HZ := Lib.hid hz
  clear hN hz
  have HC0 : Hid (C3 ((w.alloc (.cells #[.int .u64 h, .int .u64 m, .int .u64 l] 182)).alloc (.cells #[.int .u64 0, .int .u64 0, .int .u64 0] 182)) w.heap.size h m l) := Lib.hid ((C3.new w h m l).alloc _)
  have HR0 : Hid (C3 ((w.alloc (.cells #[.int .u64 h, .int .u64 m, .int .u64 l] 182)).alloc (.cells #[.int .u64 0, .int .u64 0, .int .u64 0] 182)) (w.heap.size + 1) 0 0 0) := Lib.hid (C3.new0 (by simp))
  have HB0 : Hid (Below w.heap.size w ((w.alloc (.cells #[.int .u64 h, .int .u64 m, .int .u64 l] 182)).alloc (.cells #[.int .u64 0, .int .u64 0, .int .u64 0] 182))) := Lib.hid (((Below.refl w.heap.size w).alloc (Nat.le_refl _) _).alloc (by simp) _)
  go_enter Tryz.func165, Tryz.ntmps165
  go_wp2_with fail
  go_loopw [1, 6] (dropLoop N n w) (fun nv _ _ => (intOf nv).toNat)
  case atStart => exact ⟨0, n, h, m, l, false, rfl, rfl, Nat.le_refl _, Lib.hid (by omega), hh, hm, hl, Lib.hid (by rw [HN.out]; simp), Lib.hid (by simp [Nat.mod_one]), HC0, HR0, HB0⟩
  case round =>
    clear HC0 HB0 HR0 hh hm hl
    obtain ⟨k, j, h, m, l, b, rfl, rfl, hj, HJ, hh, hm, hl, HV, HL, HC, HR, HBe⟩ := hrel
    have c0 := HC.out.1.get 0 rfl
    have c1 := HC.out.1.get 1 rfl
    have c2 := HC.out.1.get 2 rfl
    have hbl := HC.out.1.1
    have f0 := HC.out.2 0; have f1 := HC.out.2 1; have f2 := HC.out.2 2
    have r0 := HR.out.1.get 0 rfl; have r1 := HR.out.1.get 1 rfl; have r2 := HR.out.1.get 2 rfl
    have q0 := HR.out.2 0; have q1 := HR.out.2 1; have q2 := HR.out.2 2
    have hrl := HR.out.1.1
    by_cases hz : h = 0 ∧ m = 0 ∧ l = 0
    · -- nothing is left
      obtain ⟨rfl, rfl, rfl⟩ := hz
      have hw0 : w3Eq 0 0 0 0 0 0 = true := rfl
      have hz0 : N / 2 ^ (64 * k) = 0 := by rw [← HV.out]; rfl
      have hJ := HJ.out
      obtain ⟨d1, d2⟩ := Fl.drop_zero hz0 (show 64 * k ≤ n by omega)
      have HE := Lib.hid d1
      have HBV := Lib.hid (show b = z by rw [HL.out, HZ.out]; apply decide_eq_decide.2; rw [d2])
      clear hz0 hJ d1 d2
      by_cases h64 : 64 ≤ j
      · go_wp2_with fail
        obtain ⟨Y, hY⟩ : ∃ Y, Y = wr.setCells (w.heap.size + 1) 0 [.int .u64 ((0 : Nat) : Int), .int .u64 ((0 : Nat) : Int), .int .u64 ((0 : Nat) : Int)] := ⟨_, rfl⟩
        change bodyPost _ _ _ _ _ (wr.setCells (w.heap.size + 1) 0 [.int .u64 ((0 : Nat) : Int), .int .u64 ((0 : Nat) : Int), .int .u64 ((0 : Nat) : Int)])
        have HS := HR.out.stored 0 0 0
        have HX := below_setCells (b := w.heap.size + 1) (Nat.le_succ w.heap.size) [.int .u64 ((0 : Nat) : Int), .int .u64 ((0 : Nat) : Int), .int .u64 ((0 : Nat) : Int)] 0 HBe.out
        rw [← hY] at HS HX ⊢
        have y0 := HS.1.get 0 rfl
        have y1 := HS.1.get 1 rfl
        have y2 := HS.1.get 2 rfl
        clear hY
        refine bodyPost_ret (v := .tuple #[.agg #[.int .u64 ((0 : Nat) : Int), .int .u64 ((0 : Nat) : Int), .int .u64 ((0 : Nat) : Int)], .bool b]) (by (simp [results, Tryz.results165, go_sem, y0, y1, y2]; done)) rfl ?_
        exact ⟨0, 0, 0, by rw [← HBV.out], by decide, by decide, by decide, by rw [HE.out]; rfl, HX⟩
      · go_wp2_with fail
        obtain ⟨Y, hY⟩ : ∃ Y, Y = wr.setCells (w.heap.size + 1) 0 [.int .u64 ((0 : Nat) : Int), .int .u64 ((0 : Nat) : Int), .int .u64 ((0 : Nat) : Int)] := ⟨_, rfl⟩
        change bodyPost _ _ _ _ _ (wr.setCells (w.heap.size + 1) 0 [.int .u64 ((0 : Nat) : Int), .int .u64 ((0 : Nat) : Int), .int .u64 ((0 : Nat) : Int)])
        have HS := HR.out.stored 0 0 0
        have HX := below_setCells (b := w.heap.size + 1) (Nat.le_succ w.heap.size) [.int .u64 ((0 : Nat) : Int), .int .u64 ((0 : Nat) : Int), .int .u64 ((0 : Nat) : Int)] 0 HBe.out
        rw [← hY] at HS HX ⊢
        have y0 := HS.1.get 0 rfl
        have y1 := HS.1.get 1 rfl
        have y2 := HS.1.get 2 rfl
        clear hY
        refine bodyPost_ret (v := .tuple #[.agg #[.int .u64 ((0 : Nat) : Int), .int .u64 ((0 : Nat) : Int), .int .u64 ((0 : Nat) : Int)], .bool b]) (by (simp [results, Tryz.results165, go_sem, y0, y1, y2]; done)) rfl ?_
        exact ⟨0, 0, 0, by rw [← HBV.out], by decide, by decide, by decide, by rw [HE.out]; rfl, HX⟩
    · have hw0 : w3Eq (h : Int) (m : Int) (l : Int) 0 0 0 = false := by
        simp only [w3Eq, Bool.and_eq_false_iff, beq_eq_false_iff_ne, ne_eq]; omega
      by_cases h64 : 64 ≤ j
      · obtain ⟨j2, hj2⟩ : ∃ j2, j = j2 + 64 := ⟨j - 64, by omega⟩
        subst hj2
        have hji : ((j2 + 64 : Nat) : Int) - 64 = (j2 : Int) := by omega
        obtain ⟨d1, d2⟩ := Fl.drop_word hl HV.out
        have hJ := HJ.out
        have HJ2 := Lib.hid (show j2 + 64 * (k + 1) = n by omega)
        have HV2 := Lib.hid d1
        have HC2 := Lib.hid (HC.out.stored 0 h m)
        have HB2 := Lib.hid (below_setCells (B := w.heap.size) (b := w.heap.size) (Nat.le_refl _) [.int .u64 ((0 : Nat) : Int), .int .u64 h, .int .u64 m] 0 HBe.out)
        have hl0 : decide ((0 : Int) < (l : Int)) = decide (l ≠ 0) := by apply decide_eq_decide.2; omega
        have HL2 := Lib.hid (show (b || decide (l ≠ 0)) = decide (N % 2 ^ (64 * (k + 1)) ≠ 0) by
          rw [HL.out, ← Bool.decide_or]; apply decide_eq_decide.2; exact d2.symm)
        clear d1 d2 hJ
        have HR2 : Hid (C3 (wr.setCells w.heap.size 0 [.int .u64 ((0 : Nat) : Int), .int .u64 h, .int .u64 m]) (w.heap.size + 1) 0 0 0) := Lib.hid (((HR.out.setOther (by omega)).setOther (by omega)).setOther (by omega))
        cases b with
        | true =>
          go_wp2_with fail
          go_roundw
          case rel => exact ⟨k + 1, j2, 0, h, m, true, by go_num, rfl, by omega, HJ2, by decide, hh, hm, HV2, HL2, HC2, HR2, HB2⟩
          case measure => simp [intOf]; omega
        | false =>
          have HL3 := Lib.hid (show decide (0 < l) = decide (N % 2 ^ (64 * (k + 1)) ≠ 0) by
            rw [← HL2.out, Bool.false_or]; apply decide_eq_decide.2; omega)
          go_wp2_with fail
          go_roundw
          case rel => exact ⟨k + 1, j2, 0, h, m, decide (0 < l), by go_num, rfl, by omega, HJ2, by decide, hh, hm, HV2, HL3, HC2, HR2, HB2⟩
          case measure => simp [intOf]; omega
      · -- the last step
        have hJ := HJ.out
        obtain ⟨d1, d2⟩ := Fl.drop_last (by omega) hJ hl hm hh HV.out
        obtain ⟨t, ht⟩ : ∃ t : Nat, j + t = 64 := ⟨64 - j, by omega⟩
        have hti : (64 : Int) - (j : Int) = (t : Int) := by omega
        rw [show 64 - j = t by omega] at d1
        obtain ⟨a1, a2, a3, -⟩ := Fl.shr_word (x := l) (y := m) ht hl
        obtain ⟨b1, b2, b3, -⟩ := Fl.shr_word (x := m) (y := h) ht hm
        have or1 := Fl.or_words' a1 a2 a3
        have or2 := Fl.or_words' b1 b2 b3
        have hmask : IntKind.u64.wrap ((1 : Int) * 2 ^ j) - 1 = ((2 ^ j - 1 : Nat) : Int) := by
          have e : ((1 : Int) * 2 ^ j) = ((2 ^ j : Nat) : Int) := by simp
          have h63 : 2 ^ j ≤ 2 ^ 63 := Nat.pow_le_pow_right (by decide) (by omega)
          have hp : 0 < 2 ^ j := Nat.pow_pos (by decide)
          rw [e, IntKind.wrap_u64]; omega
        have hmask2 : IntKind.u64.wrap (IntKind.u64.wrap ((2 : Int) ^ j) - 1) = ((2 ^ j - 1 : Nat) : Int) := by
          have e : ((2 : Int) ^ j) = ((2 ^ j : Nat) : Int) := by simp
          have h63 : 2 ^ j ≤ 2 ^ 63 := Nat.pow_le_pow_right (by decide) (by omega)
          have hp : 0 < 2 ^ j := Nat.pow_pos (by decide)
          rw [e, IntKind.wrap_u64, IntKind.wrap_u64]; omega
        have hand := Fl.low_mask hl (show j < 64 by omega)
        have sh := Fl.div_pow h j
        have sm := Fl.div_pow m j
        have sl := Fl.div_pow l j
        have uh := Fl.wrap_pow h t
        have um := Fl.wrap_pow m t
        obtain ⟨h', hh'⟩ : ∃ x, x = h / 2 ^ j := ⟨_, rfl⟩
        obtain ⟨m1, hm1⟩ : ∃ x, x = m / 2 ^ j := ⟨_, rfl⟩
        obtain ⟨l1, hl1⟩ : ∃ x, x = l / 2 ^ j := ⟨_, rfl⟩
        obtain ⟨h2, hh2⟩ : ∃ x, x = h * 2 ^ t % 18446744073709551616 := ⟨_, rfl⟩
        obtain ⟨m2, hm2⟩ : ∃ x, x = m * 2 ^ t % 18446744073709551616 := ⟨_, rfl⟩
        obtain ⟨M, hM⟩ : ∃ x : Nat, x = 2 ^ j - 1 := ⟨_, rfl⟩
        obtain ⟨r, hr⟩ : ∃ x, x = l % 2 ^ j := ⟨_, rfl⟩
        rw [← hh'] at sh d1
        rw [← hm1] at sm or2 d1 b3
        rw [← hl1] at sl or1 d1 a3
        rw [← hh2] at uh or2 d1 b3
        rw [← hm2] at um or1 d1 a3
        rw [← hM] at hmask hmask2 hand
        rw [← hr] at hand d2
        obtain ⟨P, hP⟩ : ∃ x, x = h2 + m1 := ⟨_, rfl⟩
        obtain ⟨Q, hQ⟩ : ∃ x, x = m2 + l1 := ⟨_, rfl⟩
        rw [← hP] at or2 d1 b3
        rw [← hQ] at or1 d1 a3
        have hh'l : h' < 18446744073709551616 := by rw [hh']; exact Nat.lt_of_le_of_lt (Nat.div_le_self _ _) hh
        have hr0 : decide ((0 : Int) < (r : Int)) = decide (r ≠ 0) := by apply decide_eq_decide.2; omega
        have HD := Lib.hid d1
        have HL2 := Lib.hid (show z = (b || decide (r ≠ 0)) by
          rw [HZ.out, HL.out, ← Bool.decide_or]; apply decide_eq_decide.2; exact d2)
        have h64' : ¬ (64 : Int) ≤ (j : Int) := by omega
        clear d1 d2 hJ a1 a2 b1 b2 hh' hm1 hl1 hh2 hm2 hM hr hP hQ
        have i0 : (0 : Int) ≤ (j : Int) := by omega
        have i1 : (0 : Int) ≤ (t : Int) := by omega
        cases b with
        | true =>
          go_wp2_with fail
          go_quiet (fail)
          go_wp2
          go_region
          go_wp2
          obtain ⟨V, hV⟩ : ∃ V, V = wr.drewN (nq + 1) := ⟨_, rfl⟩
          rw [← hV]
          have HRV : C3 V (w.heap.size + 1) 0 0 0 := by rw [hV]; exact HR.out.on (below_drewN' (Below.refl _ _) _)
          have HBV : Below w.heap.size w V := by rw [hV]; exact below_drewN' HBe.out _
          clear hV
          obtain ⟨Y, hY⟩ : ∃ Y, Y = V.setCells (w.heap.size + 1) 0 [.int .u64 h', .int .u64 P, .int .u64 Q] := ⟨_, rfl⟩
          change bodyPost _ _ _ _ _ (V.setCells (w.heap.size + 1) 0 [.int .u64 h', .int .u64 P, .int .u64 Q])
          have HS := HRV.stored h' P Q
          have HX := below_setCells (b := w.heap.size + 1) (Nat.le_succ w.heap.size) [.int .u64 h', .int .u64 P, .int .u64 Q] 0 HBV
          rw [← hY] at HS HX ⊢
          have y0 := HS.1.get 0 rfl
          have y1 := HS.1.get 1 rfl
          have y2 := HS.1.get 2 rfl
          clear hY
          refine bodyPost_ret (v := .tuple #[.agg #[.int .u64 h', .int .u64 P, .int .u64 Q], .bool true]) (by (simp [results, Tryz.results165, go_sem, y0, y1, y2]; done)) rfl ?_
          exact ⟨h', P, Q, by rw [HL2.out]; rfl, hh'l, b3, a3, HD.out, HX⟩
        | false =>
          go_wp2_with fail
          go_quiet (fail)
          go_wp2
          go_region
          go_wp2
          obtain ⟨V, hV⟩ : ∃ V, V = wr.drewN (nq + 1) := ⟨_, rfl⟩
          rw [← hV]
          have HRV : C3 V (w.heap.size + 1) 0 0 0 := by rw [hV]; exact HR.out.on (below_drewN' (Below.refl _ _) _)
          have HBV : Below w.heap.size w V := by rw [hV]; exact below_drewN' HBe.out _
          clear hV
          obtain ⟨Y, hY⟩ : ∃ Y, Y = V.setCells (w.heap.size + 1) 0 [.int .u64 h', .int .u64 P, .int .u64 Q] := ⟨_, rfl⟩
          change bodyPost _ _ _ _ _ (V.setCells (w.heap.size + 1) 0 [.int .u64 h', .int .u64 P, .int .u64 Q])
          have HS := HRV.stored h' P Q
          have HX := below_setCells (b := w.heap.size + 1) (Nat.le_succ w.heap.size) [.int .u64 h', .int .u64 P, .int .u64 Q] 0 HBV
          rw [← hY] at HS HX ⊢
          have y0 := HS.1.get 0 rfl
          have y1 := HS.1.get 1 rfl
          have y2 := HS.1.get 2 rfl
          clear hY
          refine bodyPost_ret (v := .tuple #[.agg #[.int .u64 h', .int .u64 P, .int .u64 Q], .bool (decide ((0 : Int) < (r : Int)))]) (by (simp [results, Tryz.results165, go_sem, y0, y1, y2]; done)) rfl ?_
          exact ⟨h', P, Q, by rw [HL2.out]; rw [hr0]; rfl, hh'l, b3, a3, HD.out, HX⟩

/-- Two words shifted down: the quotient's words, and whether anything is lost. -/
theorem wi_shr_any (hi lo n : Nat) (w : World) (hh : hi < 18446744073709551616) (hl : lo < 18446744073709551616) (hn : n ≤ 1000000) :
    Calls Tryz.prog 113 #[.agg #[.int .u64 hi, .int .u64 lo], .int .i64 n] w (RetB (.tuple #[.agg #[.int .u64 (((hi * 18446744073709551616 + lo) / 2 ^ n / 18446744073709551616 : Nat) : Int), .int .u64 (((hi * 18446744073709551616 + lo) / 2 ^ n % 18446744073709551616 : Nat) : Int)], .bool (decide ((hi * 18446744073709551616 + lo) % 2 ^ n ≠ 0))]) w) := by
  have hd := fun w1 => wi_drop_any 0 hi lo n w1 (by omega) hh hl hn
  have HR0 : Hid (C2 ((w.alloc (.cells #[.int .u64 hi, .int .u64 lo] 57)).alloc (.cells #[.int .u64 0, .int .u64 0] 57)) (w.heap.size + 1) 0 0) := Lib.hid (C2.new0 (by simp))
  have hw : Fl.w3 0 hi lo = hi * 18446744073709551616 + lo := by unfold Fl.w3; omega
  rw [hw] at hd
  simp only [show ((0 : Nat) : Int) = (0 : Int) from rfl] at hd
  obtain ⟨N, hN⟩ : ∃ N, N = hi * 18446744073709551616 + lo := ⟨_, rfl⟩
  have hNl : N < 340282366920938463463374607431768211456 := by omega
  rw [← hN] at hd ⊢
  have HD := Lib.hid hd
  have hq : N / 2 ^ n ≤ N := Nat.div_le_self _ _
  obtain ⟨q, hqe⟩ : ∃ q, q = N / 2 ^ n := ⟨_, rfl⟩
  rw [← hqe] at hq ⊢
  obtain ⟨z, hz⟩ : ∃ z, z = decide (N % 2 ^ n ≠ 0) := ⟨_, rfl⟩
  rw [← hz]
  have HQ := Lib.hid hqe; have HZ := Lib.hid hz
  have HLo := Lib.hid (fun (h m l : Nat) w1 => wi_low_any h m l w1)
  clear hd hqe hz hw hN
  go_enter Tryz.func113, Tryz.ntmps113
  go_wp2_with (first
    | (go_at_call 165; (with_reducible refine (HD.out _).mono ?_); rintro e w1 ⟨h', m', l', rfl, b0, b1, b2, hv, hb_w1⟩; have hB_w1 : Below w.heap.size w w1 := Below.trans (by (repeat (first | exact Below.refl _ _ | assumption | refine Below.setCell ?_ (by first | omega | (simp <;> omega)) _ | refine Below.alloc ?_ (by first | omega | (simp <;> omega)) _ | refine Below.drew ?_ | refine below_drewN' ?_ _))) (hb_w1.mono (by first | omega | (simp <;> omega))); obtain ⟨hc_w1, hf_w1⟩ := bcell hb_w1; have hz_w1 := hb_w1.size; (try simp only [size_drew', size_drewN', World.size_alloc, World.size_setCell] at hz_w1); have hg1_w1 := fun o => (hf_w1 (w.heap.size + 1) o (by simp)).trans ((HR0.out.2 o)); have hr10_w1 := (hc_w1 (w.heap.size + 1) 0 (by simp)).trans (HR0.out.1.get 0 rfl); have hr11_w1 := (hc_w1 (w.heap.size + 1) 1 (by simp)).trans (HR0.out.1.get 1 rfl); have hl1_w1 : w.heap.size + 1 < w1.heap.size := (by omega))
    | (go_at_call 166; (with_reducible refine (HLo.out _ _ _ _).mono ?_); rintro e w2 ⟨rfl, hb_w2⟩; have hB_w2 : Below (w).heap.size (w) w2 := Below.trans (by (repeat (first | exact Below.refl _ _ | assumption | refine Below.setCell ?_ (by first | omega | (simp <;> omega)) _ | refine Below.alloc ?_ (by first | omega | (simp <;> omega)) _ | refine Below.drew ?_ | refine below_drewN' ?_ _))) (hb_w2.mono (by first | omega | (simp <;> omega))); obtain ⟨hc_w2, hf_w2⟩ := bcell hb_w2; have hz_w2 := hb_w2.size; (try simp only [size_drew', size_drewN', World.size_alloc, World.size_setCell] at hz_w2); have hl0_w2 : w.heap.size < w2.heap.size := (by omega); have hm0_w2 : w.heap.size ≤ w2.heap.size := (by omega); have hn0_w2 : ¬ w.heap.size = w2.heap.size := (by omega); have hq0_w2 : ¬ w2.heap.size = w.heap.size := (by omega); have hr0_w2 := fun o => hc_w2 (w.heap.size) o (by (try simp only [size_drew', size_drewN', World.size_alloc, World.size_setCell]); omega); have hg0_w2 := fun o => hf_w2 (w.heap.size) o (by (try simp only [size_drew', size_drewN', World.size_alloc, World.size_setCell]); omega); have hl1_w2 : w.heap.size + 1 < w2.heap.size := (by omega); have hm1_w2 : w.heap.size + 1 ≤ w2.heap.size := (by omega); have hn1_w2 : ¬ w.heap.size + 1 = w2.heap.size := (by omega); have hq1_w2 : ¬ w2.heap.size = w.heap.size + 1 := (by omega); have hr1_w2 := fun o => hc_w2 (w.heap.size + 1) o (by (try simp only [size_drew', size_drewN', World.size_alloc, World.size_setCell]); omega); have hg1_w2 := fun o => hf_w2 (w.heap.size + 1) o (by (try simp only [size_drew', size_drewN', World.size_alloc, World.size_setCell]); omega); have hl2_w2 : w1.heap.size < w2.heap.size := (by omega); have hm2_w2 : w1.heap.size ≤ w2.heap.size := (by omega); have hn2_w2 : ¬ w1.heap.size = w2.heap.size := (by omega); have hq2_w2 : ¬ w2.heap.size = w1.heap.size := (by omega); have hr2_w2 := fun o => hc_w2 (w1.heap.size) o (by (try simp only [size_drew', size_drewN', World.size_alloc, World.size_setCell]); omega); have hg2_w2 := fun o => hf_w2 (w1.heap.size) o (by (try simp only [size_drew', size_drewN', World.size_alloc, World.size_setCell]); omega)))
  have HR2 := HR0.out.on (hb_w1.mono (Nat.le_refl _))
  have HR3 := (HR2.alloc (.cells #[.int .u64 h', .int .u64 m', .int .u64 l'] 182)).on (hb_w2.mono (Nat.le_refl _))
  have HS := HR3.stored m' l'
  have HX := below_setCells (b := w.heap.size + 1) (Nat.le_succ w.heap.size) [.int .u64 m', .int .u64 l'] 0 hB_w2
  obtain ⟨Y, hY⟩ : ∃ Y, Y = w2.setCells (w.heap.size + 1) 0 [.int .u64 m', .int .u64 l'] := ⟨_, rfl⟩
  change bodyPost _ _ _ _ _ (w2.setCells (w.heap.size + 1) 0 [.int .u64 m', .int .u64 l'])
  rw [← hY] at HX ⊢
  replace HS : C2 Y (w.heap.size + 1) m' l' := by rw [hY]; exact HS
  have y0 := HS.1.get 0 rfl
  have y1 := HS.1.get 1 rfl
  clear hY
  rw [← HQ.out] at hv
  unfold Fl.w3 at hv
  have e0 : h' = 0 := by omega
  subst e0
  have e1 : m' = q / 18446744073709551616 := by omega
  have e2 : l' = q % 18446744073709551616 := by omega
  have hz2 : decide (N % 2 ^ n = 0) = !z := by rw [HZ.out]; simp
  refine bodyPost_ret (v := .tuple #[.agg #[.int .u64 m', .int .u64 l'], .bool z]) (by (simp [results, Tryz.results113, go_sem, y0, y1, hz2]; done)) rfl (RetB.of (by rw [e1, e2]) HX)
end Go.Proofs.YtjnkbifafbjckaaGreatDoor
