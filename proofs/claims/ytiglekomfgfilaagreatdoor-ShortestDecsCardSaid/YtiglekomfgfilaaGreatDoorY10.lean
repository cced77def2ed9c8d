/- Ints of 192 bits are compared. -/
import Derived.Test.YtiglekomfgfilaaGreatDoorY1
import Derived.Laws.StructEq
import Derived.Test.YtiglekomfgfilaaGreatDoorY9
import Derived.BigRegion
import Derived.BigQuiet
import Derived.Test.YtiglekomfgfilaaGreatDoorY8
namespace Go.Proofs.YtiglekomfgfilaaGreatDoor
set_option linter.all false
open Go.RowKit
def w3Eq (p0 p1 p2 q0 q1 q2 : Int) : Bool := p0 == q0 && (p1 == q1 && p2 == q2)
theorem w3_struct : Tryz.prog.underlying 176 = some (.struct (Tryz.prog.fieldsOf 176)) := by kernel_rfl
theorem w3_held : Tryz.prog.stoodInHeld 176 = false := by kernel_rfl
theorem w3_guardT : Tryz.prog.eqGuardType Tryz.prog.depth 176 = false := by kernel_rfl
theorem w3_fields : (Tryz.prog.fieldsOf 176).toList.map (fun f => (f.type, f.offset, f.name == "_")) = [(22, 0, false), (22, 1, false), (22, 2, false)] := by kernel_rfl
theorem w3_guard (op : BinOp) (x y : Operand) (xs ys : Array Value) (w : World) : (eqGuard op 176 x y (.agg xs) (.agg ys)).run Tryz.prog w = .ok () w := run_eqGuard_agg _ _ _ _ _ _ _ w3_guardT
theorem w3_equalIn (p0 p1 p2 q0 q1 q2 : Int) (w : World) :
    (Op.equalIn 10000 176 (.agg #[.int .u64 p0, .int .u64 p1, .int .u64 p2]) (.agg #[.int .u64 q0, .int .u64 q1, .int .u64 q2])).run Tryz.prog w = .ok (w3Eq p0 p1 p2 q0 q1 q2) w := by
  rw [run_equalIn_agg _ 9999 _ _ _ w3_struct w3_held]
  have hf := w3_fields
  generalize (Tryz.prog.fieldsOf 176).toList = fs at hf
  have hl := congrArg List.length hf
  rw [List.length_map] at hl
  obtain ⟨f0, f1, f2, rfl⟩ : ∃ f0 f1 f2, fs = [f0, f1, f2] := by
    match fs, hl with
    | [a, b, c], _ => exact ⟨a, b, c, rfl⟩
  simp only [List.map_cons, List.map_nil, List.cons.injEq, Prod.mk.injEq, and_true] at hf
  obtain ⟨⟨t0, o0, n0⟩, ⟨t1, o1, n1⟩, ⟨t2, o2, n2⟩⟩ := hf
  have m0 := beq_eq_false_iff_ne.1 n0
  have m1 := beq_eq_false_iff_ne.1 n1
  have m2 := beq_eq_false_iff_ne.1 n2
  simp [Op.eqFields, w3Eq, go_sem, t0, t1, t2, o0, o1, o2, m0, m1, m2, Tryz.underlying22]
  by_cases h0 : p0 = q0 <;> by_cases h1 : p1 = q1 <;> by_cases h2 : p2 = q2 <;> simp [h0, h1, h2]
theorem w3_neq (p0 p1 p2 q0 q1 q2 : Int) (w : World) :
    (binOp .neq 176 (.agg #[.int .u64 p0, .int .u64 p1, .int .u64 p2]) (.agg #[.int .u64 q0, .int .u64 q1, .int .u64 q2])).run Tryz.prog w = .ok (.bool (!(w3Eq p0 p1 p2 q0 q1 q2))) w := by
  rw [run_neq_struct, w3_equalIn]; rfl
theorem w3_eql (p0 p1 p2 q0 q1 q2 : Int) (w : World) :
    (binOp .eql 176 (.agg #[.int .u64 p0, .int .u64 p1, .int .u64 p2]) (.agg #[.int .u64 q0, .int .u64 q1, .int .u64 q2])).run Tryz.prog w = .ok (.bool (w3Eq p0 p1 p2 q0 q1 q2)) w := by
  rw [run_eql_struct, w3_equalIn]; rfl
end Go.Proofs.YtiglekomfgfilaaGreatDoor

/- Ints of 192 bits, shifted down. -/
namespace Go.Proofs.YtiglekomfgfilaaGreatDoor
set_option maxRecDepth 100000
set_option maxHeartbeats 8000000
set_option linter.all false
open Go.RowKit
attribute [local go_sem high] w3_guard w3_neq w3_eql
def dropLoop (N n : Nat) (w : World) (nv lv : Value) (wr : World) : Prop := ∃ (k j h m l : Nat) (b : Bool), nv = .int .i64 j ∧ lv = .bool b ∧ j ≤ n ∧ Hid (j + 64 * k = n) ∧ h < 18446744073709551616 ∧ m < 18446744073709551616 ∧ l < 18446744073709551616 ∧
  Hid (Fl.w3 h m l = N / 2 ^ (64 * k)) ∧ Hid (b = decide (N % 2 ^ (64 * k) ≠ 0)) ∧ Hid (C3 wr w.heap.size h m l) ∧ Hid (C3 wr (w.heap.size + 1) 0 0 0) ∧ Hid (Below w.heap.size w wr)
theorem Fl.drop_word {N k h m l : Nat} (hl : l < 18446744073709551616) (e : Fl.w3 h m l = N / 2 ^ (64 * k)) : Fl.w3 0 h m = N / 2 ^ (64 * (k + 1)) ∧ (N % 2 ^ (64 * (k + 1)) ≠ 0 ↔ N % 2 ^ (64 * k) ≠ 0 ∨ l ≠ 0) := by
  obtain ⟨a1, a2⟩ := Fl.w3_word h m l hl
  have e64 : (18446744073709551616 : Nat) = 2 ^ 64 := by decide
  have hp : 0 < 2 ^ (64 * k) := Nat.pow_pos (by decide)
  have hpow : 2 ^ (64 * (k + 1)) = 2 ^ (64 * k) * 18446744073709551616 := by rw [Nat.mul_add, Nat.pow_add, Nat.mul_one, ← e64]
  constructor
  · rw [← a1, e, hpow, Nat.div_div_eq_div_mul]
  · have h1 := Nat.mod_mul (x := N) (a := 2 ^ (64 * k)) (b := 18446744073709551616)
    rw [hpow, h1, ← e, a2]
    constructor
    · intro h0
      by_cases h2 : N % 2 ^ (64 * k) = 0
      · right; intro h3; apply h0; rw [h2, h3, Nat.mul_zero]
      · exact Or.inl h2
    · rintro (h2 | h2)
      · omega
      · have := Nat.mul_pos hp (Nat.pos_of_ne_zero h2); omega
theorem Fl.drop_zero {N k n : Nat} (h : N / 2 ^ k = 0) (hk : k ≤ n) : N / 2 ^ n = 0 ∧ N % 2 ^ n = N % 2 ^ k := by
  have hp : 0 < 2 ^ k := Nat.pow_pos (by decide)
  have h1 : N < 2 ^ k := by
    rcases Nat.lt_or_ge N (2 ^ k) with h2 | h2
    · exact h2
    · have := (Nat.le_div_iff_mul_le hp).2 (show 1 * 2 ^ k ≤ N by omega); omega
  have h2 : N < 2 ^ n := Nat.lt_of_lt_of_le h1 (Nat.pow_le_pow_right (by decide) hk)
  exact ⟨Nat.div_eq_of_lt h2, by rw [Nat.mod_eq_of_lt h2, Nat.mod_eq_of_lt h1]⟩
theorem Fl.drop_last {N k n j h m l : Nat} (hj : j < 64) (hn : j + 64 * k = n) (hl : l < 18446744073709551616) (hm : m < 18446744073709551616) (hh : h < 18446744073709551616) (e : Fl.w3 h m l = N / 2 ^ (64 * k)) :
    Fl.w3 (h / 2 ^ j) (h * 2 ^ (64 - j) % 18446744073709551616 + m / 2 ^ j) (m * 2 ^ (64 - j) % 18446744073709551616 + l / 2 ^ j) = N / 2 ^ n ∧ (N % 2 ^ n ≠ 0 ↔ N % 2 ^ (64 * k) ≠ 0 ∨ l % 2 ^ j ≠ 0) := by
  obtain ⟨a1, a2⟩ := Fl.w3_shr (show j + (64 - j) = 64 by omega) hl hm hh
  have hp : 0 < 2 ^ (64 * k) := Nat.pow_pos (by decide)
  have hpow : 2 ^ n = 2 ^ (64 * k) * 2 ^ j := by rw [← hn, Nat.pow_add, Nat.mul_comm]
  constructor
  · rw [← a1, e, hpow, Nat.div_div_eq_div_mul]
  · have h1 := Nat.mod_mul (x := N) (a := 2 ^ (64 * k)) (b := 2 ^ j)
    rw [hpow, h1, ← e, a2]
    constructor
    · intro h0
      by_cases h2 : N % 2 ^ (64 * k) = 0
      · right; intro h3; apply h0; rw [h2, h3, Nat.mul_zero]
      · exact Or.inl h2
    · rintro (h2 | h2)
      · omega
      · have := Nat.mul_pos hp (Nat.pos_of_ne_zero h2); omega
theorem wi_drop_any (h m l n : Nat) (w : World) (hh : h < 18446744073709551616) (hm : m < 18446744073709551616) (hl : l < 18446744073709551616) (hn : n ≤ 1000000) :
    Calls Tryz.prog 203 #[.agg #[.int .u64 h, .int .u64 m, .int .u64 l], .int .i64 n] w (fun e w' => ∃ h' m' l' : Nat, e = .returned (.tuple #[.agg #[.int .u64 h', .int .u64 m', .int .u64 l'], .bool (decide (Fl.w3 h m l % 2 ^ n ≠ 0))]) ∧
      h' < 18446744073709551616 ∧ m' < 18446744073709551616 ∧ l' < 18446744073709551616 ∧ Fl.w3 h' m' l' = Fl.w3 h m l / 2 ^ n ∧ Below w.heap.size w w') := by
  obtain ⟨N, hN⟩ : ∃ N, N = Fl.w3 h m l := ⟨_, rfl⟩
  rw [← hN]
  obtain ⟨z, hz⟩ : ∃ z, z = decide (N % 2 ^ n ≠ 0) := ⟨_, rfl⟩
  rw [← hz]
  have HN := Lib.hid hN; have HZ := Lib.hid hz
  clear hN hz
  have HC0 : Hid (C3 ((w.alloc (.cells #[.int .u64 h, .int .u64 m, .int .u64 l] 176)).alloc (.cells #[.int .u64 0, .int .u64 0, .int .u64 0] 176)) w.heap.size h m l) := Lib.hid ((C3.new w h m l).alloc _)
  have HR0 : Hid (C3 ((w.alloc (.cells #[.int .u64 h, .int .u64 m, .int .u64 l] 176)).alloc (.cells #[.int .u64 0, .int .u64 0, .int .u64 0] 176)) (w.heap.size + 1) 0 0 0) := Lib.hid (C3.new0 (by simp))
  have HB0 : Hid (Below w.heap.size w ((w.alloc (.cells #[.int .u64 h, .int .u64 m, .int .u64 l] 176)).alloc (.cells #[.int .u64 0, .int .u64 0, .int .u64 0] 176))) := Lib.hid (((Below.refl w.heap.size w).alloc (Nat.le_refl _) _).alloc (by simp) _)
  go_enter Tryz.func203, Tryz.ntmps203
  go_wp2_with fail
  go_loopw [1, 6] (dropLoop N n w) (fun nv _ _ => (intOf nv).toNat)
  case atStart => exact ⟨0, n, h, m, l, false, rfl, rfl, Nat.le_refl _, Lib.hid (by omega), hh, hm, hl, Lib.hid (by rw [HN.out]; simp), Lib.hid (by simp [Nat.mod_one]), HC0, HR0, HB0⟩
  case round =>
    clear HC0 HB0 HR0 hh hm hl
    obtain ⟨k, j, h, m, l, b, rfl, rfl, hj, HJ, hh, hm, hl, HV, HL, HC, HR, HBe⟩ := hrel
    have c0 := HC.out.1.get 0 rfl
    have c1 := HC.out.1.get 1 rfl
    have c2 := HC.out.1.get 2 rfl
    have hbl := HC.out.1.1
    have f0 := HC.out.2 0; have f1 := HC.out.2 1; have f2 := HC.out.2 2
    have r0 := HR.out.1.get 0 rfl; have r1 := HR.out.1.get 1 rfl; have r2 := HR.out.1.get 2 rfl
    have q0 := HR.out.2 0; have q1 := HR.out.2 1; have q2 := HR.out.2 2
    have hrl := HR.out.1.1
    by_cases hz : h = 0 ∧ m = 0 ∧ l = 0
    · -- nothing is left
      obtain ⟨rfl, rfl, rfl⟩ := hz
      have hw0 : w3Eq 0 0 0 0 0 0 = true := rfl
      have hz0 : N / 2 ^ (64 * k) = 0 := by rw [← HV.out]; rfl
      have hJ := HJ.out
      obtain ⟨d1, d2⟩ := Fl.drop_zero hz0 (show 64 * k ≤ n by omega)
      have HE := Lib.hid d1
      have HBV := Lib.hid (show b = z by rw [HL.out, HZ.out]; apply decide_eq_decide.2; rw [d2])
      clear hz0 hJ d1 d2
      by_cases h64 : 64 ≤ j
      · go_wp2_with fail
        obtain ⟨Y, hY⟩ : ∃ Y, Y = wr.setCells (w.heap.size + 1) 0 [.int .u64 ((0 : Nat) : Int), .int .u64 ((0 : Nat) : Int), .int .u64 ((0 : Nat) : Int)] := ⟨_, rfl⟩
        change bodyPost _ _ _ _ _ (wr.setCells (w.heap.size + 1) 0 [.int .u64 ((0 : Nat) : Int), .int .u64 ((0 : Nat) : Int), .int .u64 ((0 : Nat) : Int)])
        have HS := HR.out.stored 0 0 0
        have HX := below_setCells (b := w.heap.size + 1) (Nat.le_succ w.heap.size) [.int .u64 ((0 : Nat) : Int), .int .u64 ((0 : Nat) : Int), .int .u64 ((0 : Nat) : Int)] 0 HBe.out
        rw [← hY] at HS HX ⊢
        have y0 := HS.1.get 0 rfl
        have y1 := HS.1.get 1 rfl
        have y2 := HS.1.get 2 rfl
        clear hY
        refine bodyPost_ret (v := .tuple #[.agg #[.int .u64 ((0 : Nat) : Int), .int .u64 ((0 : Nat) : Int), .int .u64 ((0 : Nat) : Int)], .bool b]) (by (simp [results, Tryz.results203, go_sem, y0, y1, y2]; done)) rfl ?_
        exact ⟨0, 0, 0, by rw [← HBV.out], by decide, by decide, by decide, by rw [HE.out]; rfl, HX⟩
      · go_wp2_with fail
        obtain ⟨Y, hY⟩ : ∃ Y, Y = wr.setCells (w.heap.size + 1) 0 [.int .u64 ((0 : Nat) : Int), .int .u64 ((0 : Nat) : Int), .int .u64 ((0 : Nat) : Int)] := ⟨_, rfl⟩
        change bodyPost _ _ _ _ _ (wr.setCells (w.heap.size + 1) 0 [.int .u64 ((0 : Nat) : Int), .int .u64 ((0 : Nat) : Int), .int .u64 ((0 : Nat) : Int)])
        have HS := HR.out.stored 0 0 0
        have HX := below_setCells (b := w.heap.size + 1) (Nat.le_succ w.heap.size) [.int .u64 ((0 : Nat) : Int), .int .u64 ((0 : Nat) : Int), .int .u64 ((0 : Nat) : Int)] 0 HBe.out
        rw [← hY] at HS HX ⊢
        have y0 := HS.1.get 0 rfl
        have y1 := HS.1.get 1 rfl
        have y2 := HS.1.get 2 rfl
        clear hY
        refine bodyPost_ret (v := .tuple #[.agg #[.int .u64 ((0 : Nat) : Int), .int .u64 ((0 : Nat) : Int), .int .u64 ((0 : Nat) : Int)], .bool b]) (by (simp [results, Tryz.results203, go_sem, y0, y1, y2]; done)) rfl ?_
        exact ⟨0, 0, 0, by rw [← HBV.out], by decide, by decide, by decide, by rw [HE.out]; rfl, HX⟩
    · have hw0 : w3Eq (h : Int) (m : Int) (l : Int) 0 0 0 = false := by
        simp only [w3Eq, Bool.and_eq_false_iff, beq_eq_false_iff_ne, ne_eq]; omega
      by_cases h64 : 64 ≤ j
      · obtain ⟨j2, hj2⟩ : ∃ j2, j = j2 + 64 := ⟨j - 64, by omega⟩
        subst hj2
        have hji : ((j2 + 64 : Nat) : Int) - 64 = (j2 : Int) := by omega
        obtain ⟨d1, d2⟩ := Fl.drop_word hl HV.out
        have hJ := HJ.out
        have HJ2 := Lib.hid (show j2 + 64 * (k + 1) = n by omega)
        have HV2 := Lib.hid d1
        have HC2 := Lib.hid (HC.out.stored 0 h m)
        have HB2 := Lib.hid (below_setCells (B := w.heap.size) (b := w.heap.size) (Nat.le_refl _) [.int .u64 ((0 : Nat) : Int), .int .u64 h, .int .u64 m] 0 HBe.out)
        have hl0 : decide ((0 : Int) < (l : Int)) = decide (l ≠ 0) := by apply decide_eq_decide.2; omega
        have HL2 := Lib.hid (show (b || decide (l ≠ 0)) = decide (N % 2 ^ (64 * (k + 1)) ≠ 0) by
          rw [HL.out, ← Bool.decide_or]; apply decide_eq_decide.2; exact d2.symm)
        clear d1 d2 hJ
        have HR2 : Hid (C3 (wr.setCells w.heap.size 0 [.int .u64 ((0 : Nat) : Int), .int .u64 h, .int .u64 m]) (w.heap.size + 1) 0 0 0) := Lib.hid (((HR.out.setOther (by omega)).setOther (by omega)).setOther (by omega))
        cases b with
        | true =>
          go_wp2_with fail
          go_roundw
          case rel => exact ⟨k + 1, j2, 0, h, m, true, by go_num, rfl, by omega, HJ2, by decide, hh, hm, HV2, HL2, HC2, HR2, HB2⟩
          case measure => simp [intOf]; omega
        | false =>
          have HL3 := Lib.hid (show decide (0 < l) = decide (N % 2 ^ (64 * (k + 1)) ≠ 0) by
            rw [← HL2.out, Bool.false_or]; apply decide_eq_decide.2; omega)
          go_wp2_with fail
          go_roundw
          case rel => exact ⟨k + 1, j2, 0, h, m, decide (0 < l), by go_num, rfl, by omega, HJ2, by decide, hh, hm, HV2, HL3, HC2, HR2, HB2⟩
          case measure => simp [intOf]; omega
      · -- the last step
        have hJ := HJ.out
        obtain ⟨d1, d2⟩ := Fl.drop_last (by omega) hJ hl hm hh HV.out
        obtain ⟨t, ht⟩ : ∃ t : Nat, j + t = 64 := ⟨64 - j, by omega⟩
        have hti : (64 : Int) - (j : Int) = (t : Int) := by omega
        rw [show 64 - j = t by omega] at d1
        obtain ⟨a1, a2, a3, -⟩ := Fl.shr_word (x := l) (y := m) ht hl
        obtain ⟨b1, b2, b3, -⟩ := Fl.shr_word (x := m) (y := h) ht hm
        have or1 := Fl.or_words' a1 a2 a3
        have or2 := Fl.or_words' b1 b2 b3
        have hmask : IntKind.u64.wrap ((1 : Int) * 2 ^ j) - 1 = ((2 ^ j - 1 : Nat) : Int) := by
          have e : ((1 : Int) * 2 ^ j) = ((2 ^ j : Nat) : Int) := by simp
          have h63 : 2 ^ j ≤ 2 ^ 63 := Nat.pow_le_pow_right (by decide) (by omega)
          have hp : 0 < 2 ^ j := Nat.pow_pos (by decide)
          rw [e, IntKind.wrap_u64]; omega
        have hmask2 : IntKind.u64.wrap (IntKind.u64.wrap ((2 : Int) ^ j) - 1) = ((2 ^ j - 1 : Nat) : Int) := by
          have e : ((2 : Int) ^ j) = ((2 ^ j : Nat) : Int) := by simp
          have h63 : 2 ^ j ≤ 2 ^ 63 := Nat.pow_le_pow_right (by decide) (by omega)
          have hp : 0 < 2 ^ j := Nat.pow_pos (by decide)
          rw [e, IntKind.wrap_u64, IntKind.wrap_u64]; omega
        have hand := Fl.low_mask hl (show j < 64 by omega)
        have sh := Fl.div_pow h j
        have sm := Fl.div_pow m j
        have sl := Fl.div_pow l j
        have uh := Fl.wrap_pow h t
        have um := Fl.wrap_pow m t
        obtain ⟨h', hh'⟩ : ∃ x, x = h / 2 ^ j := ⟨_, rfl⟩
        obtain ⟨m1, hm1⟩ : ∃ x, x = m / 2 ^ j := ⟨_, rfl⟩
        obtain ⟨l1, hl1⟩ : ∃ x, x = l / 2 ^ j := ⟨_, rfl⟩
        obtain ⟨h2, hh2⟩ : ∃ x, x = h * 2 ^ t % 18446744073709551616 := ⟨_, rfl⟩
        obtain ⟨m2, hm2⟩ : ∃ x, x = m * 2 ^ t % 18446744073709551616 := ⟨_, rfl⟩
        obtain ⟨M, hM⟩ : ∃ x : Nat, x = 2 ^ j - 1 := ⟨_, rfl⟩
        obtain ⟨r, hr⟩ : ∃ x, x = l % 2 ^ j := ⟨_, rfl⟩
        rw [← hh'] at sh d1
        rw [← hm1] at sm or2 d1 b3
        rw [← hl1] at sl or1 d1 a3
        rw [← hh2] at uh or2 d1 b3
        rw [← hm2] at um or1 d1 a3
        rw [← hM] at hmask hmask2 hand
        rw [← hr] at hand d2
        obtain ⟨P, hP⟩ : ∃ x, x = h2 + m1 := ⟨_, rfl⟩
        obtain ⟨Q, hQ⟩ : ∃ x, x = m2 + l1 := ⟨_, rfl⟩
        rw [← hP] at or2 d1 b3
        rw [← hQ] at or1 d1 a3
        have hh'l : h' < 18446744073709551616 := by rw [hh']; exact Nat.lt_of_le_of_lt (Nat.div_le_self _ _) hh
        have hr0 : decide ((0 : Int) < (r : Int)) = decide (r ≠ 0) := by apply decide_eq_decide.2; omega
        have HD := Lib.hid d1
        have HL2 := Lib.hid (show z = (b || decide (r ≠ 0)) by
          rw [HZ.out, HL.out, ← Bool.decide_or]; apply decide_eq_decide.2; exact d2)
        have h64' : ¬ (64 : Int) ≤ (j : Int) := by omega
        clear d1 d2 hJ a1 a2 b1 b2 hh' hm1 hl1 hh2 hm2 hM hr hP hQ
        have i0 : (0 : Int) ≤ (j : Int) := by omega
        have i1 : (0 : Int) ≤ (t : Int) := by omega
        cases b with
        | true =>
          go_wp2_with fail
          go_quiet (fail)
          go_wp2
          go_region
          go_wp2
          obtain ⟨V, hV⟩ : ∃ V, V = wr.drewN (nq + 1) := ⟨_, rfl⟩
          rw [← hV]
          have HRV : C3 V (w.heap.size + 1) 0 0 0 := by rw [hV]; exact HR.out.on (below_drewN' (Below.refl _ _) _)
          have HBV : Below w.heap.size w V := by rw [hV]; exact below_drewN' HBe.out _
          clear hV
          obtain ⟨Y, hY⟩ : ∃ Y, Y = V.setCells (w.heap.size + 1) 0 [.int .u64 h', .int .u64 P, .int .u64 Q] := ⟨_, rfl⟩
          change bodyPost _ _ _ _ _ (V.setCells (w.heap.size + 1) 0 [.int .u64 h', .int .u64 P, .int .u64 Q])
          have HS := HRV.stored h' P Q
          have HX := below_setCells (b := w.heap.size + 1) (Nat.le_succ w.heap.size) [.int .u64 h', .int .u64 P, .int .u64 Q] 0 HBV
          rw [← hY] at HS HX ⊢
          have y0 := HS.1.get 0 rfl
          have y1 := HS.1.get 1 rfl
          have y2 := HS.1.get 2 rfl
          clear hY
          refine bodyPost_ret (v := .tuple #[.agg #[.int .u64 h', .int .u64 P, .int .u64 Q], .bool true]) (by (simp [results, Tryz.results203, go_sem, y0, y1, y2]; done)) rfl ?_
          exact ⟨h', P, Q, by rw [HL2.out]; rfl, hh'l, b3, a3, HD.out, HX⟩
        | false =>
          go_wp2_with fail
          go_quiet (fail)
          go_wp2
          go_region
          go_wp2
          obtain ⟨V, hV⟩ : ∃ V, V = wr.drewN (nq + 1) := ⟨_, rfl⟩
          rw [← hV]
          have HRV : C3 V (w.heap.size + 1) 0 0 0 := by rw [hV]; exact HR.out.on (below_drewN' (Below.refl _ _) _)
          have HBV : Below w.heap.size w V := by rw [hV]; exact below_drewN' HBe.out _
          clear hV
          obtain ⟨Y, hY⟩ : ∃ Y, Y = V.setCells (w.heap.size + 1) 0 [.int .u64 h', .int .u64 P, .int .u64 Q] := ⟨_, rfl⟩
          change bodyPost _ _ _ _ _ (V.setCells (w.heap.size + 1) 0 [.int .u64 h', .int .u64 P, .int .u64 Q])
          have HS := HRV.stored h' P Q
          have HX := below_setCells (b := w.heap.size + 1) (Nat.le_succ w.heap.size) [.int .u64 h', .int .u64 P, .int .u64 Q] 0 HBV
          rw [← hY] at HS HX ⊢
          have y0 := HS.1.get 0 rfl
          have y1 := HS.1.get 1 rfl
          have y2 := HS.1.get 2 rfl
          clear hY
          refine bodyPost_ret (v := .tuple #[.agg #[.int .u64 h', .int .u64 P, .int .u64 Q], .bool (decide ((0 : Int) < (r : Int)))]) (by (simp [results, Tryz.results203, go_sem, y0, y1, y2]; done)) rfl ?_
          exact ⟨h', P, Q, by rw [HL2.out]; rw [hr0]; rfl, hh'l, b3, a3, HD.out, HX⟩
theorem wi_shr_any (hi lo n : Nat) (w : World) (hh : hi < 18446744073709551616) (hl : lo < 18446744073709551616) (hn : n ≤ 1000000) :
    Calls Tryz.prog 180 #[.agg #[.int .u64 hi, .int .u64 lo], .int .i64 n] w (RetB (.tuple #[.agg #[.int .u64 (((hi * 18446744073709551616 + lo) / 2 ^ n / 18446744073709551616 : Nat) : Int), .int .u64 (((hi * 18446744073709551616 + lo) / 2 ^ n % 18446744073709551616 : Nat) : Int)], .bool (decide ((hi * 18446744073709551616 + lo) % 2 ^ n ≠ 0))]) w) := by
  have hd := fun w1 => wi_drop_any 0 hi lo n w1 (by omega) hh hl hn
  have HR0 : Hid (C2 ((w.alloc (.cells #[.int .u64 hi, .int .u64 lo] 91)).alloc (.cells #[.int .u64 0, .int .u64 0] 91)) (w.heap.size + 1) 0 0) := Lib.hid (C2.new0 (by simp))
  have hw : Fl.w3 0 hi lo = hi * 18446744073709551616 + lo := by unfold Fl.w3; omega
  rw [hw] at hd
  simp only [show ((0 : Nat) : Int) = (0 : Int) from rfl] at hd
  obtain ⟨N, hN⟩ : ∃ N, N = hi * 18446744073709551616 + lo := ⟨_, rfl⟩
  have hNl : N < 340282366920938463463374607431768211456 := by omega
  rw [← hN] at hd ⊢
  have HD := Lib.hid hd
  have hq : N / 2 ^ n ≤ N := Nat.div_le_self _ _
  obtain ⟨q, hqe⟩ : ∃ q, q = N / 2 ^ n := ⟨_, rfl⟩
  rw [← hqe] at hq ⊢
  obtain ⟨z, hz⟩ : ∃ z, z = decide (N % 2 ^ n ≠ 0) := ⟨_, rfl⟩
  rw [← hz]
  have HQ := Lib.hid hqe; have HZ := Lib.hid hz
  have HLo := Lib.hid (fun (h m l : Nat) w1 => wi_low_any h m l w1)
  clear hd hqe hz hw hN
  go_enter Tryz.func180, Tryz.ntmps180
  go_wp2_with (first
    | (go_at_call 203; (with_reducible refine (HD.out _).mono ?_); rintro e w1 ⟨h', m', l', rfl, b0, b1, b2, hv, hb_w1⟩; have hB_w1 : Below w.heap.size w w1 := Below.trans (by (repeat (first | exact Below.refl _ _ | assumption | refine Below.setCell ?_ (by first | omega | (simp <;> omega)) _ | refine Below.alloc ?_ (by first | omega | (simp <;> omega)) _ | refine Below.drew ?_ | refine below_drewN' ?_ _))) (hb_w1.mono (by first | omega | (simp <;> omega))); obtain ⟨hc_w1, hf_w1⟩ := bcell hb_w1; have hz_w1 := hb_w1.size; (try simp only [zD, zN, zA, zS] at hz_w1); have hg1_w1 := fun o => (hf_w1 (w.heap.size + 1) o (by simp)).trans ((HR0.out.2 o)); have hr10_w1 := (hc_w1 (w.heap.size + 1) 0 (by simp)).trans (HR0.out.1.get 0 rfl); have hr11_w1 := (hc_w1 (w.heap.size + 1) 1 (by simp)).trans (HR0.out.1.get 1 rfl); have hl1_w1 : w.heap.size + 1 < w1.heap.size := (by omega))
    | (go_at_call 154; (with_reducible refine (HLo.out _ _ _ _).mono ?_); rintro e w2 ⟨rfl, hb_w2⟩; have hB_w2 : Below (w).heap.size (w) w2 := Below.trans (by (repeat (first | exact Below.refl _ _ | assumption | refine Below.setCell ?_ (by first | omega | (simp <;> omega)) _ | refine Below.alloc ?_ (by first | omega | (simp <;> omega)) _ | refine Below.drew ?_ | refine below_drewN' ?_ _))) (hb_w2.mono (by first | omega | (simp <;> omega))); obtain ⟨hc_w2, hf_w2⟩ := bcell hb_w2; have hz_w2 := hb_w2.size; (try simp only [zD, zN, zA, zS] at hz_w2); have hk := own6 hb_w2 (w.heap.size) (by (try simp only [zD, zN, zA, zS]); omega); obtain ⟨hl0_w2, hm0_w2, hn0_w2, hq0_w2, hr0_w2, hg0_w2⟩ := hk; have hk := own6 hb_w2 (w.heap.size + 1) (by (try simp only [zD, zN, zA, zS]); omega); obtain ⟨hl1_w2, hm1_w2, hn1_w2, hq1_w2, hr1_w2, hg1_w2⟩ := hk; have hk := own6 hb_w2 (w1.heap.size) (by (try simp only [zD, zN, zA, zS]); omega); obtain ⟨hl2_w2, hm2_w2, hn2_w2, hq2_w2, hr2_w2, hg2_w2⟩ := hk))
  have HR2 := HR0.out.on (hb_w1.mono (Nat.le_refl _))
  have HR3 := (HR2.alloc (.cells #[.int .u64 h', .int .u64 m', .int .u64 l'] 176)).on (hb_w2.mono (Nat.le_refl _))
  have HS := HR3.stored m' l'
  have HX := below_setCells (b := w.heap.size + 1) (Nat.le_succ w.heap.size) [.int .u64 m', .int .u64 l'] 0 hB_w2
  obtain ⟨Y, hY⟩ : ∃ Y, Y = w2.setCells (w.heap.size + 1) 0 [.int .u64 m', .int .u64 l'] := ⟨_, rfl⟩
  change bodyPost _ _ _ _ _ (w2.setCells (w.heap.size + 1) 0 [.int .u64 m', .int .u64 l'])
  rw [← hY] at HX ⊢
  replace HS : C2 Y (w.heap.size + 1) m' l' := by rw [hY]; exact HS
  have y0 := HS.1.get 0 rfl
  have y1 := HS.1.get 1 rfl
  clear hY
  rw [← HQ.out] at hv
  unfold Fl.w3 at hv
  have e0 : h' = 0 := by omega
  subst e0
  have e1 : m' = q / 18446744073709551616 := by omega
  have e2 : l' = q % 18446744073709551616 := by omega
  have hz2 : decide (N % 2 ^ n = 0) = !z := by rw [HZ.out]; simp
  refine bodyPost_ret (v := .tuple #[.agg #[.int .u64 m', .int .u64 l'], .bool z]) (by (simp [results, Tryz.results180, go_sem, y0, y1, hz2]; done)) rfl (RetB.of (by rw [e1, e2]) HX)
end Go.Proofs.YtiglekomfgfilaaGreatDoor

/- binary64 in the program: a number of two words, times a power of two, is rounded (2): Join. -/
namespace Go.Proofs.YtiglekomfgfilaaGreatDoor
set_option maxRecDepth 100000
set_option maxHeartbeats 4000000
set_option linter.all false
open Go.RowKit
theorem u128_hi (a b : Int) (w : World) : (Instr.field 91 (.agg #[.int .u64 a, .int .u64 b]) 0).run Tryz.prog w = .ok (.int .u64 a) w := by kernel_rfl
theorem u128_lo (a b : Int) (w : World) : (Instr.field 91 (.agg #[.int .u64 a, .int .u64 b]) 1).run Tryz.prog w = .ok (.int .u64 b) w := by kernel_rfl
attribute [local go_sem] u128_hi u128_lo
theorem Fl.and_one64 (x : Nat) (hx : x < 18446744073709551616) : Go.bits BinOp.and IntKind.u64 (x : Int) 1 = ((x % 2 : Nat) : Int) := Fl.and_mask x 1 1 hx (by decide) (by decide)
theorem fl_join1_up (b hi lo t : Nat) (n : Int) (w : World) (hn : n = -(t : Int)) (ht : t < 64) (c0 : w.cell? ⟨b, 0, none⟩ = some (.int .u64 hi)) (c1 : w.cell? ⟨b, 1, none⟩ = some (.int .u64 lo)) (hb : b < w.heap.size) (hh : hi < 18446744073709551616) (hl : lo < 18446744073709551616) (hfit : (hi * 18446744073709551616 + lo) * 2 ^ t < 18446744073709551616) :
    Calls Tryz.prog 178 #[.int .i64 n, .pointer (some ⟨b, 0, none⟩)] w (RetB (.tuple #[.int .u64 (((hi * 18446744073709551616 + lo) * 2 ^ t : Nat) : Int), .bool false, .bool false]) w) := by
  have hs := fun w1 => wi_shl_any hi lo t w1 hh hl ht
  rw [Nat.mod_eq_of_lt hfit] at hs
  obtain ⟨V, hV⟩ : ∃ V, V = (hi * 18446744073709551616 + lo) * 2 ^ t := ⟨_, rfl⟩
  rw [← hV] at hs hfit ⊢
  obtain ⟨U, hU⟩ : ∃ U, U = V / 18446744073709551616 % 18446744073709551616 := ⟨_, rfl⟩
  rw [← hU] at hs
  have HS := Lib.hid hs
  have hneg : -n = (t : Int) := by omega
  have hn0 : n ≤ 0 := by omega
  have hnl : -64 < n := by omega
  clear hs hV hU hn
  go_enter Tryz.func178, Tryz.ntmps178
  go_wp2_with (go_at_call 179; (with_reducible refine (HS.out _).mono ?_); rintro e w1 ⟨rfl, hb_w1⟩; have hB_w1 : Below (w).heap.size (w) w1 := Below.trans (by (repeat (first | exact Below.refl _ _ | assumption | refine Below.setCell ?_ (by first | omega | (simp <;> omega)) _ | refine Below.alloc ?_ (by first | omega | (simp <;> omega)) _ | refine Below.drew ?_ | refine below_drewN' ?_ _))) (hb_w1.mono (by first | omega | (simp <;> omega))); obtain ⟨hc_w1, hf_w1⟩ := bcell hb_w1; have hz_w1 := hb_w1.size; (try simp only [zD, zN, zA, zS] at hz_w1); have hk := own6 hb_w1 (b) (by (try simp only [zD, zN, zA, zS]); omega); obtain ⟨hl0_w1, hm0_w1, hn0_w1, hq0_w1, hr0_w1, hg0_w1⟩ := hk)
  (refine bodyPost_ret (v := .tuple #[.int .u64 ((V : Nat) : Int), .bool false, .bool false]) (by (simp [results, Tryz.results178, go_sem]; done)) rfl (RetB.of rfl (by (repeat (first | exact Below.refl _ _ | assumption | refine Below.setCell ?_ (by first | omega | (simp <;> omega)) _ | refine Below.alloc ?_ (by first | omega | (simp <;> omega)) _ | refine Below.drew ?_ | refine below_drewN' ?_ _)))))
theorem fl_join1_down (b hi lo k : Nat) (w : World) (hk0 : 0 < k) (hk : k ≤ 100000) (c0 : w.cell? ⟨b, 0, none⟩ = some (.int .u64 hi)) (c1 : w.cell? ⟨b, 1, none⟩ = some (.int .u64 lo)) (hb : b < w.heap.size) (hh : hi < 18446744073709551616) (hl : lo < 18446744073709551616) (hfit : (hi * 18446744073709551616 + lo) / 2 ^ k < 18446744073709551616) :
    Calls Tryz.prog 178 #[.int .i64 k, .pointer (some ⟨b, 0, none⟩)] w (RetB (.tuple #[.int .u64 (((hi * 18446744073709551616 + lo) / 2 ^ k : Nat) : Int), .bool (decide ((hi * 18446744073709551616 + lo) / 2 ^ (k - 1) % 2 = 1)), .bool (decide ((hi * 18446744073709551616 + lo) % 2 ^ (k - 1) ≠ 0))]) w) := by
  obtain ⟨j, rfl⟩ : ∃ j, k = j + 1 := ⟨k - 1, by omega⟩
  rw [Nat.add_sub_cancel]
  have hs := fun w1 => wi_shr_any hi lo j w1 hh hl (by omega)
  obtain ⟨N, hN⟩ : ∃ N, N = hi * 18446744073709551616 + lo := ⟨_, rfl⟩
  have hNl : N < 340282366920938463463374607431768211456 := by omega
  rw [← hN] at hs hfit ⊢
  have hqle : N / 2 ^ j ≤ N := Nat.div_le_self _ _
  have hhalf : N / 2 ^ (j + 1) = N / 2 ^ j / 2 := by rw [Nat.pow_succ, Nat.div_div_eq_div_mul]
  obtain ⟨q, hq⟩ : ∃ q, q = N / 2 ^ j := ⟨_, rfl⟩
  rw [← hq] at hs hqle hhalf ⊢
  rw [hhalf] at hfit ⊢
  obtain ⟨z, hz⟩ : ∃ z, z = decide (N % 2 ^ j ≠ 0) := ⟨_, rfl⟩
  rw [← hz] at hs ⊢
  obtain ⟨A, hA⟩ : ∃ A, A = q / 18446744073709551616 := ⟨_, rfl⟩
  obtain ⟨B, hB⟩ : ∃ A, A = q % 18446744073709551616 := ⟨_, rfl⟩
  rw [← hA, ← hB] at hs
  have hAl : A < 18446744073709551616 := by omega
  have hBl : B < 18446744073709551616 := by omega
  have h2 := fun w1 => (show Calls Tryz.prog 179 #[.agg #[.int .u64 (A : Int), .int .u64 (B : Int)], .int .i64 63] w1 (RetB (.agg #[.int .u64 (((A * 18446744073709551616 + B) * 2 ^ 63 / 18446744073709551616 % 18446744073709551616 : Nat) : Int), .int .u64 (((A * 18446744073709551616 + B) * 2 ^ 63 % 18446744073709551616 : Nat) : Int)]) w1) from wi_shl_any A B 63 w1 hAl hBl (by omega))
  rw [show A * 18446744073709551616 + B = q by omega, show q * 2 ^ 63 / 18446744073709551616 % 18446744073709551616 = q / 2 by omega] at h2
  obtain ⟨H, hH⟩ : ∃ H, H = q / 2 := ⟨_, rfl⟩
  obtain ⟨C, hC⟩ : ∃ H, H = q * 2 ^ 63 % 18446744073709551616 := ⟨_, rfl⟩
  rw [← hH, ← hC] at h2
  rw [← hH]
  have hand := Fl.and_one64 B hBl
  rw [show B % 2 = q % 2 by omega] at hand
  obtain ⟨r, hr⟩ : ∃ r, r = q % 2 := ⟨_, rfl⟩
  rw [← hr] at hand ⊢
  have hr2 : r = 0 ∨ r = 1 := by omega
  have HS := Lib.hid hs; have H2 := Lib.hid h2
  have hji : ((j + 1 : Nat) : Int) - 1 = (j : Int) := by omega
  have hjp : decide (((j + 1 : Nat) : Int) ≤ 0) = false := decide_eq_false (by omega)
  obtain ⟨K, hK⟩ : ∃ K : Int, K = ((j + 1 : Nat) : Int) := ⟨_, rfl⟩
  rw [← hK] at hji hjp ⊢
  have hKb : 0 < K ∧ K ≤ 100000 := by omega
  obtain ⟨k1, k2⟩ := hKb
  clear hs h2 hA hB hH hC hr hz hq hhalf hN hK
  go_enter Tryz.func178, Tryz.ntmps178
  go_wp2_with (first
    | (go_at_call 180; (with_reducible refine (HS.out _).mono ?_); rintro e w1 ⟨rfl, hb_w1⟩; have hB_w1 : Below (w).heap.size (w) w1 := Below.trans (by (repeat (first | exact Below.refl _ _ | assumption | refine Below.setCell ?_ (by first | omega | (simp <;> omega)) _ | refine Below.alloc ?_ (by first | omega | (simp <;> omega)) _ | refine Below.drew ?_ | refine below_drewN' ?_ _))) (hb_w1.mono (by first | omega | (simp <;> omega))); obtain ⟨hc_w1, hf_w1⟩ := bcell hb_w1; have hz_w1 := hb_w1.size; (try simp only [zD, zN, zA, zS] at hz_w1); have hk := own6 hb_w1 (b) (by (try simp only [zD, zN, zA, zS]); omega); obtain ⟨hl0_w1, hm0_w1, hn0_w1, hq0_w1, hr0_w1, hg0_w1⟩ := hk))
  have hBX : Below w.heap.size w (w1.alloc (.cells #[.int .u64 A, .int .u64 B] 91)) := hB_w1.alloc hB_w1.size _
  have CX := C2.new w1 A B
  obtain ⟨X, hX⟩ : ∃ X, X = (w1.alloc (.cells #[.int .u64 A, .int .u64 B] 91)) := ⟨_, rfl⟩
  obtain ⟨g, hg⟩ : ∃ g, g = w1.heap.size := ⟨_, rfl⟩
  rw [← hX, ← hg] at CX
  rw [← hX] at hBX
  rw [← hX, ← hg]
  have x0 := CX.1.get 0 rfl
  have x1 := CX.1.get 1 rfl
  have xl := CX.1.1
  have bl := hBX.size
  have hrb : ((r : Int) == 1) = decide (r = 1) := by rcases hr2 with rfl | rfl <;> rfl
  clear hX hg CX hr0_w1 hg0_w1 hc_w1 hf_w1 c0 c1
  have hne0 := World.new_ne X _ x0
  have hne1 := World.new_ne X _ x1
  go_region_held3 (fun w' => w'.cell? ⟨g, 0, none⟩ = some (.int .u64 A) ∧ w'.cell? ⟨g, 1, none⟩ = some (.int .u64 B)) (first | go_keep | (refine ⟨?_, ?_⟩ <;> (first | (rw [hr0_w2]; assumption))) | (refine ⟨?_, ?_⟩ <;> (first | (go_simp; done) | (simp [go_sem, *]; done))))
    (first | (go_at_call 179; (with_reducible refine (H2.out _).mono ?_); rintro e w2 ⟨rfl, hb_w2⟩; have hB_w2 : Below (X).heap.size (X) w2 := Below.trans (by (repeat (first | exact Below.refl _ _ | assumption | refine Below.setCell ?_ (by first | omega | (simp <;> omega)) _ | refine Below.alloc ?_ (by first | omega | (simp <;> omega)) _ | refine Below.drew ?_ | refine below_drewN' ?_ _))) (hb_w2.mono (by first | omega | (simp <;> omega))); obtain ⟨hc_w2, hf_w2⟩ := bcell hb_w2; have hz_w2 := hb_w2.size; (try simp only [zD, zN, zA, zS] at hz_w2); have hk := own6 hb_w2 (g) (by (try simp only [zD, zN, zA, zS]); omega); obtain ⟨hl0_w2, hm0_w2, hn0_w2, hq0_w2, hr0_w2, hg0_w2⟩ := hk))
  all_goals (try go_wp2)
  all_goals (
    have hBW : Below w.heap.size w w2 := hBX.trans (hB_w2.mono bl)
    (refine bodyPost_ret (v := .tuple #[.int .u64 (H : Nat), .bool (decide (r = 1)), .bool z]) (by (simp [results, Tryz.results178, go_sem, hrb]; done)) rfl (RetB.of rfl (by (repeat (first | exact Below.refl _ _ | assumption | refine Below.setCell ?_ (by first | omega | (simp <;> omega)) _ | refine Below.alloc ?_ (by first | omega | (simp <;> omega)) _ | refine Below.drew ?_ | refine below_drewN' ?_ _))))))
theorem fl_settle_any (neg : Bool) (b hi lo : Nat) (e : Int) (more : Bool) (w : World) (c0 : w.cell? ⟨b, 0, none⟩ = some (.int .u64 hi)) (c1 : w.cell? ⟨b, 1, none⟩ = some (.int .u64 lo)) (hb : b < w.heap.size) (hh : hi < 18446744073709551616) (hl : lo < 18446744073709551616) (he : -10000 ≤ e ∧ e ≤ 2000) :
    Calls Tryz.prog 176 #[.bool neg, .int .i64 (Na.bitLen (hi * 18446744073709551616 + lo) : Nat), .int .i64 e, .bool more, .func (.func 178) #[] #[.pointer (some ⟨b, 0, none⟩)]] w (RetB (.int .u64 ((Fl.sgn neg + Fl.rd (hi * 18446744073709551616 + lo) e more : Nat) : Int)) w) := by
  obtain ⟨e1, e2⟩ := he
  have J1 := fun (t : Nat) (n : Int) (hn : n = -(t : Int)) (ht : t < 64) hfit w1 (k0 : w1.cell? ⟨b, 0, none⟩ = some (.int .u64 hi)) (k1 : w1.cell? ⟨b, 1, none⟩ = some (.int .u64 lo)) (kb : b < w1.heap.size) => fl_join1_up b hi lo t n w1 hn ht k0 k1 kb hh hl hfit
  have J2 := fun (k : Nat) (hk0 : 0 < k) (hk : k ≤ 100000) hfit w1 (k0 : w1.cell? ⟨b, 0, none⟩ = some (.int .u64 hi)) (k1 : w1.cell? ⟨b, 1, none⟩ = some (.int .u64 lo)) (kb : b < w1.heap.size) => fl_join1_down b hi lo k w1 hk0 hk k0 k1 kb hh hl hfit
  obtain ⟨N, hN⟩ : ∃ N, N = hi * 18446744073709551616 + lo := ⟨_, rfl⟩
  have hNl : N < 2 ^ 128 := by omega
  rw [← hN] at J1 J2 ⊢
  by_cases h0 : N = 0
  · subst h0
    have hf := fun w1 => fl_far_zero neg e w1 (by omega)
    have HF := Lib.hid hf
    rw [Fl.rd, if_pos rfl, Nat.add_zero, show Na.bitLen 0 = 0 from rfl]
    clear hf J1 J2 hN
    go_enter Tryz.func176, Tryz.ntmps176
    go_wp2_with (go_at_call 200; (with_reducible refine (HF.out _).mono ?_); rintro e w' ⟨rfl, rfl⟩)
    go_ret
    exact RetB.of rfl (by (repeat (first | exact Below.refl _ _ | assumption | refine Below.setCell ?_ (by first | omega | (simp <;> omega)) _ | refine Below.alloc ?_ (by first | omega | (simp <;> omega)) _ | refine Below.drew ?_ | refine below_drewN' ?_ _)))
  · obtain ⟨bl1, bl2, bl3⟩ := Fl.bitLen_ge h0
    have hLl : Na.bitLen N ≤ 128 := Na.bitLen_le' hNl
    have hu : Fl.ulp N e = max (e + (Na.bitLen N : Int) - 53) (-1074) := rfl
    have hkb := fun k hk hk0 => Fl.kept_bounds (e := e) h0 k hk hk0
    have hub := fun t ht => Fl.up_bounds (e := e) h0 t ht
    have hrb := (Fl.rdm_bounds (e := e) h0 more).1
    obtain ⟨L, hL⟩ : ∃ L, L = Na.bitLen N := ⟨_, rfl⟩
    rw [← hL] at hu hLl bl3 ⊢
    have HF := Lib.hid (fun w1 => fl_far_no neg L e w1 (by omega) ⟨e1, e2⟩)
    have hun := fun w1 => fl_unit_any L e w1 (by omega) (by omega)
    rw [← hu] at hun
    obtain ⟨u, hue⟩ : ∃ u, u = Fl.ulp N e := ⟨_, rfl⟩
    rw [← hue] at hun hu hkb hub hrb
    have hrd := Fl.rd_of (more := more) h0 hue rfl
    obtain ⟨M, hM⟩ : ∃ M, M = Fl.rdm N (u - e) more := ⟨_, rfl⟩
    rw [← hM] at hrd hrb
    have hul : -1074 ≤ u ∧ u ≤ 100000 := by omega
    have HP := Lib.hid (fun w1 => fl_pack_any neg M u w1 hrb hul)
    have HU := Lib.hid hun
    have hpk : Fl.rd N e more = Fl.pk M u := by rw [hrd, Fl.pk]
    rw [hpk]
    obtain ⟨D, hD⟩ : ∃ D, D = Fl.sgn neg + Fl.pk M u := ⟨_, rfl⟩
    rw [← hD] at HP ⊢
    obtain ⟨hul1, hul2⟩ := hul
    by_cases hk : u ≤ e
    · obtain ⟨t, ht⟩ : ∃ t : Nat, t = (e - u).toNat := ⟨_, rfl⟩
      obtain ⟨k1, -⟩ := hub t (by omega)
      have ht64 : t < 64 := by
        rcases Nat.lt_or_ge t 64 with h | h
        · exact h
        · have h1 : 2 ^ 64 ≤ 2 ^ t := Nat.pow_le_pow_right (by decide) h
          have h2 : 1 * 2 ^ t ≤ N * 2 ^ t := Nat.mul_le_mul_right _ (by omega)
          omega
      have hMe : M = N * 2 ^ t := by rw [hM, Fl.rdm, if_pos (by omega), show (-(u - e)).toNat = t by omega]
      have HJ := Lib.hid (J1 t (u - e) (by omega) ht64 (by omega))
      rw [← hMe] at HJ k1
      obtain ⟨d, hd⟩ : ∃ d, d = u - e := ⟨_, rfl⟩
      rw [← hd] at HJ
      have hdb : -100000 ≤ d ∧ d ≤ 0 := by omega
      have hde : u - e = d := hd.symm
      clear hd hun J1 J2 hkb hub hrd hM hMe hD hL hue bl1 bl2 hu hpk hN ht
      go_enter Tryz.func176, Tryz.ntmps176
      go_wp2_with (first
        | (go_at_call 200; (with_reducible refine (HF.out _).mono ?_); rintro e w' ⟨rfl, rfl⟩)
        | (go_at_call 201; (with_reducible refine (HU.out _).mono ?_); rintro e w' ⟨rfl, rfl⟩)
        | (go_at_call 178; (with_reducible refine (HJ.out _ (by assumption) (by assumption) (by omega)).mono ?_); rintro e w1 ⟨rfl, hb_w1⟩; have hB_w1 : Below (w).heap.size (w) w1 := Below.trans (by (repeat (first | exact Below.refl _ _ | assumption | refine Below.setCell ?_ (by first | omega | (simp <;> omega)) _ | refine Below.alloc ?_ (by first | omega | (simp <;> omega)) _ | refine Below.drew ?_ | refine below_drewN' ?_ _))) (hb_w1.mono (by first | omega | (simp <;> omega))); obtain ⟨hc_w1, hf_w1⟩ := bcell hb_w1; have hz_w1 := hb_w1.size; (try simp only [zD, zN, zA, zS] at hz_w1); have hk := own6 hb_w1 (b) (by (try simp only [zD, zN, zA, zS]); omega); obtain ⟨hl0_w1, hm0_w1, hn0_w1, hq0_w1, hr0_w1, hg0_w1⟩ := hk)
        | (go_at_call 202; (with_reducible refine (HP.out _).mono ?_); rintro e w' ⟨rfl, rfl⟩))
      go_ret
      exact RetB.of rfl (by (repeat (first | exact Below.refl _ _ | assumption | refine Below.setCell ?_ (by first | omega | (simp <;> omega)) _ | refine Below.alloc ?_ (by first | omega | (simp <;> omega)) _ | refine Below.drew ?_ | refine below_drewN' ?_ _)))
    · obtain ⟨k, hkk⟩ : ∃ k : Nat, k = (u - e).toNat := ⟨_, rfl⟩
      have hki : u - e = (k : Int) := by omega
      have hk0 : 0 < k := by omega
      obtain ⟨k1, -⟩ := hkb k (by omega) hk0
      have HJ := Lib.hid (J2 k hk0 (by omega) (by omega))
      have hM2 : M = N / 2 ^ k + (decide (N / 2 ^ (k - 1) % 2 = 1) && (decide (N % 2 ^ (k - 1) ≠ 0) || more || decide (N / 2 ^ k % 2 = 1))).toNat := by
        rw [hM, Fl.rdm, if_neg (by omega), ← hkk, Fl.upw]
      obtain ⟨q, hq⟩ : ∃ q, q = N / 2 ^ k := ⟨_, rfl⟩
      obtain ⟨half, hhf⟩ : ∃ b, b = decide (N / 2 ^ (k - 1) % 2 = 1) := ⟨_, rfl⟩
      obtain ⟨rest, hrs⟩ : ∃ b, b = decide (N % 2 ^ (k - 1) ≠ 0) := ⟨_, rfl⟩
      rw [← hq, ← hhf, ← hrs] at HJ hM2
      rw [← hq] at k1
      have HM2 := Lib.hid hM2
      have hand : Go.bits BinOp.and IntKind.u64 (q : Int) 1 = ((q % 2 : Nat) : Int) := Fl.and_one64 q (by omega)
      have hqm : q % 2 = 1 ∨ q % 2 = 0 := by omega
      have hkl : k ≤ 100000 := by omega
      clear hun J1 J2 hkb hub hrd hM hM2 hD hL hue bl1 bl2 hu hpk hN hkk hq hhf hrs
      have walk : ∀ (r : Nat) (c : Bool), r = q % 2 → c = (half && (rest || more || decide (r = 1))) → M = q + c.toNat → Calls Tryz.prog 176 #[.bool neg, .int .i64 (L : Nat), .int .i64 e, .bool more, .func (.func 178) #[] #[.pointer (some ⟨b, 0, none⟩)]] w (RetB (.int .u64 ((D : Nat) : Int)) w) := by
        intro r c hr hc hMr
        clear HM2
        rw [← hr] at hand hqm
        clear hr
        cases c
        · have e : M = q := hMr
          clear hMr
          subst e
          cases half <;> cases rest <;> cases more <;> rcases hqm with rfl | rfl
          all_goals first
            | (exfalso; revert hc; decide; done)
            | skip
          all_goals (
            clear hc
            go_enter Tryz.func176, Tryz.ntmps176
            go_wp2_with (first
              | (go_at_call 200; (with_reducible refine (HF.out _).mono ?_); rintro e w' ⟨rfl, rfl⟩)
              | (go_at_call 201; (with_reducible refine (HU.out _).mono ?_); rintro e w' ⟨rfl, rfl⟩)
              | (go_at_call 178; (with_reducible refine (HJ.out _ (by assumption) (by assumption) (by omega)).mono ?_); rintro e w1 ⟨rfl, hb_w1⟩; have hB_w1 : Below (w).heap.size (w) w1 := Below.trans (by (repeat (first | exact Below.refl _ _ | assumption | refine Below.setCell ?_ (by first | omega | (simp <;> omega)) _ | refine Below.alloc ?_ (by first | omega | (simp <;> omega)) _ | refine Below.drew ?_ | refine below_drewN' ?_ _))) (hb_w1.mono (by first | omega | (simp <;> omega))); obtain ⟨hc_w1, hf_w1⟩ := bcell hb_w1; have hz_w1 := hb_w1.size; (try simp only [zD, zN, zA, zS] at hz_w1); have hk := own6 hb_w1 (b) (by (try simp only [zD, zN, zA, zS]); omega); obtain ⟨hl0_w1, hm0_w1, hn0_w1, hq0_w1, hr0_w1, hg0_w1⟩ := hk)
              | (go_at_call 202; (with_reducible refine (HP.out _).mono ?_); rintro e w' ⟨rfl, rfl⟩))
            go_ret
            exact RetB.of rfl (by (repeat (first | exact Below.refl _ _ | assumption | refine Below.setCell ?_ (by first | omega | (simp <;> omega)) _ | refine Below.alloc ?_ (by first | omega | (simp <;> omega)) _ | refine Below.drew ?_ | refine below_drewN' ?_ _))))
        · have e : (q : Int) + 1 = (M : Int) := by have : M = q + 1 := hMr; omega
          clear hMr
          cases half <;> cases rest <;> cases more <;> rcases hqm with rfl | rfl
          all_goals first
            | (exfalso; revert hc; decide; done)
            | skip
          all_goals (
            clear hc
            go_enter Tryz.func176, Tryz.ntmps176
            go_wp2_with (first
              | (go_at_call 200; (with_reducible refine (HF.out _).mono ?_); rintro e w' ⟨rfl, rfl⟩)
              | (go_at_call 201; (with_reducible refine (HU.out _).mono ?_); rintro e w' ⟨rfl, rfl⟩)
              | (go_at_call 178; (with_reducible refine (HJ.out _ (by assumption) (by assumption) (by omega)).mono ?_); rintro e w1 ⟨rfl, hb_w1⟩; have hB_w1 : Below (w).heap.size (w) w1 := Below.trans (by (repeat (first | exact Below.refl _ _ | assumption | refine Below.setCell ?_ (by first | omega | (simp <;> omega)) _ | refine Below.alloc ?_ (by first | omega | (simp <;> omega)) _ | refine Below.drew ?_ | refine below_drewN' ?_ _))) (hb_w1.mono (by first | omega | (simp <;> omega))); obtain ⟨hc_w1, hf_w1⟩ := bcell hb_w1; have hz_w1 := hb_w1.size; (try simp only [zD, zN, zA, zS] at hz_w1); have hk := own6 hb_w1 (b) (by (try simp only [zD, zN, zA, zS]); omega); obtain ⟨hl0_w1, hm0_w1, hn0_w1, hq0_w1, hr0_w1, hg0_w1⟩ := hk)
              | (go_at_call 202; (with_reducible refine (HP.out _).mono ?_); rintro e w' ⟨rfl, rfl⟩))
            go_ret
            exact RetB.of rfl (by (repeat (first | exact Below.refl _ _ | assumption | refine Below.setCell ?_ (by first | omega | (simp <;> omega)) _ | refine Below.alloc ?_ (by first | omega | (simp <;> omega)) _ | refine Below.drew ?_ | refine below_drewN' ?_ _))))
      exact walk _ _ rfl rfl HM2.out
end Go.Proofs.YtiglekomfgfilaaGreatDoor

/- binary64 in the program: a number of two words, times a power of two, is rounded (3): Join. -/
namespace Go.Proofs.YtiglekomfgfilaaGreatDoor
set_option linter.all false
open Go.RowKit
theorem fl_join_any (neg : Bool) (hi lo : Nat) (e : Int) (more : Bool) (w : World) (hh : hi < 18446744073709551616) (hl : lo < 18446744073709551616) (he : -10000 ≤ e ∧ e ≤ 2000) :
    Calls Tryz.prog 146 #[.bool neg, .agg #[.int .u64 hi, .int .u64 lo], .int .i64 e, .bool more] w (RetB (.int .u64 ((Fl.sgn neg + Fl.rd (hi * 18446744073709551616 + lo) e more : Nat) : Int)) w) := by
  have HL := Lib.hid (fun w1 => wi_len_any hi lo w1 hh hl)
  have HS := Lib.hid (fun w1 c0 c1 hb => fl_settle_any neg w.heap.size hi lo e more w1 c0 c1 hb hh hl he)
  obtain ⟨L, hL⟩ : ∃ L, L = Na.bitLen (hi * 18446744073709551616 + lo) := ⟨_, rfl⟩
  rw [← hL] at HL HS
  obtain ⟨D, hD⟩ : ∃ D, D = Fl.sgn neg + Fl.rd (hi * 18446744073709551616 + lo) e more := ⟨_, rfl⟩
  rw [← hD] at HS ⊢
  clear hL hD
  go_enter Tryz.func146, Tryz.ntmps146
  go_wp2_with (first
    | (go_at_call 177; (with_reducible refine (HL.out _).mono ?_); rintro e w1 ⟨rfl, hb_w1⟩; have hB_w1 : Below (w).heap.size (w) w1 := Below.trans (by (repeat (first | exact Below.refl _ _ | assumption | refine Below.setCell ?_ (by first | omega | (simp <;> omega)) _ | refine Below.alloc ?_ (by first | omega | (simp <;> omega)) _ | refine Below.drew ?_ | refine below_drewN' ?_ _))) (hb_w1.mono (by first | omega | (simp <;> omega))); obtain ⟨hc_w1, hf_w1⟩ := bcell hb_w1; have hz_w1 := hb_w1.size; (try simp only [zD, zN, zA, zS] at hz_w1); have hk := own6 hb_w1 (w.heap.size) (by (try simp only [zD, zN, zA, zS]); omega); obtain ⟨hl0_w1, hm0_w1, hn0_w1, hq0_w1, hr0_w1, hg0_w1⟩ := hk; have cc := (C2.new w hi lo).on hb_w1; have cc0 := cc.1.get 0 rfl; have cc1 := cc.1.get 1 rfl; have ccl := cc.1.1)
    | (go_loud (go_at_call 176; (with_reducible refine (HS.out _ cc0 cc1 ccl).mono ?_); rintro e w2 ⟨rfl, hb_w2⟩; have hB_w2 : Below (w).heap.size (w) w2 := Below.trans (by (repeat (first | exact Below.refl _ _ | assumption | refine Below.setCell ?_ (by first | omega | (simp <;> omega)) _ | refine Below.alloc ?_ (by first | omega | (simp <;> omega)) _ | refine Below.drew ?_ | refine below_drewN' ?_ _))) (hb_w2.mono (by first | omega | (simp <;> omega))); obtain ⟨hc_w2, hf_w2⟩ := bcell hb_w2; have hz_w2 := hb_w2.size; (try simp only [zD, zN, zA, zS] at hz_w2))))
  go_ret
  exact RetB.of rfl (by (repeat (first | exact Below.refl _ _ | assumption | refine Below.setCell ?_ (by first | omega | (simp <;> omega)) _ | refine Below.alloc ?_ (by first | omega | (simp <;> omega)) _ | refine Below.drew ?_ | refine below_drewN' ?_ _)))
end Go.Proofs.YtiglekomfgfilaaGreatDoor

/- Plain Lean: two words take in a limb more. -/
namespace Go.Proofs.YtiglekomfgfilaaGreatDoor.Fl
set_option linter.all false
open Go
theorem limb_in {A d : Nat} (hd : d < 4294967296) : Go.bits BinOp.or IntKind.u64 ((A * 2 ^ 32 % 18446744073709551616 : Nat) : Int) (d : Int) = (((A * 4294967296 + d) % 18446744073709551616 : Nat) : Int) ∧
    (A * 4294967296 + d) / 18446744073709551616 % 18446744073709551616 = A * 2 ^ 32 / 18446744073709551616 % 18446744073709551616 := by
  have e : (2 : Nat) ^ 32 = 4294967296 := by decide
  rw [e]
  obtain ⟨L, hL⟩ : ∃ L, L = A * 4294967296 % 18446744073709551616 := ⟨_, rfl⟩
  have h0 : L % 4294967296 = 0 := by omega
  have hl : L + d < 18446744073709551616 := by omega
  have hs : (A * 4294967296 + d) % 18446744073709551616 = L + d := by omega
  rw [← hL, hs]
  refine ⟨or_words (n := 32) (by rw [e]; exact h0) (by rw [e]; exact hd) hl, by omega⟩
theorem limb_step {A d hi lo : Nat} (hh : hi = A / 18446744073709551616 % 18446744073709551616) (hl : lo = A % 18446744073709551616) (hd : d < 4294967296) :
    (hi * 18446744073709551616 + lo) * 2 ^ 32 / 18446744073709551616 % 18446744073709551616 = (A * 4294967296 + d) / 18446744073709551616 % 18446744073709551616 ∧
    Go.bits BinOp.or IntKind.u64 (((hi * 18446744073709551616 + lo) * 2 ^ 32 % 18446744073709551616 : Nat) : Int) (d : Int) = (((A * 4294967296 + d) % 18446744073709551616 : Nat) : Int) := by
  obtain ⟨W, hW⟩ : ∃ W, W = hi * 18446744073709551616 + lo := ⟨_, rfl⟩
  obtain ⟨h1, h2⟩ := limb_in (A := W) hd
  have k1 : W * 2 ^ 32 = W * 4294967296 := rfl
  rw [← hW, h1, ← h2, k1]
  clear h1 h2 k1
  constructor
  · omega
  · exact congrArg Int.ofNat (by omega)
end Go.Proofs.YtiglekomfgfilaaGreatDoor.Fl
