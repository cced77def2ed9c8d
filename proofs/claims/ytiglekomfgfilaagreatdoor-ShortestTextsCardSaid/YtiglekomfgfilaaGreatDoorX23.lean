/- Products of binary64 in the program, of two numbers that are neither too small nor too great. -/
import Derived.Test.YtiglekomfgfilaaGreatDoorX10
import Derived.Test.YtiglekomfgfilaaGreatDoorX9
import Derived.Test.YtiglekomfgfilaaGreatDoorX8
import Derived.Test.YtiglekomfgfilaaGreatDoorX22
import Derived.Test.YtiglekomfgfilaaGreatDoorX13
namespace Go.Proofs.YtiglekomfgfilaaGreatDoor
set_option maxRecDepth 100000
set_option maxHeartbeats 4000000
set_option linter.all false
open Go.RowKit
theorem ar_table (w : World) : (Instr.index 232 (.agg #[.int .i64 0, .int .i64 1, .int .i64 1, .int .i64 2, .int .i64 3]) (.int .i64 2)).run Tryz.prog w = .ok (.int .i64 1) w := by kernel_rfl
attribute [local go_sem] ar_table
theorem ar_kind_two (x : Nat) (w : World) (hx : x < 18446744073709551616) (hk : Fl.kind x = 2) : Calls Tryz.prog 181 #[.int .u64 x] w (RetB (.int .i64 1) w) := by
  have h := fun w1 => fl_kind_any x hx w1
  rw [hk] at h
  have H := Lib.hid (fun w1 => (h w1 : Calls Tryz.prog 62 #[.int .u64 x] w1 (Ret0 (.int .i64 2) w1)))
  clear h hk
  go_enter Tryz.func181, Tryz.ntmps181
  go_wp2_with (go_at_call 62; (with_reducible refine (H.out _).mono ?_); rintro e w' ⟨rfl, rfl⟩)
  go_ret
  exact RetB.of rfl (by (repeat (first | exact Below.refl _ _ | assumption | refine Below.setCell ?_ (by first | omega | (simp <;> omega)) _ | refine Below.alloc ?_ (by first | omega | (simp <;> omega)) _ | refine Below.drew ?_ | refine below_drewN' ?_ _)))
theorem ar_muls_two (x y : Nat) (w : World) (hx : x < 18446744073709551616) (hk : Fl.kind x = 2) (hy : y < 18446744073709551616) (hj : Fl.kind y = 2) : Calls Tryz.prog 148 #[.int .u64 x, .int .u64 y] w (RetB (.int .i64 0) w) := by
  have H := Lib.hid (fun w1 => ar_kind_two x w1 hx hk)
  have J := Lib.hid (fun w1 => ar_kind_two y w1 hy hj)
  clear hk hj
  go_enter Tryz.func148, Tryz.ntmps148
  go_upto_region 2 with (fail)
  have hmk : ∀ w0 : World, w0 = w0 := fun _ => rfl
  obtain ⟨X, hX⟩ : ∃ X, X = w.alloc (Obj.cells #[Value.int IntKind.i64 6, Value.int IntKind.i64 6, Value.int IntKind.i64 1, Value.int IntKind.i64 1, Value.int IntKind.i64 6, Value.int IntKind.i64 0, Value.int IntKind.i64 5, Value.int IntKind.i64 1, Value.int IntKind.i64 1, Value.int IntKind.i64 5, Value.int IntKind.i64 5, Value.int IntKind.i64 1, Value.int IntKind.i64 1, Value.int IntKind.i64 1, Value.int IntKind.i64 1, Value.int IntKind.i64 1] 209) := ⟨_, rfl⟩
  have x5 : X.cell? ⟨w.heap.size, 5, none⟩ = some (.int .i64 0) := by rw [hX]; simp [go_sem]
  have hBX : Below w.heap.size w X := by rw [hX]; exact (Below.refl _ _).alloc (Nat.le_refl _) _
  have xl : w.heap.size < X.heap.size := by rw [hX]; simp
  rw [← hX]
  clear hX hmk
  have bl := hBX.size
  obtain ⟨g, hg⟩ : ∃ g, g = w.heap.size := ⟨_, rfl⟩
  rw [← hg] at x5 xl
  rw [← hg]
  have HG := Lib.hid hg
  clear hg
  have HBX := Lib.hid hBX
  clear hBX
  go_region_held3 (fun w' => w'.cell? ⟨g, 5, none⟩ = some (.int .i64 0)) (first | go_keep | ((first | (rw [hr0_w1]; assumption) | (rw [hr0_w2]; assumption))) | (first | (go_simp; done) | (simp [go_sem, *]; done)))
    (first | (go_at_call 181; (with_reducible refine (H.out _).mono ?_); rintro e w1 ⟨rfl, hb_w1⟩; have hB_w1 : Below (X).heap.size (X) w1 := Below.trans (by (repeat (first | exact Below.refl _ _ | assumption | refine Below.setCell ?_ (by first | omega | (simp <;> omega)) _ | refine Below.alloc ?_ (by first | omega | (simp <;> omega)) _ | refine Below.drew ?_ | refine below_drewN' ?_ _))) (hb_w1.mono (by first | omega | (simp <;> omega))); obtain ⟨hc_w1, hf_w1⟩ := bcell hb_w1; have hz_w1 := hb_w1.size; (try simp only [zD, zN, zA, zS] at hz_w1); have hk := own6 hb_w1 (g) (by (try simp only [zD, zN, zA, zS]); omega); obtain ⟨hl0_w1, hm0_w1, hn0_w1, hq0_w1, hr0_w1, hg0_w1⟩ := hk) | (go_at_call 181; (with_reducible refine (J.out _).mono ?_); rintro e w2 ⟨rfl, hb_w2⟩; have hB_w2 : Below (X).heap.size (X) w2 := Below.trans (by (repeat (first | exact Below.refl _ _ | assumption | refine Below.setCell ?_ (by first | omega | (simp <;> omega)) _ | refine Below.alloc ?_ (by first | omega | (simp <;> omega)) _ | refine Below.drew ?_ | refine below_drewN' ?_ _))) (hb_w2.mono (by first | omega | (simp <;> omega))); obtain ⟨hc_w2, hf_w2⟩ := bcell hb_w2; have hz_w2 := hb_w2.size; (try simp only [zD, zN, zA, zS] at hz_w2); have hk := own6 hb_w2 (g) (by (try simp only [zD, zN, zA, zS]); omega); obtain ⟨hl0_w2, hm0_w2, hn0_w2, hq0_w2, hr0_w2, hg0_w2⟩ := hk))
  all_goals (try go_wp2)
  all_goals (
    have hBW : Below w.heap.size w w2 := by first | exact HBX.out.trans (Below.mono (hB_w1.trans (hB_w2.mono hB_w1.size)) bl) | exact HBX.out.trans (Below.mono (hB_w2.trans (hB_w1.mono hB_w2.size)) bl) | exact HBX.out.trans (Below.mono hB_w2 bl)
    go_ret
    exact RetB.of rfl (by (repeat (first | exact Below.refl _ _ | assumption | refine Below.setCell ?_ (by first | omega | (simp <;> omega)) _ | refine Below.alloc ?_ (by first | omega | (simp <;> omega)) _ | refine Below.drew ?_ | refine below_drewN' ?_ _))))
theorem ar_mul_two (x y : Nat) (w : World) (hx : x < 9218868437227405312) (hk : Fl.kind x = 2) (hy : y < 9218868437227405312) (hj : Fl.kind y = 2) :
    Calls Tryz.prog 124 #[.int .u64 x, .int .u64 y] w (RetB (.int .u64 ((Fl.rd (Fl.mant x * Fl.mant y) (Fl.expn x + Fl.expn y) false : Nat) : Int)) w) := by
  have H1 := Lib.hid (fun w1 => ar_muls_two x y w1 (by omega) hk (by omega) hj)
  have h2 := fun w1 => fl_split_any x (by omega) w1
  have h3 := fun w1 => fl_split_any y (by omega) w1
  have hb1 := Fl.expn_bound x
  have hb2 := Fl.expn_bound y
  have hm1 := Fl.mant_lt x
  have hm2 := Fl.mant_lt y
  rw [show Fl.neg x = false from decide_eq_false (by omega)] at h2
  rw [show Fl.neg y = false from decide_eq_false (by omega)] at h3
  obtain ⟨A, hA⟩ : ∃ A, A = Fl.mant x := ⟨_, rfl⟩
  obtain ⟨B, hB⟩ : ∃ A, A = Fl.mant y := ⟨_, rfl⟩
  obtain ⟨C, hC⟩ : ∃ A, A = Fl.expn x := ⟨_, rfl⟩
  obtain ⟨D, hD⟩ : ∃ A, A = Fl.expn y := ⟨_, rfl⟩
  rw [← hA, ← hC] at h2
  rw [← hB, ← hD] at h3
  rw [← hC] at hb1
  rw [← hD] at hb2
  rw [← hA] at hm1
  rw [← hB] at hm2
  rw [← hA, ← hB, ← hC, ← hD]
  have h4 := fun w1 => wi_mul_any A B w1 (by omega) (by omega)
  have he : -10000 ≤ C + D ∧ C + D ≤ 2000 := by omega
  have hAB : A * B < 340282366920938463463374607431768211456 := by
    have := Nat.mul_le_mul (show A ≤ 18446744073709551615 by omega) (show B ≤ 18446744073709551615 by omega)
    omega
  obtain ⟨P, hP⟩ : ∃ P, P = A * B := ⟨_, rfl⟩
  rw [← hP] at h4 hAB ⊢
  have h5 := fun w1 => fl_join_any false (P / 18446744073709551616) (P % 18446744073709551616) (C + D) false w1 (by omega) (by omega) he
  rw [show P / 18446744073709551616 * 18446744073709551616 + P % 18446744073709551616 = P by omega, show Fl.sgn false = 0 from rfl, Nat.zero_add] at h5
  obtain ⟨U, hU⟩ : ∃ U, U = P / 18446744073709551616 := ⟨_, rfl⟩
  obtain ⟨V, hV⟩ : ∃ U, U = P % 18446744073709551616 := ⟨_, rfl⟩
  rw [← hU, ← hV] at h4 h5
  obtain ⟨R, hR⟩ : ∃ R, R = Fl.rd P (C + D) false := ⟨_, rfl⟩
  rw [← hR] at h5 ⊢
  obtain ⟨E, hE⟩ : ∃ E, E = C + D := ⟨_, rfl⟩
  rw [← hE] at h5
  have hEs : C + D = E := hE.symm
  have H2 := Lib.hid h2; have H3 := Lib.hid h3; have H4 := Lib.hid h4; have H5 := Lib.hid h5
  have x63 : (x : Int) / 9223372036854775808 = 0 := by omega
  have y63 : (y : Int) / 9223372036854775808 = 0 := by omega
  obtain ⟨c1, c2⟩ := hb1
  obtain ⟨d1, d2⟩ := hb2
  clear h2 h3 h4 h5 hA hB hC hD hP hU hV hR hE hk hj hAB he
  go_enter Tryz.func124, Tryz.ntmps124
  go_wp2_with (first
    | (go_at_call 148; (with_reducible refine (H1.out _).mono ?_); rintro e w1 ⟨rfl, hb_w1⟩; have hB_w1 : Below (w).heap.size (w) w1 := Below.trans (by (repeat (first | exact Below.refl _ _ | assumption | refine Below.setCell ?_ (by first | omega | (simp <;> omega)) _ | refine Below.alloc ?_ (by first | omega | (simp <;> omega)) _ | refine Below.drew ?_ | refine below_drewN' ?_ _))) (hb_w1.mono (by first | omega | (simp <;> omega))); obtain ⟨hc_w1, hf_w1⟩ := bcell hb_w1; have hz_w1 := hb_w1.size; (try simp only [zD, zN, zA, zS] at hz_w1))
    | (go_at_call 63; (with_reducible refine (H2.out _).mono ?_); rintro e w' ⟨rfl, rfl⟩)
    | (go_at_call 63; (with_reducible refine (H3.out _).mono ?_); rintro e w' ⟨rfl, rfl⟩)
    | (go_at_call 149; (with_reducible refine (H4.out _).mono ?_); rintro e w2 ⟨rfl, hb_w2⟩; have hB_w2 : Below (w).heap.size (w) w2 := Below.trans (by (repeat (first | exact Below.refl _ _ | assumption | refine Below.setCell ?_ (by first | omega | (simp <;> omega)) _ | refine Below.alloc ?_ (by first | omega | (simp <;> omega)) _ | refine Below.drew ?_ | refine below_drewN' ?_ _))) (hb_w2.mono (by first | omega | (simp <;> omega))); obtain ⟨hc_w2, hf_w2⟩ := bcell hb_w2; have hz_w2 := hb_w2.size; (try simp only [zD, zN, zA, zS] at hz_w2))
    | (go_at_call 146; (with_reducible refine (H5.out _).mono ?_); rintro e w3 ⟨rfl, hb_w3⟩; have hB_w3 : Below (w).heap.size (w) w3 := Below.trans (by (repeat (first | exact Below.refl _ _ | assumption | refine Below.setCell ?_ (by first | omega | (simp <;> omega)) _ | refine Below.alloc ?_ (by first | omega | (simp <;> omega)) _ | refine Below.drew ?_ | refine below_drewN' ?_ _))) (hb_w3.mono (by first | omega | (simp <;> omega))); obtain ⟨hc_w3, hf_w3⟩ := bcell hb_w3; have hz_w3 := hb_w3.size; (try simp only [zD, zN, zA, zS] at hz_w3)))
  go_ret
  exact RetB.of rfl (by (repeat (first | exact Below.refl _ _ | assumption | refine Below.setCell ?_ (by first | omega | (simp <;> omega)) _ | refine Below.alloc ?_ (by first | omega | (simp <;> omega)) _ | refine Below.drew ?_ | refine below_drewN' ?_ _)))
end Go.Proofs.YtiglekomfgfilaaGreatDoor

/- A natural as binary64 in the program. -/
namespace Go.Proofs.YtiglekomfgfilaaGreatDoor
set_option maxRecDepth 100000
set_option linter.all false
open Go.RowKit
theorem wh_size_nat (v : Nat) (w : World) (hv : v < 9223372036854775808) : Calls Tryz.prog 147 #[.int .i64 v] w (RetB (.int .u64 v) w) := by
  go_enter Tryz.func147, Tryz.ntmps147
  go_wp2
  go_ret
  exact RetB.of rfl (by (repeat (first | exact Below.refl _ _ | assumption | refine Below.setCell ?_ (by first | omega | (simp <;> omega)) _ | refine Below.alloc ?_ (by first | omega | (simp <;> omega)) _ | refine Below.drew ?_ | refine below_drewN' ?_ _)))
theorem wh_from_nat (v : Nat) (w : World) (hv : v < 9223372036854775808) : Calls Tryz.prog 123 #[.int .i64 v] w (RetB (.int .u64 ((Fl.rd v 0 false : Nat) : Int)) w) := by
  have H1 := Lib.hid (fun w1 => wh_size_nat v w1 hv)
  have h2 := fun w1 => fl_join_any false 0 v 0 false w1 (by omega) (by omega) (by omega)
  rw [Nat.zero_mul, Nat.zero_add, show Fl.sgn false = 0 from rfl, Nat.zero_add] at h2
  obtain ⟨R, hR⟩ : ∃ R, R = Fl.rd v 0 false := ⟨_, rfl⟩
  rw [← hR] at h2 ⊢
  have H2 := Lib.hid (fun w1 => (show Calls Tryz.prog 146 #[.bool false, .agg #[.int .u64 0, .int .u64 v], .int .i64 0, .bool false] w1 (RetB (.int .u64 (R : Nat)) w1) from h2 w1))
  have hneg : decide ((v : Int) < 0) = false := decide_eq_false (by omega)
  clear h2 hR
  go_enter Tryz.func123, Tryz.ntmps123
  go_wp2_with (first
    | (go_at_call 147; (with_reducible refine (H1.out _).mono ?_); rintro e w1 ⟨rfl, hb_w1⟩; have hB_w1 : Below (w).heap.size (w) w1 := Below.trans (by (repeat (first | exact Below.refl _ _ | assumption | refine Below.setCell ?_ (by first | omega | (simp <;> omega)) _ | refine Below.alloc ?_ (by first | omega | (simp <;> omega)) _ | refine Below.drew ?_ | refine below_drewN' ?_ _))) (hb_w1.mono (by first | omega | (simp <;> omega))); obtain ⟨hc_w1, hf_w1⟩ := bcell hb_w1; have hz_w1 := hb_w1.size; (try simp only [zD, zN, zA, zS] at hz_w1))
    | (go_at_call 146; (with_reducible refine (H2.out _).mono ?_); rintro e w2 ⟨rfl, hb_w2⟩; have hB_w2 : Below (w).heap.size (w) w2 := Below.trans (by (repeat (first | exact Below.refl _ _ | assumption | refine Below.setCell ?_ (by first | omega | (simp <;> omega)) _ | refine Below.alloc ?_ (by first | omega | (simp <;> omega)) _ | refine Below.drew ?_ | refine below_drewN' ?_ _))) (hb_w2.mono (by first | omega | (simp <;> omega))); obtain ⟨hc_w2, hf_w2⟩ := bcell hb_w2; have hz_w2 := hb_w2.size; (try simp only [zD, zN, zA, zS] at hz_w2)))
  go_ret
  exact RetB.of rfl (by (repeat (first | exact Below.refl _ _ | assumption | refine Below.setCell ?_ (by first | omega | (simp <;> omega)) _ | refine Below.alloc ?_ (by first | omega | (simp <;> omega)) _ | refine Below.drew ?_ | refine below_drewN' ?_ _)))
end Go.Proofs.YtiglekomfgfilaaGreatDoor

/- Plain Lean: a natural as binary64 is a normal number; powers of ten step by step. -/
namespace Go.Proofs.YtiglekomfgfilaaGreatDoor
set_option linter.all false
open Go
theorem Fl.kind_two {x X : Nat} (hx : x < 9218868437227405312) (h : Fl.V x = X * 2 ^ Fl.low) (h0 : 0 < X) : Fl.kind x = 2 := by
  obtain ⟨k3, -, hV⟩ := Fl.parts_of hx
  rcases Fl.parts x with ⟨k, m, e⟩ | ⟨k, m, e⟩ | ⟨k, m, e⟩
  · exfalso
    rw [h, m, e, show ((-1074 : Int) + 1074).toNat = 0 by decide, Nat.pow_zero, Nat.mul_one] at hV
    have hf : Fl.frac x < 2 ^ 52 := by unfold Fl.frac; omega
    have h1 : 2 ^ 52 ≤ 2 ^ Fl.low := Nat.pow_le_pow_right (by decide) (by unfold Fl.low; omega)
    have h2 := Nat.mul_le_mul_right (2 ^ Fl.low) (show 1 ≤ X from h0)
    rw [Nat.one_mul] at h2
    omega
  · exact k
  · omega
theorem Fl.ten_kind {i : Nat} (hi : i ≤ 22) : Fl.kind (Fl.rd (10 ^ i) 0 false) = 2 := by
  obtain ⟨h1, h2⟩ := Fl.ten_exact hi
  exact Fl.kind_two h2 h1 (Nat.pow_pos (by decide))
theorem Fl.nat_kind {m : Nat} (h0 : 0 < m) (hm : m < 9007199254740992) : Fl.kind (Fl.rd m 0 false) = 2 := by
  obtain ⟨h1, h2⟩ := Fl.nat_exact hm
  exact Fl.kind_two h2 h1 h0
end Go.Proofs.YtiglekomfgfilaaGreatDoor

/- The Reader in the program: the size of a decimal of few digits; the size whole. -/
namespace Go.Proofs.YtiglekomfgfilaaGreatDoor
set_option maxRecDepth 100000
set_option maxHeartbeats 4000000
set_option linter.all false
open Go.RowKit
def tenLoop (X : Nat) (w : World) (tv iv : Value) (wr : World) : Prop := ∃ i t : Nat, i ≤ X ∧ iv = .int .i64 i ∧ tv = .int .u64 t ∧ Hid (t = Fl.rd (10 ^ i) 0 false) ∧ Hid (Below w.heap.size w wr)
theorem re_size_small (b : Nat) (n : Bool) (s : ByteArray) (X : Nat) (w : World) (hr : Dc.right s.data.toList X = true) (hR : Rdr w b) (h0 : s.size ≠ 0) (hl : s.size ≤ 15) (hX : X ≤ 22) :
    Calls Tryz.prog 100 #[.pointer (some ⟨b, 0, none⟩), .agg #[.bool n, .string s, .int .i64 X]] w (RetR b (.int .u64 ((Fl.bits s.data.toList X : Nat) : Int)) w) := by
  obtain ⟨hp, hs, hx1, hx2⟩ := r8_point_facts hr
  have hdig := Dc.right_dig hr
  have hne : s.data.toList ≠ [] := fun e => h0 (by have := congrArg List.length e; rwa [bs_length] at this)
  have hP := fun w => d_point_any n s X w (by omega)
  rw [hp] at hP
  have hU := fun w => re_uint s w hdig hne (by omega)
  have hN := Dc.nv_lt hdig
  rw [bs_length] at hN
  have hN0 := Nat.lt_of_lt_of_le (Nat.pow_pos (by decide)) (Dc.nv_first hdig hne (Dc.right_head hr hne))
  have hN64 : Dc.nv s.data.toList < 9007199254740992 := Nat.lt_of_lt_of_le hN (Nat.le_trans (Nat.pow_le_pow_right (by decide) hl) (by decide))
  have hsm := Fl.small_exact (l := s.data.toList) (x := X) hN64 hX
  have hkm := Fl.nat_kind hN0 hN64
  have hlm := (Fl.nat_exact hN64).2
  have hb0 : Below w.heap.size w (w.alloc (Obj.cells #[Value.bool n, Value.string s, Value.int IntKind.i64 X] 27)) := (Below.refl _ _).alloc (Nat.le_refl _) _
  have dd0 := DecB.new w n s X
  obtain ⟨Z, hZ⟩ : ∃ Z, Z = Fl.bits s.data.toList X := ⟨_, rfl⟩
  rw [← hZ] at hsm ⊢
  obtain ⟨m, hme⟩ : ∃ m, m = Dc.nv s.data.toList := ⟨_, rfl⟩
  rw [← hme] at hU hsm hN64 hkm hlm
  have h1 := fun w1 => wh_from_nat 1 w1 (by omega)
  have h10 := fun w1 => wh_from_nat 10 w1 (by omega)
  have hm1 := fun w1 => wh_from_nat m w1 (by omega)
  have hmul := fun (i : Nat) (hi : i < X) w1 => ar_mul_two (Fl.rd (10 ^ i) 0 false) (Fl.rd 10 0 false) w1 (Fl.ten_exact (by omega)).2 (Fl.ten_kind (by omega)) (Fl.ten_exact (i := 1) (by omega)).2 (Fl.ten_kind (i := 1) (by omega))
  have hmul2 : ∀ i, i < X → ∀ w1, Calls Tryz.prog 124 #[.int .u64 (Fl.rd (10 ^ i) 0 false : Nat), .int .u64 (Fl.rd 10 0 false : Nat)] w1 (RetB (.int .u64 (Fl.rd (10 ^ (i + 1)) 0 false : Nat)) w1) := fun i hi w1 => by
    have h := hmul i hi w1
    rw [Fl.ten_next (by omega)] at h
    exact h
  have hlast := fun w1 => ar_mul_two (Fl.rd m 0 false) (Fl.rd (10 ^ X) 0 false) w1 hlm hkm (Fl.ten_exact hX).2 (Fl.ten_kind hX)
  rw [hsm] at hlast
  have hF : ∀ w', Below w.heap.size w w' → Onl b w w' ∧ Rdr w' b := fun w' h => ⟨hR.onl h, hR.on h⟩
  have hz := isEmpty_of_pos (s := s) (by omega)
  obtain ⟨t0, ht0⟩ : ∃ t, t = Fl.rd 1 0 false := ⟨_, rfl⟩
  obtain ⟨t10, ht10⟩ : ∃ t, t = Fl.rd 10 0 false := ⟨_, rfl⟩
  obtain ⟨tm, htm⟩ : ∃ t, t = Fl.rd m 0 false := ⟨_, rfl⟩
  rw [← ht0] at h1
  rw [← ht10] at h10 hmul2
  rw [← htm] at hm1 hlast
  obtain ⟨P, hPe⟩ : ∃ P, P = (s.size : Int) + X := ⟨_, rfl⟩
  have hPl : -330 ≤ P ∧ P ≤ 310 := by omega
  rw [← hPe] at hP
  obtain ⟨p1, p2⟩ := hPl
  have HP := Lib.hid hP; have HF := Lib.hid hF; have HU := Lib.hid hU; have HMUL := Lib.hid hmul2; have HLAST := Lib.hid hlast
  have H1 := Lib.hid (fun w1 => (show Calls Tryz.prog 123 #[.int .i64 1] w1 (RetB (.int .u64 (t0 : Nat)) w1) from h1 w1))
  have H10 := Lib.hid (fun w1 => (show Calls Tryz.prog 123 #[.int .i64 10] w1 (RetB (.int .u64 (t10 : Nat)) w1) from h10 w1))
  have HM1 := Lib.hid hm1
  have HT0 := Lib.hid ht0
  have hxX : (0 : Int) ≤ (X : Int) := by omega
  have hX2 : (X : Int) ≤ 22 := by omega
  clear hP hF hU hmul hmul2 hlast h1 h10 hm1 ht0 ht10 htm hPe hme hZ hsm hkm hlm hN hN0 hr hR hp hdig hne hx1 hx2 h0
  go_enter Tryz.func100, Tryz.ntmps100
  go_wp2_with (first
    | (go_at_call 73; (with_reducible refine (HP.out _).mono ?_); rintro e w1 ⟨rfl, hb1⟩; have hB1 : Below w.heap.size w w1 := hb0.trans (hb1.mono (by simp)); have dd1 := dd0.on hb1; obtain ⟨y0, y1, y2, yl⟩ := id dd1)
    | (go_at_call 122; (with_reducible refine (HU.out _).mono ?_); rintro e w2 ⟨rfl, hb2⟩; have hB2 : Below w.heap.size w w2 := hB1.trans (hb2.mono hB1.size); have dd2 := dd1.on hb2; obtain ⟨v0, v1, v2, vl⟩ := id dd2)
    | (go_at_call 123; (with_reducible refine (H1.out _).mono ?_); rintro e w3 ⟨rfl, hb3⟩; have hB3 : Below w.heap.size w w3 := hB2.trans (hb3.mono hB2.size); have dd3 := dd2.on hb3; obtain ⟨u0, u1, u2, ul⟩ := id dd3))
  go_loopw [8, 51] (tenLoop X w) (fun _ iv _ => X - (intOf iv).toNat)
  case atStart => exact ⟨0, t0, Nat.zero_le _, rfl, rfl, HT0, Lib.hid hB3⟩
  case round =>
    clear hB1 hB2 hB3 hb1 hb2 hb3 dd1 dd2 dd3 dd0 hb0 y0 y1 y2 yl v0 v1 v2 vl u0 u1 u2 ul
    obtain ⟨i, t, hi, rfl, rfl, HT, HB⟩ := hrel
    by_cases hlt : i < X
    · have hc : decide ((i : Int) < (X : Int)) = true := decide_eq_true (by omega)
      have hmi := HMUL.out i hlt
      rw [← HT.out] at hmi
      obtain ⟨t', ht'⟩ : ∃ t, t = Fl.rd (10 ^ (i + 1)) 0 false := ⟨_, rfl⟩
      rw [← ht'] at hmi
      have HMI := Lib.hid hmi
      have HT' := Lib.hid ht'
      clear hmi ht'
      go_wp2_with (first
        | (go_at_call 123; (with_reducible refine (H10.out _).mono ?_); rintro e w4 ⟨rfl, hb4⟩; have hB4 : Below w.heap.size w w4 := HB.out.trans (hb4.mono HB.out.size))
        | (go_at_call 124; (with_reducible refine (HMI.out _).mono ?_); rintro e w5 ⟨rfl, hb5⟩; have hB5 : Below w.heap.size w w5 := hB4.trans (hb5.mono hB4.size)))
      go_roundw
      case rel => exact ⟨i + 1, t', by omega, by go_num, rfl, HT', Lib.hid hB5⟩
      case measure => simp [intOf]; omega
    · obtain rfl : i = X := by omega
      have hla := HLAST.out
      rw [← HT.out] at hla
      have HLA := Lib.hid hla
      clear hla
      go_wp2_with (first
        | (go_at_call 123; (with_reducible refine (HM1.out _).mono ?_); rintro e w4 ⟨rfl, hb4⟩; have hB4 : Below w.heap.size w w4 := HB.out.trans (hb4.mono HB.out.size))
        | (go_at_call 124; (with_reducible refine (HLA.out _).mono ?_); rintro e w5 ⟨rfl, hb5⟩; have hB5 : Below w.heap.size w w5 := hB4.trans (hb5.mono hB4.size)))
      go_ret
      exact ⟨rfl, HF.out _ hB5⟩
theorem re_size_any (b : Nat) (n : Bool) (s : ByteArray) (x : Int) (w : World) (hr : Dc.right s.data.toList x = true) (hR : Rdr w b) :
    Calls Tryz.prog 100 #[.pointer (some ⟨b, 0, none⟩), .agg #[.bool n, .string s, .int .i64 x]] w (RetR b (.int .u64 ((Fl.bits s.data.toList x : Nat) : Int)) w) := by
  by_cases h1 : s.size = 0 ∨ (s.size : Int) + x < -330 ∨ 310 < (s.size : Int) + x
  · exact re_size_end b n s x w hr hR h1
  · by_cases h2 : 19 < s.size
    · exact re_size_long b n s x w hr hR (by omega) h2
    · by_cases h3 : s.size ≤ 15 ∧ 0 ≤ x ∧ x ≤ 22
      · obtain ⟨X, rfl⟩ : ∃ X : Nat, x = X := ⟨x.toNat, by omega⟩
        exact re_size_small b n s X w hr hR (by omega) h3.1 (by omega)
      · exact re_size_quick b n s x w hr hR (by omega) (by omega) (by omega) (by omega)
end Go.Proofs.YtiglekomfgfilaaGreatDoor

/- Plain Lean: what a text is read as; a greater decimal is no lesser number. -/
namespace Go.Proofs.YtiglekomfgfilaaGreatDoor.Dc
set_option linter.all false
open Go
def Fine (r : Res) : Prop := (r.e = 0 ∧ right r.l r.x = true) ∨ ∃ e : Int, (e = 2 ∨ e = 3) ∧ r = ⟨false, [], 0, e⟩
theorem right_nil0 : right [] 0 = true := by decide
theorem mk_fine' (n : Bool) (l : Bs) (x : Int) : Fine (mk n l x) := by
  by_cases h : allDig l = true
  · by_cases h1 : core l = []
    · rw [mk_zero h h1]; exact Or.inl ⟨rfl, right_nil0⟩
    · by_cases h2 : right (core l) (x + tz l) = true
      · rw [mk_ok h h1 h2]; exact Or.inl ⟨rfl, h2⟩
      · rw [mk_over h h1 h2]; exact Or.inr ⟨2, Or.inl rfl, rfl⟩
  · rw [mk_bad h]; exact Or.inr ⟨3, Or.inr rfl, rfl⟩
theorem fine_bad : Fine ⟨false, [], 0, 3⟩ := Or.inr ⟨3, Or.inr rfl, rfl⟩
theorem fine_if {p : Prop} [Decidable p] {r t : Res} (hr : Fine r) (ht : Fine t) : Fine (if p then r else t) := by
  by_cases h : p
  · rw [if_pos h]; exact hr
  · rw [if_neg h]; exact ht
theorem tail_fine (n : Bool) (ds : Bs) (p : Nat) (r : Bs) : Fine (tail n ds p r) := by
  cases r with
  | nil => exact mk_fine' ..
  | cons c t => exact fine_if (fine_if fine_bad (mk_fine' ..)) fine_bad
theorem parse_fine (l : Bs) : Fine (parse l) := fine_if fine_bad (tail_fine ..)
end Go.Proofs.YtiglekomfgfilaaGreatDoor.Dc
namespace Go.Proofs.YtiglekomfgfilaaGreatDoor.Fl
open Go
def readOf (n : Bool) (l : Dc.Bs) (x : Int) : Nat × Int := if Dc.right l x = true then (wsign n + bits l x, 0) else (0, 1)
def readS (s : Dc.Bs) : Nat × Int := if (Dc.parse s).e = 0 then (wsign (Dc.parse s).n + bits (Dc.parse s).l (Dc.parse s).x, 0) else (0, (Dc.parse s).e)
theorem bits_le {l : Dc.Bs} {x : Int} (h : Dc.right l x = true) : bits l x ≤ 9218868437227405312 := (bits_near l x (Dc.right_exp h).1).1
end Go.Proofs.YtiglekomfgfilaaGreatDoor.Fl
