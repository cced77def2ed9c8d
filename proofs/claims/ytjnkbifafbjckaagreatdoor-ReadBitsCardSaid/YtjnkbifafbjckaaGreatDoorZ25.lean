/- The Reader in the program: Bits and Parse. -/
import Derived.Test.YtjnkbifafbjckaaGreatDoorZ24
import Derived.Test.YtjnkbifafbjckaaGreatDoorZ1
import Derived.Laws.StructEq
import Derived.Test.YtjnkbifafbjckaaGreatDoorZ18
import Derived.Test.YtjnkbifafbjckaaGreatDoorZ22
namespace Go.Proofs.YtjnkbifafbjckaaGreatDoor
set_option linter.all false
open Go.RowKit

set_option maxRecDepth 100000 in
set_option maxHeartbeats 4000000 in
theorem re_with_any (b : Bool) (v : Nat) (w : World) (hv : v < 9223372036854775808) : Calls Tryz.prog 101 #[.bool b, .int .u64 v] w (Ret0 (.int .u64 ((Fl.wsign b + v : Nat) : Int)) w) := by
  cases b with
  | false =>
    rw [show Fl.wsign false = 0 from rfl, Nat.zero_add]
    go_enter Tryz.func101, Tryz.ntmps101
    go_wp2
    go_ret
    exact Ret0.of rfl
  | true =>
    have hor := Fl.or_sign v hv
    rw [show Fl.wsign true = 9223372036854775808 from rfl]
    go_enter Tryz.func101, Tryz.ntmps101
    go_wp2
    go_ret
    exact Ret0.of rfl

set_option maxRecDepth 100000 in
set_option maxHeartbeats 4000000 in
theorem re_bits_any (b : Nat) (n : Bool) (s : ByteArray) (x : Int) (w : World) (hs : s.size ≤ 9223372036854775807) (hR : Rdr w b) :
    Calls Tryz.prog 34 #[.pointer (some ⟨b, 0, none⟩), .agg #[.bool n, .string s, .int .i64 x]] w (RetR b (.tuple #[.int .u64 ((Fl.readOf n s.data.toList x).1 : Nat), .int .i64 (Fl.readOf n s.data.toList x).2]) w) := by
  have hb0 : Below w.heap.size w (w.alloc (Obj.cells #[Value.bool n, Value.string s, Value.int IntKind.i64 x] 25)) := (Below.refl _ _).alloc (Nat.le_refl _) _
  have dd0 := DecB.new w n s x
  have hG := fun w => d_right_any n s x w hs
  by_cases hr : Dc.right s.data.toList x = true
  · have hv : Fl.readOf n s.data.toList x = (Fl.wsign n + Fl.bits s.data.toList x, 0) := by rw [Fl.readOf, if_pos hr]
    rw [hv]
    have hS := fun w1 (h : Rdr w1 b) => re_size_any b n s x w1 hr h
    have hle := Fl.bits_le hr
    rw [hr] at hG
    obtain ⟨Z, hZ⟩ : ∃ Z, Z = Fl.bits s.data.toList x := ⟨_, rfl⟩
    rw [← hZ] at hS hle ⊢
    have hW := fun w1 => re_with_any n Z w1 (by omega)
    obtain ⟨Y, hY⟩ : ∃ Y, Y = Fl.wsign n + Z := ⟨_, rfl⟩
    rw [← hY] at hW ⊢
    have hbl := hR.lt
    have hF : ∀ w1 w2, Below w.heap.size w w1 → Onl b w1 w2 → Onl b w w2 := fun w1 w2 h1 h2 => (hR.onl h1).trans h2
    have HF := Lib.hid hF; have HG := Lib.hid hG; have HS := Lib.hid hS; have HW := Lib.hid hW; have HR := Lib.hid hR
    clear hF hG hS hW hR hr hv hle hZ hY
    go_enter Tryz.func34, Tryz.ntmps34
    go_upto_region 3 with (first
      | (go_at_call 20; (with_reducible refine (HG.out _).mono ?_); rintro e w1 ⟨rfl, hb1⟩; have hB1 : Below w.heap.size w w1 := hb0.trans (hb1.mono (by simp)); have dd1 := dd0.on hb1; obtain ⟨y0, y1, y2, yl⟩ := id dd1))
    go_region_held3 (fun w' => w'.cell? ⟨w.heap.size, 0, none⟩ = some (.bool n) ∧ w'.cell? ⟨w.heap.size, 1, none⟩ = some (.string s) ∧ w'.cell? ⟨w.heap.size, 2, none⟩ = some (.int .i64 x))
      (first | go_keep | (refine ⟨?_, ?_, ?_⟩ <;> (first | (rw [hr0_w2]; assumption))) | (refine ⟨?_, ?_, ?_⟩ <;> (first | (go_simp; done) | (simp [go_sem, *]; done))))
      (first
      | (go_at_call 102; (with_reducible refine (HS.out _ (HR.out.on (by (repeat (first | exact Below.refl _ _ | assumption | refine Below.setCell ?_ (by first | omega | (simp <;> omega)) _ | refine Below.alloc ?_ (by first | omega | (simp <;> omega)) _ | refine Below.drew ?_ | refine below_drewN' ?_ _))))).mono ?_); rintro e w2 ⟨rfl, ho2, rd2⟩; have hO2 := HF.out _ _ (by (repeat (first | exact Below.refl _ _ | assumption | refine Below.setCell ?_ (by first | omega | (simp <;> omega)) _ | refine Below.alloc ?_ (by first | omega | (simp <;> omega)) _ | refine Below.drew ?_ | refine below_drewN' ?_ _))) ho2; have hr0_w2 := fun o => ho2.cell (k := w.heap.size) (o := o) (by omega) (by (try simp only [size_drew', size_drewN', World.size_alloc, World.size_setCell]); omega))
      | (go_at_call 101; (with_reducible refine (HW.out _).mono ?_); rintro e w' ⟨rfl, rfl⟩))
    all_goals (try go_wp2)
    refine bodyPost_ret (v := .tuple #[.int .u64 (Y : Nat), .int .i64 0]) (by (simp [results, Tryz.results34, go_sem]; done)) rfl ⟨rfl, hO2, rd2⟩
  · have hv : Fl.readOf n s.data.toList x = (0, 1) := by rw [Fl.readOf, if_neg hr]
    rw [hv]
    rw [Bool.eq_false_iff.2 hr] at hG
    have hF : ∀ w', Below w.heap.size w w' → Onl b w w' ∧ Rdr w' b := fun w' h => ⟨hR.onl h, hR.on h⟩
    have HF := Lib.hid hF; have HG := Lib.hid hG
    clear hF hG hr hv hR
    go_enter Tryz.func34, Tryz.ntmps34
    go_wp2_with (first
      | (go_at_call 20; (with_reducible refine (HG.out _).mono ?_); rintro e w1 ⟨rfl, hb1⟩; have hB1 : Below w.heap.size w w1 := hb0.trans (hb1.mono (by simp)); have dd1 := dd0.on hb1; obtain ⟨y0, y1, y2, yl⟩ := id dd1))
    refine bodyPost_ret (v := .tuple #[.int .u64 0, .int .i64 1]) (by (simp [results, Tryz.results34, go_sem]; done)) rfl ⟨rfl, HF.out _ hB1⟩

set_option maxRecDepth 100000 in
set_option maxHeartbeats 4000000 in
theorem re_parse_any (b : Nat) (s : ByteArray) (w : World) (hs : s.size ≤ 1000000) (hR : Rdr w b) :
    Calls Tryz.prog 36 #[.pointer (some ⟨b, 0, none⟩), .string s] w (RetR b (.tuple #[.int .u64 ((Fl.readS s.data.toList).1 : Nat), .int .i64 (Fl.readS s.data.toList).2]) w) := by
  have hP := fun w => d_parse_any s w hs
  rcases Dc.parse_fine s.data.toList with ⟨he, hr⟩ | ⟨e, he, hf⟩
  · rcases hq : Dc.parse s.data.toList with ⟨n, l, x, e⟩
    rw [hq] at he hr hP
    simp only at he hr
    subst he
    have hv : Fl.readS s.data.toList = (Fl.wsign n + Fl.bits l x, 0) := by rw [Fl.readS, hq, if_pos rfl]
    rw [hv]
    have hlen := Dc.right_len hr
    obtain ⟨S, hS⟩ : ∃ S : ByteArray, S = ⟨l.toArray⟩ := ⟨_, rfl⟩
    have hSl : S.data.toList = l := by rw [hS]
    have hB := fun w1 (h : Rdr w1 b) => re_bits_any b n S x w1 (by rw [← bs_length, hSl]; omega) h
    rw [hSl, Fl.readOf, if_pos hr] at hB
    simp only [Dc.Res.val] at hP
    rw [← hS] at hP
    obtain ⟨Y, hY⟩ : ∃ Y, Y = Fl.wsign n + Fl.bits l x := ⟨_, rfl⟩
    rw [← hY] at hB ⊢
    have hbl := hR.lt
    have hF : ∀ w1 w2, Below w.heap.size w w1 → Onl b w1 w2 → Onl b w w2 := fun w1 w2 h1 h2 => (hR.onl h1).trans h2
    have HF := Lib.hid hF; have HP := Lib.hid hP; have HB := Lib.hid hB; have HR := Lib.hid hR
    clear hF hP hB hR hr hv hlen hS hSl hY hq
    go_enter Tryz.func36, Tryz.ntmps36
    go_wp2_with (first
      | (go_at_call 103; (with_reducible refine (HP.out _).mono ?_); rintro e w1 ⟨rfl, hb1⟩; have hB1 : Below w.heap.size w w1 := (by first | exact hb1 | exact ((Below.refl _ _).alloc (Nat.le_refl _) _).trans (hb1.mono (by simp))); have hz1 := hB1.size)
      | (go_at_call 34; (with_reducible refine (HB.out _ (HR.out.on (by (repeat (first | exact Below.refl _ _ | assumption | refine Below.setCell ?_ (by first | omega | (simp <;> omega)) _ | refine Below.alloc ?_ (by first | omega | (simp <;> omega)) _ | refine Below.drew ?_ | refine below_drewN' ?_ _))))).mono ?_); rintro e w2 ⟨rfl, ho2, rd2⟩; have hO2 := HF.out _ _ (by (repeat (first | exact Below.refl _ _ | assumption | refine Below.setCell ?_ (by first | omega | (simp <;> omega)) _ | refine Below.alloc ?_ (by first | omega | (simp <;> omega)) _ | refine Below.drew ?_ | refine below_drewN' ?_ _))) ho2))
    refine bodyPost_ret (v := .tuple #[.int .u64 (Y : Nat), .int .i64 0]) (by (simp [results, Tryz.results36, go_sem]; done)) rfl ⟨rfl, hO2, rd2⟩
  · have hv : Fl.readS s.data.toList = (0, e) := by rw [Fl.readS, hf, if_neg (by rcases he with rfl | rfl <;> decide)]
    rw [hv]
    rw [hf] at hP
    simp only [Dc.Res.val] at hP
    have hF : ∀ w', Below w.heap.size w w' → Onl b w w' ∧ Rdr w' b := fun w' h => ⟨hR.onl h, hR.on h⟩
    have HF := Lib.hid hF; have HP := Lib.hid hP
    clear hF hP hR hv hf
    have he2 : (e == 0) = false := by rcases he with rfl | rfl <;> decide
    all_goals (
      go_enter Tryz.func36, Tryz.ntmps36
      go_wp2_with (first
        | (go_at_call 103; (with_reducible refine (HP.out _).mono ?_); rintro e w1 ⟨rfl, hb1⟩; have hB1 : Below w.heap.size w w1 := (by first | exact hb1 | exact ((Below.refl _ _).alloc (Nat.le_refl _) _).trans (hb1.mono (by simp))); have hz1 := hB1.size))
      refine bodyPost_ret (v := .tuple #[.int .u64 0, .int .i64 e]) (by (simp [results, Tryz.results36, go_sem]; done)) rfl ⟨rfl, HF.out _ (by (repeat (first | exact Below.refl _ _ | assumption | refine Below.setCell ?_ (by first | omega | (simp <;> omega)) _ | refine Below.alloc ?_ (by first | omega | (simp <;> omega)) _ | refine Below.drew ?_ | refine below_drewN' ?_ _)))⟩)
end Go.Proofs.YtjnkbifafbjckaaGreatDoor

/- Ints of 128 bits are compared. -/
namespace Go.Proofs.YtjnkbifafbjckaaGreatDoor
set_option linter.all false
open Go.RowKit

def u2Eq (p0 p1 q0 q1 : Int) : Bool := p0 == q0 && p1 == q1
theorem u2_struct : Tryz.prog.underlying 57 = some (.struct (Tryz.prog.fieldsOf 57)) := by kernel_rfl
theorem u2_held : Tryz.prog.stoodInHeld 57 = false := by kernel_rfl
theorem u2_guardT : Tryz.prog.eqGuardType Tryz.prog.depth 57 = false := by kernel_rfl
theorem u2_fields : (Tryz.prog.fieldsOf 57).toList.map (fun f => (f.type, f.offset, f.name == "_")) = [(22, 0, false), (22, 1, false)] := by kernel_rfl
theorem u2_guard (op : BinOp) (x y : Operand) (xs ys : Array Value) (w : World) : (eqGuard op 57 x y (.agg xs) (.agg ys)).run Tryz.prog w = .ok () w := run_eqGuard_agg _ _ _ _ _ _ _ u2_guardT
theorem u2_equalIn (p0 p1 q0 q1 : Int) (w : World) :
    (Op.equalIn 10000 57 (.agg #[.int .u64 p0, .int .u64 p1]) (.agg #[.int .u64 q0, .int .u64 q1])).run Tryz.prog w = .ok (u2Eq p0 p1 q0 q1) w := by
  rw [run_equalIn_agg _ 9999 _ _ _ u2_struct u2_held]
  have hf := u2_fields
  generalize (Tryz.prog.fieldsOf 57).toList = fs at hf
  have hl := congrArg List.length hf
  rw [List.length_map] at hl
  obtain ⟨f0, f1, rfl⟩ : ∃ f0 f1, fs = [f0, f1] := by
    match fs, hl with
    | [a, b], _ => exact ⟨a, b, rfl⟩
  simp only [List.map_cons, List.map_nil, List.cons.injEq, Prod.mk.injEq, and_true] at hf
  obtain ⟨⟨t0, o0, n0⟩, ⟨t1, o1, n1⟩⟩ := hf
  have m0 := beq_eq_false_iff_ne.1 n0
  have m1 := beq_eq_false_iff_ne.1 n1
  simp [Op.eqFields, u2Eq, go_sem, t0, t1, o0, o1, m0, m1, Tryz.underlying22]
  by_cases h0 : p0 = q0 <;> by_cases h1 : p1 = q1 <;> simp [h0, h1]
theorem u2_neq (p0 p1 q0 q1 : Int) (w : World) :
    (binOp .neq 57 (.agg #[.int .u64 p0, .int .u64 p1]) (.agg #[.int .u64 q0, .int .u64 q1])).run Tryz.prog w = .ok (.bool (!(u2Eq p0 p1 q0 q1))) w := by
  rw [run_neq_struct, u2_equalIn]; rfl
theorem u2_eql (p0 p1 q0 q1 : Int) (w : World) :
    (binOp .eql 57 (.agg #[.int .u64 p0, .int .u64 p1]) (.agg #[.int .u64 q0, .int .u64 q1])).run Tryz.prog w = .ok (.bool (u2Eq p0 p1 q0 q1)) w := by
  rw [run_eql_struct, u2_equalIn]; rfl
end Go.Proofs.YtjnkbifafbjckaaGreatDoor

/- Plain Lean: chapter 8's examples: what nine texts are read as; three powers of ten. -/
namespace Go.Proofs.YtjnkbifafbjckaaGreatDoor.Fl
set_option linter.all false
open Go

theorem shown8_0 : readS [48, 46, 49] = (4591870180066957722, 0) := by decide +kernel
theorem shown8_1 : readS [45, 48] = (9223372036854775808, 0) := by decide +kernel
theorem shown8_2 : readS [49, 101, 52, 48, 48] = (9218868437227405312, 0) := by decide +kernel
theorem shown8_3 : readS [45, 49, 101, 45, 52, 48, 48] = (9223372036854775808, 0) := by decide +kernel
theorem shown8_4 : readS [57, 48, 48, 55, 49, 57, 57, 50, 53, 52, 55, 52, 48, 57, 57, 51] = (4845873199050653696, 0) := by decide +kernel
theorem shown8_5 : readS [50, 46, 52, 55, 48, 51, 50, 56, 50, 50, 57, 50, 48, 54, 50, 51, 50, 55, 101, 45, 51, 50, 52] = (0, 0) := by decide +kernel
theorem shown8_6 : readS [50, 46, 52, 55, 48, 51, 50, 56, 50, 50, 57, 50, 48, 54, 50, 51, 50, 56, 101, 45, 51, 50, 52] = (1, 0) := by decide +kernel
theorem shown8_7 : readS [49, 46, 55, 57, 55, 54, 57, 51, 49, 51, 52, 56, 54, 50, 51, 49, 53, 56, 101, 51, 48, 56] = (9218868437227405311, 0) := by decide +kernel
theorem shown8_8 : readS [49, 46, 55, 57, 55, 54, 57, 51, 49, 51, 52, 56, 54, 50, 51, 49, 53, 57, 101, 51, 48, 56] = (9218868437227405312, 0) := by decide +kernel
theorem shown8_pow0 : pwP 0 / 18446744073709551616 = 9223372036854775808 ∧ pwP 0 % 18446744073709551616 = 0 ∧ pwE 0 = -127 ∧ pwA 0 = true := by decide +kernel
theorem shown8_pow1 : pwP 1 / 18446744073709551616 = 11529215046068469760 ∧ pwP 1 % 18446744073709551616 = 0 ∧ pwE 1 = -124 ∧ pwA 1 = true := by decide +kernel
theorem shown8_powm : pwP (-1) / 18446744073709551616 = 14757395258967641292 ∧ pwP (-1) % 18446744073709551616 = 14757395258967641292 ∧ pwE (-1) = -131 ∧ pwA (-1) = false := by decide +kernel
end Go.Proofs.YtjnkbifafbjckaaGreatDoor.Fl

/- The examples at the head of chapter 8's statements hold: shown() returns true. -/
namespace Go.Proofs.YtjnkbifafbjckaaGreatDoor
set_option linter.all false
open Go.RowKit
attribute [local go_sem] u2_eql u2_neq u2Eq u2_guard

theorem Cs.onl {w w' : World} {b c : Nat} {vs : List Value} (h : Cs w b vs) (ho : Onl c w w') (hne : b ≠ c) : Cs w' b vs :=
  ⟨Nat.lt_of_lt_of_le h.1 ho.size, fun k hk => (ho.cell hne h.1).trans (h.2 k hk)⟩
def s8L : List Value := [.string ⟨#[48, 46, 49]⟩, .string ⟨#[45, 48]⟩, .string ⟨#[49, 101, 52, 48, 48]⟩, .string ⟨#[45, 49, 101, 45, 52, 48, 48]⟩, .string ⟨#[57, 48, 48, 55, 49, 57, 57, 50, 53, 52, 55, 52, 48, 57, 57, 51]⟩, .string ⟨#[50, 46, 52, 55, 48, 51, 50, 56, 50, 50, 57, 50, 48, 54, 50, 51, 50, 55, 101, 45, 51, 50, 52]⟩, .string ⟨#[50, 46, 52, 55, 48, 51, 50, 56, 50, 50, 57, 50, 48, 54, 50, 51, 50, 56, 101, 45, 51, 50, 52]⟩, .string ⟨#[49, 46, 55, 57, 55, 54, 57, 51, 49, 51, 52, 56, 54, 50, 51, 49, 53, 56, 101, 51, 48, 56]⟩, .string ⟨#[49, 46, 55, 57, 55, 54, 57, 51, 49, 51, 52, 56, 54, 50, 51, 49, 53, 57, 101, 51, 48, 56]⟩]
def s8W : List Value := [.int .u64 4591870180066957722, .int .u64 9223372036854775808, .int .u64 9218868437227405312, .int .u64 9223372036854775808, .int .u64 4845873199050653696, .int .u64 0, .int .u64 1, .int .u64 9218868437227405311, .int .u64 9218868437227405312]
theorem s8_at : ∀ k : Nat, k < 9 → ∃ (T : ByteArray) (v : Nat), s8L[k]? = some (.string T) ∧ s8W[k]? = some (.int .u64 (v : Nat)) ∧ T.size ≤ 100 ∧ Fl.readS T.data.toList = (v, 0)
  | 0, _ => ⟨⟨#[48, 46, 49]⟩, 4591870180066957722, rfl, rfl, by decide, Fl.shown8_0⟩
  | 1, _ => ⟨⟨#[45, 48]⟩, 9223372036854775808, rfl, rfl, by decide, Fl.shown8_1⟩
  | 2, _ => ⟨⟨#[49, 101, 52, 48, 48]⟩, 9218868437227405312, rfl, rfl, by decide, Fl.shown8_2⟩
  | 3, _ => ⟨⟨#[45, 49, 101, 45, 52, 48, 48]⟩, 9223372036854775808, rfl, rfl, by decide, Fl.shown8_3⟩
  | 4, _ => ⟨⟨#[57, 48, 48, 55, 49, 57, 57, 50, 53, 52, 55, 52, 48, 57, 57, 51]⟩, 4845873199050653696, rfl, rfl, by decide, Fl.shown8_4⟩
  | 5, _ => ⟨⟨#[50, 46, 52, 55, 48, 51, 50, 56, 50, 50, 57, 50, 48, 54, 50, 51, 50, 55, 101, 45, 51, 50, 52]⟩, 0, rfl, rfl, by decide, Fl.shown8_5⟩
  | 6, _ => ⟨⟨#[50, 46, 52, 55, 48, 51, 50, 56, 50, 50, 57, 50, 48, 54, 50, 51, 50, 56, 101, 45, 51, 50, 52]⟩, 1, rfl, rfl, by decide, Fl.shown8_6⟩
  | 7, _ => ⟨⟨#[49, 46, 55, 57, 55, 54, 57, 51, 49, 51, 52, 56, 54, 50, 51, 49, 53, 56, 101, 51, 48, 56]⟩, 9218868437227405311, rfl, rfl, by decide, Fl.shown8_7⟩
  | 8, _ => ⟨⟨#[49, 46, 55, 57, 55, 54, 57, 51, 49, 51, 52, 56, 54, 50, 51, 49, 53, 57, 101, 51, 48, 56]⟩, 9218868437227405312, rfl, rfl, by decide, Fl.shown8_8⟩
  | n + 9, h => absurd h (by omega)
theorem s8_pow (b : Nat) (n : Int) (hi lo : Nat) (E : Int) (A : Bool) (hn : -400 ≤ n ∧ n ≤ 400) (h : Fl.pwP n / 18446744073709551616 = hi ∧ Fl.pwP n % 18446744073709551616 = lo ∧ Fl.pwE n = E ∧ Fl.pwA n = A) (w : World) (hr : Rdr w b) :
    Calls Tryz.prog 38 #[.pointer (some ⟨b, 0, none⟩), .int .i64 n] w (RetR b (.tuple #[.agg #[.int .u64 hi, .int .u64 lo], .int .i64 E, .bool A, .int .i64 0]) w) := by
  have h1 := re_power_in b n w hn hr
  rw [h.1, h.2.1, h.2.2.1, h.2.2.2] at h1
  exact h1
def sh8Loop (b L W : Nat) (w : World) (iv : Value) (wr : World) : Prop := ∃ k : Nat, k ≤ 9 ∧ iv = .int .i64 k ∧ Hid (Rdr wr b) ∧ Hid (Cs wr L s8L) ∧ Hid (Cs wr W s8W) ∧ Hid (Below w.heap.size w wr)

set_option maxRecDepth 100000 in
set_option maxHeartbeats 8000000 in
theorem l8_shown_any (w : World) : Calls Tryz.prog 32 #[] w (RetB (.bool true) w) := by
  have HN := Lib.hid (fun w1 => re_new_any w1)
  have HP := Lib.hid (fun b s w1 (hs : s.size ≤ 100) (h : Rdr w1 b) => re_parse_any b s w1 (by omega) h)
  have H0 := Lib.hid (fun b w1 (h : Rdr w1 b) => (show Calls Tryz.prog 38 #[.pointer (some ⟨b, 0, none⟩), .int .i64 0] w1 (RetR b (.tuple #[.agg #[.int .u64 9223372036854775808, .int .u64 0], .int .i64 (-127), .bool true, .int .i64 0]) w1) from s8_pow b 0 _ _ _ _ (by decide) Fl.shown8_pow0 w1 h))
  have H1 := Lib.hid (fun b w1 (h : Rdr w1 b) => (show Calls Tryz.prog 38 #[.pointer (some ⟨b, 0, none⟩), .int .i64 1] w1 (RetR b (.tuple #[.agg #[.int .u64 11529215046068469760, .int .u64 0], .int .i64 (-124), .bool true, .int .i64 0]) w1) from s8_pow b 1 _ _ _ _ (by decide) Fl.shown8_pow1 w1 h))
  have H2 := Lib.hid (fun b w1 (h : Rdr w1 b) => (show Calls Tryz.prog 38 #[.pointer (some ⟨b, 0, none⟩), .int .i64 (-1)] w1 (RetR b (.tuple #[.agg #[.int .u64 14757395258967641292, .int .u64 14757395258967641292], .int .i64 (-131), .bool false, .int .i64 0]) w1) from s8_pow b (-1) _ _ _ _ (by decide) Fl.shown8_powm w1 h))
  have H3 := Lib.hid (fun b w1 (h : Rdr w1 b) => (show Calls Tryz.prog 38 #[.pointer (some ⟨b, 0, none⟩), .int .i64 401] w1 _ from re_power_out b 401 w1 (by decide) (by decide) h))
  go_enter Tryz.func32, Tryz.ntmps32
  go_wp2_with (first | (go_at_call 33; (with_reducible refine (HN.out _).mono ?_); rintro e w1 ⟨rfl, rd1, hb1⟩))
  have hL0 : Cs ((w1.alloc (.cells s8L.toArray 9)).alloc (.cells s8W.toArray 22)) w1.heap.size s8L := (Cs.new w1 s8L 9).alloc _
  have hW0 : Cs ((w1.alloc (.cells s8L.toArray 9)).alloc (.cells s8W.toArray 22)) (w1.heap.size + 1) s8W := by
    have h := Cs.new (w1.alloc (.cells s8L.toArray 9)) s8W 22
    rw [World.size_alloc] at h; exact h
  have hB0 : Below w1.heap.size w1 ((w1.alloc (.cells s8L.toArray 9)).alloc (.cells s8W.toArray 22)) := ((Below.refl _ _).alloc (Nat.le_refl _) _).alloc (by simp) _
  have hR0 := rd1.on hB0
  have hB00 := hb1.trans (hB0.mono hb1.size)
  have hbl := rd1.lt
  obtain ⟨X, hX⟩ : ∃ X, X = ((w1.alloc (.cells s8L.toArray 9)).alloc (.cells s8W.toArray 22)) := ⟨_, rfl⟩
  change Code.wp _ _ _ _ ((w1.alloc (.cells s8L.toArray 9)).alloc (.cells s8W.toArray 22))
  rw [← hX] at hL0 hW0 hR0 hB00 ⊢
  have HL0 := Lib.hid hL0; have HW0 := Lib.hid hW0; have HR0 := Lib.hid hR0; have HB00 := Lib.hid hB00
  have hbw : w.heap.size < w1.heap.size := hbl
  clear hX hL0 hW0 hR0 hB00 hB0 rd1 hb1
  go_loopw [4] (sh8Loop w.heap.size w1.heap.size (w1.heap.size + 1) w) (fun iv _ => 9 - (intOf iv).toNat)
  case atStart => exact ⟨0, by omega, rfl, HR0, HL0, HW0, HB00⟩
  case round =>
    clear HR0 HL0 HW0 HB00
    obtain ⟨k, hk, rfl, HR, HL, HW, HB⟩ := hrel
    by_cases hlt : k < 9
    · obtain ⟨T, v, e1, e2, hT, hv⟩ := s8_at k hlt
      have c1 := HL.out.get k e1
      have c2 := HW.out.get k e2
      have hp := fun w1 (h : Rdr w1 w.heap.size) => HP.out w.heap.size T w1 hT h
      rw [hv] at hp
      have HPT := Lib.hid hp
      have hll := HL.out.1; have hwl := HW.out.1
      have hbs := HB.out.size
      clear hv e1 e2 hp
      go_wp2_with (first | (go_at_call 36; (with_reducible refine (HPT.out _ HR.out).mono ?_); rintro e w2 ⟨rfl, ho2, rd2⟩; have d2 := (ho2.cell (k := w1.heap.size + 1) (o := k) (by omega) hwl).trans c2; have hB2 := HB.out.trans (ho2.up (Nat.le_refl _)); have hL2 := HL.out.onl ho2 (by omega); have hW2 := HW.out.onl ho2 (by omega); have wl2 := hW2.1))
      go_roundw
      case rel => exact ⟨k + 1, by omega, by go_num, Lib.hid rd2, Lib.hid hL2, Lib.hid hW2, Lib.hid hB2⟩
      case measure => simp [intOf]; omega
    · obtain rfl : k = 9 := by omega
      have rd0 := HR.out
      have hbs := HB.out.size
      have hbr := rd0.lt
      clear HL HW
      go_wp2_with (first
        | (go_at_call 38; (with_reducible refine (H0.out _ _ rd0).mono ?_); rintro e w2 ⟨rfl, ho2, rd2⟩; have hB2 : Below w.heap.size w w2 := HB.out.trans (ho2.up (Nat.le_refl _)); have z2 := hB2.size; have rd2' := rd2.on ((Below.refl _ w2).alloc (Nat.le_refl _) (.cells #[.int .u64 9223372036854775808, .int .u64 0] 57)); have q2 := Cs.new w2 [.int .u64 9223372036854775808, .int .u64 0] 57; have b2 := rd2.lt)
        | (go_at_call 38; (with_reducible refine (H1.out _ _ rd2').mono ?_); rintro e w3 ⟨rfl, ho3, rd3⟩; have hB3 : Below w.heap.size w w3 := (hB2.alloc z2 _).trans (ho3.up (Nat.le_refl _)); have z3 := hB3.size; have rd3' := rd3.on ((Below.refl _ w3).alloc (Nat.le_refl _) (.cells #[.int .u64 11529215046068469760, .int .u64 0] 57)); have q3 := Cs.new w3 [.int .u64 11529215046068469760, .int .u64 0] 57; have b3 := rd3.lt; have q2 := (q2.onl ho3 (by omega)).alloc (.cells #[.int .u64 11529215046068469760, .int .u64 0] 57))
        | (go_at_call 38; (with_reducible refine (H2.out _ _ rd3').mono ?_); rintro e w4 ⟨rfl, ho4, rd4⟩; have hB4 : Below w.heap.size w w4 := (hB3.alloc z3 _).trans (ho4.up (Nat.le_refl _)); have z4 := hB4.size; have rd4' := rd4.on ((Below.refl _ w4).alloc (Nat.le_refl _) (.cells #[.int .u64 14757395258967641292, .int .u64 14757395258967641292] 57)); have q4 := Cs.new w4 [.int .u64 14757395258967641292, .int .u64 14757395258967641292] 57; have b4 := rd4.lt; have q2 := (q2.onl ho4 (by omega)).alloc (.cells #[.int .u64 14757395258967641292, .int .u64 14757395258967641292] 57); have q3 := (q3.onl ho4 (by omega)).alloc (.cells #[.int .u64 14757395258967641292, .int .u64 14757395258967641292] 57))
        | (go_at_call 38; (with_reducible refine (H3.out _ _ rd4').mono ?_); rintro e w5 ⟨rfl, ho5, rd5⟩; have hB5 : Below w.heap.size w w5 := (hB4.alloc z4 _).trans (ho5.up (Nat.le_refl _)); have z5 := hB5.size; have q2 := (q2.onl ho5 (by omega)).alloc (.cells #[.int .u64 0, .int .u64 0] 57); have q3 := (q3.onl ho5 (by omega)).alloc (.cells #[.int .u64 0, .int .u64 0] 57); have q4 := (q4.onl ho5 (by omega)).alloc (.cells #[.int .u64 0, .int .u64 0] 57); have x0 := q2.get 0 rfl; have x1 := q2.get 1 rfl; have xl := q2.1; have y0 := q3.get 0 rfl; have y1 := q3.get 1 rfl; have yl := q3.1; have v0 := q4.get 0 rfl; have v1 := q4.get 1 rfl; have vl := q4.1; clear q2 q3 q4))
      go_ret
      exact RetB.of rfl (hB5.alloc z5 _)
end Go.Proofs.YtjnkbifafbjckaaGreatDoor

/- The reference: a right decimal's bits, a negative exponent. -/
namespace Go.Proofs.YtjnkbifafbjckaaGreatDoor
set_option linter.all false
open Go.RowKit

theorem Na.limbs_of_exp {v e m : Nat} (h : v < 2 ^ e) (he : e ≤ 32 * m) : (Na.limbs v).length ≤ m := Na.limbs_of_bits (Nat.lt_of_lt_of_le h (Nat.pow_le_pow_right (by decide) he))
theorem Na.limbs_of_exp' {v e m : Nat} (h : v ≤ 2 ^ e) (he : e + 1 ≤ 32 * m) : (Na.limbs v).length ≤ m := Na.limbs_of_bits (Nat.lt_of_le_of_lt h (Nat.pow_lt_pow_right (by decide) he))
theorem len_range {LT LN S X : Nat} {D : Int} (h : (LT : Int) - (LN : Int) = D) (h1 : LN ≤ 4 * S) (h2 : LT ≤ 4 * X + 1) (h3 : S ≤ 1100) (h4 : X ≤ 1500) : -10000 ≤ D ∧ D ≤ 10000 := by omega
theorem Na.len_pos_dec (r : Nat) : decide (0 < ((Na.limbs r).length : Int)) = decide (r ≠ 0) := by
  by_cases h : r = 0
  · subst h; rw [Na.limbs_zero]; rfl
  · have := (Na.limbs_head h).1
    rw [decide_eq_true h, decide_eq_true (by omega)]

set_option maxRecDepth 100000 in
set_option maxHeartbeats 4000000 in
theorem r8_bits_frac_k (n : Bool) (s : ByteArray) (x : Int) (X k : Nat) (w : World) (hxX : -x = (X : Int)) (hr : Dc.right s.data.toList x = true) (h0 : s.size ≠ 0) (hend : -400 ≤ (s.size : Int) + x ∧ (s.size : Int) + x ≤ 400) (hX : 0 < X)
    (hk : (Na.bitLen (10 ^ X) : Int) - Na.bitLen (Dc.nv s.data.toList) + 70 = (k : Int) ∧ 0 < k) :
    Calls Tryz.prog 21 #[.agg #[.bool n, .string s, .int .i64 x]] w (RetB (.int .u64 ((Fl.wsign n + Fl.bits s.data.toList x : Nat) : Int)) w) := by
  obtain ⟨hp, hs, hx1, hx2⟩ := r8_point_facts hr
  have hP := fun w => r7_point_any n s x w (by omega)
  rw [hp] at hP
  have hb0 : Below w.heap.size w (w.alloc (Obj.cells #[Value.bool n, Value.string s, Value.int IntKind.i64 x] 25)) := (Below.refl _ _).alloc (Nat.le_refl _) _
  have dd0 := DecB.new w n s x
  have hdig := Dc.right_dig hr
  have hne : s.data.toList ≠ [] := fun e => h0 (by have := congrArg List.length e; rwa [bs_length] at this)
  have hN0 := Nat.lt_of_lt_of_le (Nat.pow_pos (by decide)) (Dc.nv_first hdig hne (Dc.right_head hr hne))
  have hD := fun w => r8_digits_any s w (by omega) hdig
  have hN := Dc.nv_lt hdig
  rw [bs_length] at hN
  have hXx : (-x).toNat = X := by omega
  have hX15 : X ≤ 1500 := by omega
  have hLb := Na.len_ten_pow X
  have hTle := Na.ten_le X
  have hNlt : Dc.nv s.data.toList < 2 ^ (4 * s.size) := Na.ten_lt _ _ hN
  have hLn := Na.bitLen_le' hNlt
  have hbits := fun hq => Fl.bits_quot (l := s.data.toList) (x := x) (k := k) (by omega) (by omega) hN0 hq
  rw [hXx] at hbits
  obtain ⟨N, hNe⟩ : ∃ N, N = Dc.nv s.data.toList := ⟨_, rfl⟩
  rw [← hNe] at hD hN hbits hNlt hLn hN0 hk
  have hl1 : (Na.limbs N).length ≤ 150 := Na.limbs_of_exp hNlt (by omega)
  have hT := fun w => r8_ten_any X w (by omega)
  have hT0 : 0 < 10 ^ X := Nat.pow_pos (by decide)
  obtain ⟨T, hTe⟩ : ∃ T, T = 10 ^ X := ⟨_, rfl⟩
  rw [← hTe] at hT hbits hTle hLb hk hT0
  have hl2 : (Na.limbs T).length ≤ 200 := Na.limbs_of_exp' hTle (by omega)
  obtain ⟨LN, hLNe⟩ : ∃ z, z = Na.bitLen N := ⟨_, rfl⟩
  obtain ⟨LT, hLTe⟩ : ∃ z, z = Na.bitLen T := ⟨_, rfl⟩
  have hLnF := fun wr a c (sl : Sl wr a c (Na.limbs N)) (z : a = none → c = 0) => r1_len_any a c (Na.limbs N) wr sl z (by omega)
  have hLtF := fun wr a c (sl : Sl wr a c (Na.limbs T)) (z : a = none → c = 0) => r1_len_any a c (Na.limbs T) wr sl z (by omega)
  rw [Na.val_limbs] at hLnF hLtF
  have hbl := (Fl.bitLen_ge (n := N) (by omega)).2.2
  rw [← hLNe] at hLnF hLn hbits hk hbl
  rw [← hLTe] at hLtF hLb hbits hk
  have hk6 : k ≤ 6100 := by omega
  have hbits := hbits (by omega)
  have hU := fun wr a c (sl : Sl wr a c (Na.limbs N)) (z : a = none → c = 0) => r3_up_any a c (Na.limbs N) k wr sl z (by omega) (by omega)
  rw [Na.val_limbs] at hU
  have hl3 : (Na.limbs (N * 2 ^ k)).length ≤ 400 := by
    have h1 : N * 2 ^ k < 2 ^ (4 * s.size + k) := by rw [Nat.pow_add]; exact Nat.mul_lt_mul_of_pos_right hNlt (Nat.pow_pos (by decide))
    exact Na.limbs_of_exp h1 (by omega)
  obtain ⟨U, hUe⟩ : ∃ U, U = N * 2 ^ k := ⟨_, rfl⟩
  rw [← hUe] at hU hl3 hbits
  have hPt := fun wr a c b d (s1 : Sl wr a c (Na.limbs U)) (z1 : a = none → c = 0) (s2 : Sl wr b d (Na.limbs T)) (z2 : b = none → d = 0) => r1_parts_z a c (Na.limbs U) b d (Na.limbs T) wr s1 z1 s2 z2 (by omega) (by omega) (by rw [Na.val_limbs]; exact hT0)
  rw [Na.val_limbs, Na.val_limbs] at hPt
  have hl4 : (Na.limbs (U / T)).length ≤ 5000 := by
    have h1 := Na.val_lt (Na.limbs U) (Na.ok_limbs U)
    rw [Na.val_limbs] at h1
    have := Na.limbs_len_le (U / T) _ (Nat.lt_of_le_of_lt (Nat.div_le_self U T) h1)
    omega
  have hmr := Na.len_pos_dec (U % T)
  obtain ⟨Q, hQ⟩ : ∃ Q, Q = U / T := ⟨_, rfl⟩
  obtain ⟨R, hRe⟩ : ∃ R, R = U % T := ⟨_, rfl⟩
  rw [← hQ] at hPt hl4 hbits
  rw [← hRe] at hPt hmr hbits
  have hR := fun wr a c (sl : Sl wr a c (Na.limbs Q)) (z : a = none → c = 0) => r3_round_any n a c Q (-(k : Int)) (decide (R ≠ 0)) wr sl z hl4 (by omega)
  obtain ⟨Z, hZ⟩ : ∃ Z, Z = Fl.wsign n + Fl.bits s.data.toList x := ⟨_, rfl⟩
  have hR2 : ∀ wr a c, Sl wr a c (Na.limbs Q) → (a = none → c = 0) → Calls Tryz.prog 28 #[.bool n, .slice a (Na.limbs Q).length c, .int .i64 (-(k : Int)), .bool (decide (R ≠ 0))] wr (RetB (.int .u64 (Z : Int)) wr) := fun wr a c sl z => by
    rw [hZ, ← hbits]; exact hR wr a c sl z
  rw [← hZ]
  obtain ⟨more, hmo⟩ : ∃ b, b = decide (R ≠ 0) := ⟨_, rfl⟩
  rw [← hmo] at hR2 hmr
  obtain ⟨lr, hlr⟩ : ∃ z, z = (Na.limbs R).length := ⟨_, rfl⟩
  have hPt2 : ∀ wr a c b d, Sl wr a c (Na.limbs U) → (a = none → c = 0) → Sl wr b d (Na.limbs T) → (b = none → d = 0) → Calls Tryz.prog 80 #[.slice a (Na.limbs U).length c, .slice b (Na.limbs T).length d] wr (fun e w' => ∃ a c a' c', e = .returned (.tuple #[.slice a (Na.limbs Q).length c, .slice a' lr c']) ∧ Sl w' a c (Na.limbs Q) ∧ (a = none → c = 0) ∧ Below wr.heap.size wr w') := fun wr a c b d s1 z1 s2 z2 =>
    (hPt wr a c b d s1 z1 s2 z2).mono fun e w' ⟨a, c, a', c', e, s1, s2, z1, z2, hb⟩ => ⟨a, c, a', c', by rw [hlr]; exact e, s1, z1, hb⟩
  rw [← hlr] at hmr
  have hmr2 : decide (0 < lr) = more := by rw [← hmr]; exact decide_eq_decide.2 (by omega)
  obtain ⟨P, hPe⟩ : ∃ P, P = (s.size : Int) + x := ⟨_, rfl⟩
  rw [← hPe] at hP hend
  have hPm : decide (P < -400) = false := decide_eq_false (by omega)
  have hPm2 : decide (400 < P) = false := decide_eq_false (by omega)
  have hz : ((s.size : Int) == 0) = false := by simp only [beq_eq_false_iff_ne, ne_eq]; omega
  have hx0 : decide (0 ≤ x) = false := decide_eq_false (by omega)
  obtain ⟨D1, hD1⟩ : ∃ D1 : Int, (LT : Int) - (LN : Int) = D1 := ⟨_, rfl⟩
  have hD2 : D1 + 70 = (k : Int) := by omega
  have hwX : wrap64 (X : Int) = (X : Int) := by unfold wrap64; omega
  have hwk : wrap64 (-(k : Int)) = -(k : Int) := by unfold wrap64; omega
  have hD0 : -10000 ≤ D1 ∧ D1 ≤ 10000 := len_range hD1 hLn hLb hs hX15
  have hpk : decide (0 < k) = true := decide_eq_true (by omega)
  have HP := Lib.hid hP; have HDG := Lib.hid hD; have HT := Lib.hid hT; have HR := Lib.hid hR2; have HLN := Lib.hid hLnF; have HLT := Lib.hid hLtF; have HU := Lib.hid hU; have HPT := Lib.hid hPt2
  clear hr h0 hend hP hp hPe hZ hR hR2 hl3 hl2 hl1 hT hTe hD hNe hN hbits hdig hne hN0 hXx hX15 hLb hTle hNlt hLn hT0 hLNe hLTe hLnF hLtF hbl hU hUe hPt hl4 hQ hRe hmo hlr hPt2 hk hx1 hx2
  obtain ⟨d01, d02⟩ := hD0
  go_enter Tryz.func21, Tryz.ntmps21
  go_wp2_with (first
    | (go_at_call 75; (with_reducible refine (HP.out _).mono ?_); rintro e w1 ⟨rfl, hb1⟩; have hB1 : Below w.heap.size w w1 := hb0.trans (hb1.mono (by simp)); have dd1 := dd0.on hb1; obtain ⟨y0, y1, y2, yl⟩ := id dd1)
    | (go_at_call 77; (with_reducible refine (HDG.out _).mono ?_); rintro e w2 ⟨a2, c2, rfl, s2, z2, hb2⟩; have hB2 : Below w.heap.size w w2 := hB1.trans (hb2.mono hB1.size); have dd2 := dd1.on hb2; obtain ⟨u0, u1, u2, ul⟩ := id dd2)
    | (go_at_call 78; (with_reducible refine (HT.out _).mono ?_); rintro e w3 ⟨a3, c3, rfl, s3, z3, -, hb3⟩; have hB3 : Below w.heap.size w w3 := hB2.trans (hb3.mono hB2.size); have dd3 := dd2.on hb3; have s2 := s2.on hb3; obtain ⟨v0, v1, v2, vl⟩ := id dd3)
    | (go_at_call 79; (with_reducible refine (HLN.out _ _ _ s2 z2).mono ?_); rintro e w7 ⟨rfl, hb7⟩; have hB7 : Below w.heap.size w w7 := hB6.trans (hb7.mono hB6.size); have dd7 := dd6.on hb7; have s2 := s2.on hb7; have s3 := s3.on hb7)
    | (go_at_call 79; (with_reducible refine (HLT.out _ _ _ s3 z3).mono ?_); rintro e w6 ⟨rfl, hb6⟩; have hB6 : Below w.heap.size w w6 := hB5.trans (hb6.mono hB5.size); have dd6 := dd5.on hb6; have s2 := s2.on hb6; have s3 := s3.on hb6)
    | (go_at_call 79; (with_reducible refine (HLN.out _ _ _ s2 z2).mono ?_); rintro e w5 ⟨rfl, hb5⟩; have hB5 : Below w.heap.size w w5 := hB4.trans (hb5.mono hB4.size); have dd5 := dd4.on hb5; have s2 := s2.on hb5; have s3 := s3.on hb5)
    | (go_at_call 79; (with_reducible refine (HLT.out _ _ _ s3 z3).mono ?_); rintro e w4 ⟨rfl, hb4⟩; have hB4 : Below w.heap.size w w4 := hB3.trans (hb4.mono hB3.size); have dd4 := dd3.on hb4; have s2 := s2.on hb4; have s3 := s3.on hb4)
    | (go_at_call 43; (with_reducible refine (HU.out _ _ _ s2 z2).mono ?_); rintro e w8 ⟨a8, c8, rfl, s8, z8, -, hb8⟩; have hB8 : Below w.heap.size w w8 := hB7.trans (hb8.mono hB7.size); have dd8 := dd7.on hb8; have s3 := s3.on hb8)
    | (go_at_call 80; (with_reducible refine (HPT.out _ _ _ _ _ s8 z8 s3 z3).mono ?_); rintro e w9 ⟨a9, c9, a9', c9', rfl, s9, z9, hb9⟩; have hB9 : Below w.heap.size w w9 := hB8.trans (hb9.mono hB8.size); have dd9 := dd8.on hb9; obtain ⟨q0, q1, q2, ql⟩ := id dd9)
    | (go_at_call 28; (with_reducible refine (HR.out _ _ _ s9 z9).mono ?_); rintro e w10 ⟨rfl, hb10⟩; have hB10 : Below w.heap.size w w10 := hB9.trans (hb10.mono hB9.size)))
  go_ret
  exact RetB.of rfl hB10

set_option maxRecDepth 100000 in
set_option maxHeartbeats 4000000 in
theorem r8_bits_frac_0 (n : Bool) (s : ByteArray) (x : Int) (X k : Nat) (w : World) (hxX : -x = (X : Int)) (hr : Dc.right s.data.toList x = true) (h0 : s.size ≠ 0) (hend : -400 ≤ (s.size : Int) + x ∧ (s.size : Int) + x ≤ 400) (hX : 0 < X)
    (hk : (Na.bitLen (10 ^ X) : Int) - Na.bitLen (Dc.nv s.data.toList) + 70 ≤ 0 ∧ k = 0) :
    Calls Tryz.prog 21 #[.agg #[.bool n, .string s, .int .i64 x]] w (RetB (.int .u64 ((Fl.wsign n + Fl.bits s.data.toList x : Nat) : Int)) w) := by
  obtain ⟨hp, hs, hx1, hx2⟩ := r8_point_facts hr
  have hP := fun w => r7_point_any n s x w (by omega)
  rw [hp] at hP
  have hb0 : Below w.heap.size w (w.alloc (Obj.cells #[Value.bool n, Value.string s, Value.int IntKind.i64 x] 25)) := (Below.refl _ _).alloc (Nat.le_refl _) _
  have dd0 := DecB.new w n s x
  have hdig := Dc.right_dig hr
  have hne : s.data.toList ≠ [] := fun e => h0 (by have := congrArg List.length e; rwa [bs_length] at this)
  have hN0 := Nat.lt_of_lt_of_le (Nat.pow_pos (by decide)) (Dc.nv_first hdig hne (Dc.right_head hr hne))
  have hD := fun w => r8_digits_any s w (by omega) hdig
  have hN := Dc.nv_lt hdig
  rw [bs_length] at hN
  have hXx : (-x).toNat = X := by omega
  have hX15 : X ≤ 1500 := by omega
  have hLb := Na.len_ten_pow X
  have hTle := Na.ten_le X
  have hNlt : Dc.nv s.data.toList < 2 ^ (4 * s.size) := Na.ten_lt _ _ hN
  have hLn := Na.bitLen_le' hNlt
  have hbits := fun hq => Fl.bits_quot (l := s.data.toList) (x := x) (k := k) (by omega) (by omega) hN0 hq
  rw [hXx] at hbits
  obtain ⟨N, hNe⟩ : ∃ N, N = Dc.nv s.data.toList := ⟨_, rfl⟩
  rw [← hNe] at hD hN hbits hNlt hLn hN0 hk
  have hl1 : (Na.limbs N).length ≤ 150 := Na.limbs_of_exp hNlt (by omega)
  have hT := fun w => r8_ten_any X w (by omega)
  have hT0 : 0 < 10 ^ X := Nat.pow_pos (by decide)
  obtain ⟨T, hTe⟩ : ∃ T, T = 10 ^ X := ⟨_, rfl⟩
  rw [← hTe] at hT hbits hTle hLb hk hT0
  have hl2 : (Na.limbs T).length ≤ 200 := Na.limbs_of_exp' hTle (by omega)
  obtain ⟨LN, hLNe⟩ : ∃ z, z = Na.bitLen N := ⟨_, rfl⟩
  obtain ⟨LT, hLTe⟩ : ∃ z, z = Na.bitLen T := ⟨_, rfl⟩
  have hLnF := fun wr a c (sl : Sl wr a c (Na.limbs N)) (z : a = none → c = 0) => r1_len_any a c (Na.limbs N) wr sl z (by omega)
  have hLtF := fun wr a c (sl : Sl wr a c (Na.limbs T)) (z : a = none → c = 0) => r1_len_any a c (Na.limbs T) wr sl z (by omega)
  rw [Na.val_limbs] at hLnF hLtF
  have hbl := (Fl.bitLen_ge (n := N) (by omega)).2.2
  rw [← hLNe] at hLnF hLn hbits hk hbl
  rw [← hLTe] at hLtF hLb hbits hk
  have hk6 : k ≤ 6100 := by omega
  have hbits := hbits (by omega)
  have hU := fun wr a c (sl : Sl wr a c (Na.limbs N)) (z : a = none → c = 0) => r3_up_any a c (Na.limbs N) k wr sl z (by omega) (by omega)
  rw [Na.val_limbs] at hU
  have hl3 : (Na.limbs (N * 2 ^ k)).length ≤ 400 := by
    have h1 : N * 2 ^ k < 2 ^ (4 * s.size + k) := by rw [Nat.pow_add]; exact Nat.mul_lt_mul_of_pos_right hNlt (Nat.pow_pos (by decide))
    exact Na.limbs_of_exp h1 (by omega)
  obtain ⟨U, hUe⟩ : ∃ U, U = N * 2 ^ k := ⟨_, rfl⟩
  rw [← hUe] at hU hl3 hbits
  have hPt := fun wr a c b d (s1 : Sl wr a c (Na.limbs U)) (z1 : a = none → c = 0) (s2 : Sl wr b d (Na.limbs T)) (z2 : b = none → d = 0) => r1_parts_z a c (Na.limbs U) b d (Na.limbs T) wr s1 z1 s2 z2 (by omega) (by omega) (by rw [Na.val_limbs]; exact hT0)
  rw [Na.val_limbs, Na.val_limbs] at hPt
  have hl4 : (Na.limbs (U / T)).length ≤ 5000 := by
    have h1 := Na.val_lt (Na.limbs U) (Na.ok_limbs U)
    rw [Na.val_limbs] at h1
    have := Na.limbs_len_le (U / T) _ (Nat.lt_of_le_of_lt (Nat.div_le_self U T) h1)
    omega
  have hmr := Na.len_pos_dec (U % T)
  obtain ⟨Q, hQ⟩ : ∃ Q, Q = U / T := ⟨_, rfl⟩
  obtain ⟨R, hRe⟩ : ∃ R, R = U % T := ⟨_, rfl⟩
  rw [← hQ] at hPt hl4 hbits
  rw [← hRe] at hPt hmr hbits
  have hR := fun wr a c (sl : Sl wr a c (Na.limbs Q)) (z : a = none → c = 0) => r3_round_any n a c Q (-(k : Int)) (decide (R ≠ 0)) wr sl z hl4 (by omega)
  obtain ⟨Z, hZ⟩ : ∃ Z, Z = Fl.wsign n + Fl.bits s.data.toList x := ⟨_, rfl⟩
  have hR2 : ∀ wr a c, Sl wr a c (Na.limbs Q) → (a = none → c = 0) → Calls Tryz.prog 28 #[.bool n, .slice a (Na.limbs Q).length c, .int .i64 (-(k : Int)), .bool (decide (R ≠ 0))] wr (RetB (.int .u64 (Z : Int)) wr) := fun wr a c sl z => by
    rw [hZ, ← hbits]; exact hR wr a c sl z
  rw [← hZ]
  obtain ⟨more, hmo⟩ : ∃ b, b = decide (R ≠ 0) := ⟨_, rfl⟩
  rw [← hmo] at hR2 hmr
  obtain ⟨lr, hlr⟩ : ∃ z, z = (Na.limbs R).length := ⟨_, rfl⟩
  have hPt2 : ∀ wr a c b d, Sl wr a c (Na.limbs U) → (a = none → c = 0) → Sl wr b d (Na.limbs T) → (b = none → d = 0) → Calls Tryz.prog 80 #[.slice a (Na.limbs U).length c, .slice b (Na.limbs T).length d] wr (fun e w' => ∃ a c a' c', e = .returned (.tuple #[.slice a (Na.limbs Q).length c, .slice a' lr c']) ∧ Sl w' a c (Na.limbs Q) ∧ (a = none → c = 0) ∧ Below wr.heap.size wr w') := fun wr a c b d s1 z1 s2 z2 =>
    (hPt wr a c b d s1 z1 s2 z2).mono fun e w' ⟨a, c, a', c', e, s1, s2, z1, z2, hb⟩ => ⟨a, c, a', c', by rw [hlr]; exact e, s1, z1, hb⟩
  rw [← hlr] at hmr
  have hmr2 : decide (0 < lr) = more := by rw [← hmr]; exact decide_eq_decide.2 (by omega)
  obtain ⟨P, hPe⟩ : ∃ P, P = (s.size : Int) + x := ⟨_, rfl⟩
  rw [← hPe] at hP hend
  have hPm : decide (P < -400) = false := decide_eq_false (by omega)
  have hPm2 : decide (400 < P) = false := decide_eq_false (by omega)
  have hz : ((s.size : Int) == 0) = false := by simp only [beq_eq_false_iff_ne, ne_eq]; omega
  have hx0 : decide (0 ≤ x) = false := decide_eq_false (by omega)
  obtain ⟨D1, hD1⟩ : ∃ D1 : Int, (LT : Int) - (LN : Int) = D1 := ⟨_, rfl⟩
  have hD2 : D1 + 70 ≤ 0 := by omega
  have hwX : wrap64 (X : Int) = (X : Int) := by unfold wrap64; omega
  have hD0 : -10000 ≤ D1 ∧ D1 ≤ 10000 := len_range hD1 hLn hLb hs hX15
  have hpz : decide (0 < D1 + 70) = false := decide_eq_false (by omega)
  have hki : (k : Int) = 0 := by omega
  have hR20 := hR2
  rw [hki, Int.neg_zero] at hR20
  rw [hki] at hU
  have hR2 := hR20
  have HP := Lib.hid hP; have HDG := Lib.hid hD; have HT := Lib.hid hT; have HR := Lib.hid hR2; have HLN := Lib.hid hLnF; have HLT := Lib.hid hLtF; have HU := Lib.hid hU; have HPT := Lib.hid hPt2
  clear hR20 hki hr h0 hend hP hp hPe hZ hR hR2 hl3 hl2 hl1 hT hTe hD hNe hN hbits hdig hne hN0 hXx hX15 hLb hTle hNlt hLn hT0 hLNe hLTe hLnF hLtF hbl hU hUe hPt hl4 hQ hRe hmo hlr hPt2 hk hx1 hx2
  obtain ⟨d01, d02⟩ := hD0
  go_enter Tryz.func21, Tryz.ntmps21
  go_wp2_with (first
    | (go_at_call 75; (with_reducible refine (HP.out _).mono ?_); rintro e w1 ⟨rfl, hb1⟩; have hB1 : Below w.heap.size w w1 := hb0.trans (hb1.mono (by simp)); have dd1 := dd0.on hb1; obtain ⟨y0, y1, y2, yl⟩ := id dd1)
    | (go_at_call 77; (with_reducible refine (HDG.out _).mono ?_); rintro e w2 ⟨a2, c2, rfl, s2, z2, hb2⟩; have hB2 : Below w.heap.size w w2 := hB1.trans (hb2.mono hB1.size); have dd2 := dd1.on hb2; obtain ⟨u0, u1, u2, ul⟩ := id dd2)
    | (go_at_call 78; (with_reducible refine (HT.out _).mono ?_); rintro e w3 ⟨a3, c3, rfl, s3, z3, -, hb3⟩; have hB3 : Below w.heap.size w w3 := hB2.trans (hb3.mono hB2.size); have dd3 := dd2.on hb3; have s2 := s2.on hb3; obtain ⟨v0, v1, v2, vl⟩ := id dd3)
    | (go_at_call 79; (with_reducible refine (HLN.out _ _ _ s2 z2).mono ?_); rintro e w5 ⟨rfl, hb5⟩; have hB5 : Below w.heap.size w w5 := hB4.trans (hb5.mono hB4.size); have dd5 := dd4.on hb5; have s2 := s2.on hb5; have s3 := s3.on hb5)
    | (go_at_call 79; (with_reducible refine (HLT.out _ _ _ s3 z3).mono ?_); rintro e w4 ⟨rfl, hb4⟩; have hB4 : Below w.heap.size w w4 := hB3.trans (hb4.mono hB3.size); have dd4 := dd3.on hb4; have s2 := s2.on hb4; have s3 := s3.on hb4)
    | (go_at_call 43; (with_reducible refine (HU.out _ _ _ s2 z2).mono ?_); rintro e w8 ⟨a8, c8, rfl, s8, z8, -, hb8⟩; have hB8 : Below w.heap.size w w8 := hB5.trans (hb8.mono hB5.size); have dd8 := dd5.on hb8; have s3 := s3.on hb8)
    | (go_at_call 80; (with_reducible refine (HPT.out _ _ _ _ _ s8 z8 s3 z3).mono ?_); rintro e w9 ⟨a9, c9, a9', c9', rfl, s9, z9, hb9⟩; have hB9 : Below w.heap.size w w9 := hB8.trans (hb9.mono hB8.size); have dd9 := dd8.on hb9; obtain ⟨q0, q1, q2, ql⟩ := id dd9)
    | (go_at_call 28; (with_reducible refine (HR.out _ _ _ s9 z9).mono ?_); rintro e w10 ⟨rfl, hb10⟩; have hB10 : Below w.heap.size w w10 := hB9.trans (hb10.mono hB9.size)))
  go_ret
  exact RetB.of rfl hB10

theorem r8_bits_any (n : Bool) (s : ByteArray) (x : Int) (w : World) (hr : Dc.right s.data.toList x = true) :
    Calls Tryz.prog 21 #[.agg #[.bool n, .string s, .int .i64 x]] w (RetB (.int .u64 ((Fl.wsign n + Fl.bits s.data.toList x : Nat) : Int)) w) := by
  by_cases hend : s.size = 0 ∨ (s.size : Int) + x < -400 ∨ 400 < (s.size : Int) + x
  · exact r8_bits_end n s x w hr hend
  · by_cases h0 : 0 ≤ x
    · obtain ⟨X, rfl⟩ : ∃ X : Nat, x = (X : Int) := ⟨x.toNat, by omega⟩
      exact r8_bits_whole n s X w hr (by omega) (by omega)
    · obtain ⟨X, hX⟩ : ∃ X : Nat, -x = (X : Int) := ⟨(-x).toNat, by omega⟩
      by_cases hk : (Na.bitLen (10 ^ X) : Int) - Na.bitLen (Dc.nv s.data.toList) + 70 ≤ 0
      · exact r8_bits_frac_0 n s x X 0 w hX hr (by omega) (by omega) (by omega) ⟨hk, rfl⟩
      · obtain ⟨k, hk2⟩ : ∃ k : Nat, (Na.bitLen (10 ^ X) : Int) - Na.bitLen (Dc.nv s.data.toList) + 70 = (k : Int) := ⟨((Na.bitLen (10 ^ X) : Int) - Na.bitLen (Dc.nv s.data.toList) + 70).toNat, by omega⟩
        exact r8_bits_frac_k n s x X k w hX hr (by omega) (by omega) (by omega) ⟨hk2, by omega⟩
end Go.Proofs.YtjnkbifafbjckaaGreatDoor
