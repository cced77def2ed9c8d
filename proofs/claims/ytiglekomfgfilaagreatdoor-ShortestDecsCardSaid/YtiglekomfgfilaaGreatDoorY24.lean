/- The Reader in the program: the quick road. -/
import Derived.Test.YtiglekomfgfilaaGreatDoorY23
import Derived.Test.YtiglekomfgfilaaGreatDoorY9
import Derived.Test.YtiglekomfgfilaaGreatDoorY22
import Derived.Test.YtiglekomfgfilaaGreatDoorY2
import Derived.Lib.ParseIntBCases
import Derived.Lib.AtoiErrMem
import Derived.Test.YtiglekomfgfilaaGreatDoorY10
import Derived.Test.YtiglekomfgfilaaGreatDoorY8
namespace Go.Proofs.YtiglekomfgfilaaGreatDoor
set_option maxRecDepth 100000
set_option maxHeartbeats 8000000
set_option linter.all false
open Go.RowKit
def Fl.quickOf (m : Nat) (x : Int) : Nat × Bool :=
  if Fl.pwA x = true then (Fl.rd (Fl.pwP x * m) (Fl.pwE x) false, true)
  else (Fl.rd (Fl.pwP x * m) (Fl.pwE x) false, decide (Fl.rd (Fl.pwP x * m + m) (Fl.pwE x) false = Fl.rd (Fl.pwP x * m) (Fl.pwE x) false))
theorem Fl.quick_sure {l : Dc.Bs} {x : Int} (hx : -100000 ≤ x) (h : (Fl.quickOf (Dc.nv l) x).2 = true) : (Fl.quickOf (Dc.nv l) x).1 = Fl.bits l x := by
  unfold Fl.quickOf at h ⊢
  by_cases hA : Fl.pwA x = true
  · rw [if_pos hA]
    exact Fl.quick_near hx rfl (Fl.pw x) (Or.inl hA)
  · rw [if_neg hA] at h ⊢
    exact Fl.quick_near hx rfl (Fl.pw x) (Or.inr (of_decide_eq_true h))
theorem Fl.w3_more {p m l a : Nat} (hl : l < 18446744073709551616) (ha : a < 18446744073709551616) (hm : m < 18446744073709551616) :
    Fl.w3 p m l + a = Fl.w3 (p + (if 18446744073709551616 ≤ m + (l + a) / 18446744073709551616 then 1 else 0)) ((m + (l + a) / 18446744073709551616) % 18446744073709551616) ((l + a) % 18446744073709551616) := by
  unfold Fl.w3
  split <;> omega
theorem re_quick_all (b m : Nat) (x : Int) (w : World) (hx : -400 ≤ x ∧ x ≤ 400) (hm : m < 18446744073709551616) (hr : Rdr w b) (hA : Fl.pwA x = true) (hE : -10000 ≤ Fl.pwE x ∧ Fl.pwE x ≤ 1900) :
    Calls Tryz.prog 125 #[.pointer (some ⟨b, 0, none⟩), .int .u64 m, .int .i64 x] w (RetR b (.tuple #[.int .u64 ((Fl.rd (Fl.pwP x * m) (Fl.pwE x) false : Nat) : Int), .bool true]) w) := by
  have h1 := fun w1 (h : Rdr w1 b) => re_of_any b x w1 hx h
  have hP := (Fl.pw_range x).2
  simp only [Fl.pval] at h1
  rw [hA] at h1
  obtain ⟨A, hAe⟩ : ∃ A, A = Fl.pwP x / 18446744073709551616 := ⟨_, rfl⟩
  obtain ⟨B, hBe⟩ : ∃ A, A = Fl.pwP x % 18446744073709551616 := ⟨_, rfl⟩
  obtain ⟨C, hC⟩ : ∃ A, A = Fl.pwE x := ⟨_, rfl⟩
  rw [← hAe, ← hBe, ← hC] at h1
  have hAB : A * 18446744073709551616 + B = Fl.pwP x := by omega
  have h2 := fun w1 => wi_times_any A B m w1 (by omega) (by omega) hm
  rw [hAB] at h2
  rw [← hC] at hE ⊢
  obtain ⟨N, hN⟩ : ∃ N, N = Fl.pwP x * m := ⟨_, rfl⟩
  rw [← hN] at h2 ⊢
  have h3 := fun (p q l : Nat) w1 (hp : p < 18446744073709551616) (hq : q < 18446744073709551616) (hl : l < 18446744073709551616) => re_join_any p q l C w1 hp hq hl hE
  have H1 := Lib.hid h1; have H2 := Lib.hid h2; have H3 := Lib.hid h3
  have hbl := hr.lt
  have HR := Lib.hid hr
  clear h1 h2 h3 hAB hAe hBe hC hN hP hr hA
  go_enter Tryz.func125, Tryz.ntmps125
  go_wp2_with (first
    | (go_at_call 150; (with_reducible refine (H1.out _ HR.out).mono ?_); rintro e w1 ⟨rfl, ho, hrd⟩; have hws := ho.size)
    | (go_at_call 151; (with_reducible refine (H2.out _).mono ?_); rintro e w2 ⟨p, q, l, rfl, hp, hq, hl, hsum, hb2⟩; have hc2 := (CF.new w1 [.int .u64 A, .int .u64 B, .int .i64 C, .bool true] 93).on hb2; have y0 := hc2.1.get 0 rfl; have y1 := hc2.1.get 1 rfl; have y2 := hc2.1.get 2 rfl; have y3 := hc2.1.get 3 rfl; have yl := hc2.1.1; have hz2 := hb2.size)
    | (go_at_call 152; (with_reducible refine (H3.out _ _ _ _ hp hq hl).mono ?_); rintro e w3 ⟨rfl, hb3⟩; have hc3 := (hc2.alloc (.cells #[.int .u64 p, .int .u64 q, .int .u64 l] 176)).on hb3; have z3 := hc3.1.get 3 rfl; have zl := hc3.1.1))
  have hz1 : w1.heap.size ≤ w2.heap.size := by simpa using (Nat.le_trans (Nat.le_succ _) (by simpa using hz2))
  have hB1 : Below w.heap.size w1 w2 := Below.trans ((Below.refl _ _).alloc hws _) (hb2.mono (by simp; omega))
  have hB2 : Below w.heap.size w1 w3 := Below.trans (hB1.alloc (by omega) _) (hb3.mono (by simp; omega))
  refine bodyPost_ret (v := .tuple #[.int .u64 ((Fl.rd (Fl.w3 p q l) C false : Nat) : Int), .bool true]) (by (simp [results, Tryz.results125, go_sem]; done)) rfl ⟨by rw [hsum], ho.own hB2 hbl, hrd.below hB2 hbl⟩
theorem wi_add_part (q l m : Nat) (hq : q < 18446744073709551616) (hl : l < 18446744073709551616) (hm : m < 18446744073709551616) : ∃ (a b : Nat) (o : Bool), a < 18446744073709551616 ∧ b < 18446744073709551616 ∧ (∀ p, Fl.w3 p q l + m = Fl.w3 (p + o.toNat) a b) ∧
    ∀ w, Calls Tryz.prog 153 #[.agg #[.int .u64 q, .int .u64 l], .agg #[.int .u64 0, .int .u64 m]] w (RetB (.tuple #[.agg #[.int .u64 a, .int .u64 b], .bool o]) w) := by
  refine ⟨(q + 0 + (l + m) / 18446744073709551616) % 18446744073709551616, (l + m) % 18446744073709551616, decide (18446744073709551616 ≤ q + 0 + (l + m) / 18446744073709551616), Nat.mod_lt _ (by decide), Nat.mod_lt _ (by decide), fun p => ?_, fun w => wi_add_any q l 0 m w hq hl (by decide) hm⟩
  rw [Fl.w3_more hl hm hq, Nat.add_zero]
  by_cases c : 18446744073709551616 ≤ q + (l + m) / 18446744073709551616
  · rw [if_pos c, decide_eq_true c]; rfl
  · rw [if_neg c, decide_eq_false c]; rfl
theorem Fl.w3_top {p q l N : Nat} (h : Fl.w3 p q l = N) (hN : N < 6277101735386680763835789423207666416102355444464034512896) : p < 18446744073709551616 := by
  unfold Fl.w3 at h
  omega
theorem re_quick_part (b m : Nat) (x : Int) (w : World) (hx : -400 ≤ x ∧ x ≤ 400) (hm : m < 18446744073709551616) (hr : Rdr w b) (hA : Fl.pwA x = false) (hE : -10000 ≤ Fl.pwE x ∧ Fl.pwE x ≤ 1900) :
    Calls Tryz.prog 125 #[.pointer (some ⟨b, 0, none⟩), .int .u64 m, .int .i64 x] w (RetR b (.tuple #[.int .u64 ((Fl.rd (Fl.pwP x * m) (Fl.pwE x) false : Nat) : Int), .bool (decide (Fl.rd (Fl.pwP x * m + m) (Fl.pwE x) false = Fl.rd (Fl.pwP x * m) (Fl.pwE x) false))]) w) := by
  have h1 := fun w1 (h : Rdr w1 b) => re_of_any b x w1 hx h
  have hP := (Fl.pw_range x).2
  simp only [Fl.pval] at h1
  rw [hA] at h1
  obtain ⟨A, hAe⟩ : ∃ A, A = Fl.pwP x / 18446744073709551616 := ⟨_, rfl⟩
  obtain ⟨B, hBe⟩ : ∃ A, A = Fl.pwP x % 18446744073709551616 := ⟨_, rfl⟩
  obtain ⟨C, hC⟩ : ∃ A, A = Fl.pwE x := ⟨_, rfl⟩
  rw [← hAe, ← hBe, ← hC] at h1
  have hAB : A * 18446744073709551616 + B = Fl.pwP x := by omega
  have h2 := fun w1 => wi_times_any A B m w1 (by omega) (by omega) hm
  rw [hAB] at h2
  rw [← hC] at hE ⊢
  have hN2 : Fl.pwP x * m + m < 6277101735386680763835789423207666416102355444464034512896 := by
    have h := Nat.mul_le_mul (show Fl.pwP x + 1 ≤ 340282366920938463463374607431768211456 by omega) (show m ≤ 18446744073709551615 by omega)
    rw [Nat.add_mul, Nat.one_mul] at h
    omega
  obtain ⟨N, hN⟩ : ∃ N, N = Fl.pwP x * m := ⟨_, rfl⟩
  rw [← hN] at h2 hN2 ⊢
  have h3 := fun (p q l : Nat) w1 (hp : p < 18446744073709551616) (hq : q < 18446744073709551616) (hl : l < 18446744073709551616) => re_join_any p q l C w1 hp hq hl hE
  have h4 := fun (q l : Nat) (hq : q < 18446744073709551616) (hl : l < 18446744073709551616) => wi_add_part q l m hq hl hm
  have H1 := Lib.hid h1; have H2 := Lib.hid h2; have H3 := Lib.hid h3; have H4 := Lib.hid h4
  have hbl := hr.lt
  have HR := Lib.hid hr
  have tok1 : True := trivial
  have HN2 := Lib.hid hN2
  clear h1 h2 h3 h4 hAB hAe hBe hC hN hP hr hA hN2
  go_enter Tryz.func125, Tryz.ntmps125
  go_upto_region 8 with (first
    | (go_at_call 150; (with_reducible refine (H1.out _ HR.out).mono ?_); rintro e w1 ⟨rfl, ho, hrd⟩; have hws := ho.size)
    | (go_at_call 151; (with_reducible refine (H2.out _).mono ?_); rintro e w2 ⟨p, q, l, rfl, hp, hq, hl, hsum, hb2⟩; have hc2 := (CF.new w1 [.int .u64 A, .int .u64 B, .int .i64 C, .bool false] 93).on hb2; have y0 := hc2.1.get 0 rfl; have y1 := hc2.1.get 1 rfl; have y2 := hc2.1.get 2 rfl; have y3 := hc2.1.get 3 rfl; have yl := hc2.1.1; have hz2 := hb2.size; obtain ⟨a, b', o, ha, hb', hw3, hadd⟩ := H4.out q l hq hl; have HW3 := Lib.hid hw3; have HADD := Lib.hid hadd; clear hw3 hadd)
    | (go_at_call 152; (with_reducible refine (H3.out _ _ _ _ hp hq hl).mono ?_); rintro e w3 ⟨rfl, hb3⟩; have hc3 := (hc2.alloc (.cells #[.int .u64 p, .int .u64 q, .int .u64 l] 176)).on hb3; have z0 := hc3.1.get 0 rfl; have z1 := hc3.1.get 1 rfl; have z2 := hc3.1.get 2 rfl; have z3 := hc3.1.get 3 rfl; have zl := hc3.1.1; have hd3 := (CF.new w2 [.int .u64 p, .int .u64 q, .int .u64 l] 176).on hb3; have x0 := hd3.1.get 0 rfl; have x1 := hd3.1.get 1 rfl; have x2 := hd3.1.get 2 rfl; have xl := hd3.1.1; have hz3 := hb3.size)
    | (go_at_call 154; (with_reducible refine (wi_low_any p q l _).mono ?_); rintro e w4 ⟨rfl, hb4⟩; have hc4 := hc3.on hb4; have hd4 := hd3.on hb4)
    | (go_at_call 153; (with_reducible refine (HADD.out _).mono ?_); rintro e w5 ⟨rfl, hb5⟩; have hc5 := hc4.on hb5; have hd5 := hd4.on hb5; have u0 := hd5.1.get 0 rfl; have u1 := hd5.1.get 1 rfl; have u2 := hd5.1.get 2 rfl; have ul := hd5.1.1; have v0 := hc5.1.get 0 rfl; have v1 := hc5.1.get 1 rfl; have v2 := hc5.1.get 2 rfl; have v3 := hc5.1.get 3 rfl; have vl := hc5.1.1))
  have hz4 := hb4.size; have hz5 := hb5.size
  have hsz : w1.heap.size ≤ w2.heap.size := by simpa using (Nat.le_trans (Nat.le_succ _) (by simpa using hz2))
  have hB1 : Below w.heap.size w1 w2 := Below.trans ((Below.refl _ _).alloc hws _) (hb2.mono (by simp; omega))
  have hB3 : Below w.heap.size w1 w3 := Below.trans (hB1.alloc (by omega) _) (hb3.mono (by simp; omega))
  have hsz3 : w.heap.size ≤ w3.heap.size := Nat.le_trans hws hB3.size
  have hB5 : Below w.heap.size w1 w5 := (hB3.trans (hb4.mono hsz3)).trans (hb5.mono (Nat.le_trans hsz3 hz4))
  have hsz5 : w.heap.size ≤ w5.heap.size := Nat.le_trans hws hB5.size
  have ht : CF ((w5.alloc (.cells #[.int .u64 a, .int .u64 b'] 91)).alloc (.cells #[.int .u64 p, .int .u64 a, .int .u64 b'] 176)) (w5.heap.size + 1) [.int .u64 p, .int .u64 a, .int .u64 b'] := by
    have h := CF.new (w5.alloc (.cells #[.int .u64 a, .int .u64 b'] 91)) [.int .u64 p, .int .u64 a, .int .u64 b'] 176
    rw [World.size_alloc] at h; exact h
  have hBX : Below w.heap.size w1 ((w5.alloc (.cells #[.int .u64 a, .int .u64 b'] 91)).alloc (.cells #[.int .u64 p, .int .u64 a, .int .u64 b'] 176)) := (hB5.alloc hsz5 _).alloc (by simp; omega) _
  have hcX : CF ((w5.alloc (.cells #[.int .u64 a, .int .u64 b'] 91)).alloc (.cells #[.int .u64 p, .int .u64 a, .int .u64 b'] 176)) w1.heap.size [.int .u64 A, .int .u64 B, .int .i64 C, .bool false] := (hc5.alloc _).alloc _
  have hne : w5.heap.size + 1 ≠ w1.heap.size := by omega
  obtain ⟨X, hX⟩ : ∃ X, X = ((w5.alloc (.cells #[.int .u64 a, .int .u64 b'] 91)).alloc (.cells #[.int .u64 p, .int .u64 a, .int .u64 b'] 176)) := ⟨_, rfl⟩
  rw [← hX] at ht hBX hcX ⊢
  clear hX u0 u1 u2 ul v0 v1 v2 v3 vl x0 x1 x2 xl z0 z1 z2 z3 zl y0 y1 y2 y3 yl hb2 hb3 hb4 hb5 hc2 hc3 hc4 hc5 hd3 hd4 hd5 hB1 hB3 hB5
  obtain ⟨g, hg⟩ : ∃ g, g = w5.heap.size + 1 := ⟨_, rfl⟩
  rw [← hg] at ht hne ⊢
  have hgl : w.heap.size ≤ g := by omega
  obtain ⟨R1, hR1⟩ : ∃ R, R = Fl.rd (Fl.w3 p q l) C false := ⟨_, rfl⟩
  rw [← hR1]
  have HR1 := Lib.hid (show R1 = Fl.rd N C false by rw [hR1, hsum])
  have HO := Lib.hid ho; have HRD := Lib.hid hrd; have HBX := Lib.hid hBX
  have h3' := HW3.out p
  cases o with
  | false =>
    obtain ⟨R2, hR2⟩ : ∃ R, R = Fl.rd (Fl.w3 (p + false.toNat) a b') C false := ⟨_, rfl⟩
    have HR2 := Lib.hid (show R2 = Fl.rd (N + m) C false by rw [hR2, hsum, h3'])
    have hj := fun w1 => H3.out p a b' w1 hp ha hb'
    rw [show p = p + false.toNat from rfl, ← hR2] at hj
    have HJ := Lib.hid (fun w1 => (show Calls Tryz.prog 152 #[.agg #[.int .u64 p, .int .u64 a, .int .u64 b'], .int .i64 C] w1 (RetB (.int .u64 (R2 : Nat)) w1) from hj w1))
    have t0 := ht.1.get 0 rfl; have t1 := ht.1.get 1 rfl; have t2 := ht.1.get 2 rfl; have tl := ht.1.1
    have s2 := hcX.1.get 2 rfl; have sl := hcX.1.1
    clear hj h3' HW3 HADD H1 H2 H3 H4 HN2 hg ht hcX hR1 hR2
    go_wp2_with (first | (go_at_call 152; (with_reducible refine (HJ.out _).mono ?_); rintro e w6 ⟨rfl, hb6⟩))
    refine bodyPost_ret (v := .tuple #[.int .u64 (R1 : Nat), .bool ((R2 : Int) == (R1 : Int))]) (by (simp [results, Tryz.results125, go_sem]; done)) rfl ⟨?_, HO.out.own (HBX.out.trans (hb6.mono (Nat.le_trans hws HBX.out.size))) hbl, HRD.out.below (HBX.out.trans (hb6.mono (Nat.le_trans hws HBX.out.size))) hbl⟩
    rw [show ((R2 : Int) == (R1 : Int)) = decide (R2 = R1) by rw [Bool.eq_iff_iff]; simp only [beq_iff_eq, decide_eq_true_eq]; omega, HR1.out, HR2.out]
  | true =>
    have hp1 : p + 1 < 18446744073709551616 := Fl.w3_top h3'.symm (by rw [← hsum]; exact HN2.out)
    obtain ⟨R2, hR2⟩ : ∃ R, R = Fl.rd (Fl.w3 (p + true.toNat) a b') C false := ⟨_, rfl⟩
    have HR2 := Lib.hid (show R2 = Fl.rd (N + m) C false by rw [hR2, hsum, h3'])
    obtain ⟨p1, hp1e⟩ : ∃ p1, p1 = p + 1 := ⟨_, rfl⟩
    have hj := fun w1 => H3.out p1 a b' w1 (by omega) ha hb'
    rw [hp1e, show p + 1 = p + true.toNat from rfl, ← hR2] at hj
    have HJ := Lib.hid (fun w1 => (show Calls Tryz.prog 152 #[.agg #[.int .u64 (p1 : Nat), .int .u64 a, .int .u64 b'], .int .i64 C] w1 (RetB (.int .u64 (R2 : Nat)) w1) from (by rw [hp1e]; exact hj w1)))
    have hpi : (p : Int) + 1 = (p1 : Int) := by omega
    have hp1l : p1 < 18446744073709551616 := by omega
    have t0 := ht.1.get 0 rfl; have t1 := ht.1.get 1 rfl; have t2 := ht.1.get 2 rfl; have tl := ht.1.1; have tf := ht.2 0
    have s2 := hcX.1.get 2 rfl; have sl := hcX.1.1
    clear hj h3' HW3 HADD H1 H2 H3 H4 HN2 hg ht hcX hR1 hR2 hp1e
    go_wp2_with (first | (go_at_call 152; (with_reducible refine (HJ.out _).mono ?_); rintro e w6 ⟨rfl, hb6⟩))
    have hBY : Below w.heap.size w1 (X.setCell ⟨g, 0, none⟩ (.int .u64 (p1 : Nat))) := HBX.out.setCell hgl _
    refine bodyPost_ret (v := .tuple #[.int .u64 (R1 : Nat), .bool ((R2 : Int) == (R1 : Int))]) (by (simp [results, Tryz.results125, go_sem]; done)) rfl ⟨?_, HO.out.own (hBY.trans (hb6.mono (Nat.le_trans hws hBY.size))) hbl, HRD.out.below (hBY.trans (hb6.mono (Nat.le_trans hws hBY.size))) hbl⟩
    rw [show ((R2 : Int) == (R1 : Int)) = decide (R2 = R1) by rw [Bool.eq_iff_iff]; simp only [beq_iff_eq, decide_eq_true_eq]; omega, HR1.out, HR2.out]
end Go.Proofs.YtiglekomfgfilaaGreatDoor

/- The Reader in the program: the parts of the size of a decimal: digits as a number, the slow road whole, the quick road whole. -/
namespace Go.Proofs.YtiglekomfgfilaaGreatDoor
set_option linter.all false
open Go.RowKit
theorem Fl.uintM : ∀ (l : Dc.Bs) (acc : Nat), Dc.allDig l = true → (acc + 1) * 10 ^ l.length ≤ 10000000000000000000 → Lib.parseUintM (2 ^ 64 - 1) acc l = .ok (l.foldl (fun a c => 10 * a + (c.toNat - 48)) acc)
  | [], acc, _, _ => rfl
  | c :: r, acc, hd, h => by
    have hc : Dc.isDig c = true ∧ Dc.allDig r = true := by simpa [Dc.allDig] using hd
    obtain ⟨hc, hr⟩ := hc
    have hc2 : 48 ≤ c.toNat ∧ c.toNat ≤ 57 := by unfold Dc.isDig at hc; simp at hc; omega
    have hp : 0 < 10 ^ r.length := Nat.pow_pos (by decide)
    rw [List.length_cons, Nat.pow_succ] at h
    have h2 : (acc * 10 + (c.toNat - 48) + 1) * 10 ^ r.length ≤ 10000000000000000000 := by
      refine Nat.le_trans ?_ h
      rw [Nat.mul_comm (10 ^ r.length) 10, ← Nat.mul_assoc]
      exact Nat.mul_le_mul_right _ (by omega)
    have h3 : acc * 10 + (c.toNat - 48) + 1 ≤ 10000000000000000000 := Nat.le_trans (Nat.le_mul_of_pos_right _ hp) h2
    rw [Lib.parseUintM, if_pos hc2, if_neg (by omega), if_neg (by omega), List.foldl_cons, Nat.mul_comm 10 acc]
    exact Fl.uintM r _ hr h2
theorem Fl.uint_all {l : Dc.Bs} (hd : Dc.allDig l = true) (hne : l ≠ []) (hl : l.length ≤ 19) : Lib.parseUintB 64 l = .ok (Dc.nv l) := by
  rw [Lib.parseUintB, if_neg hne]
  refine Fl.uintM l 0 hd ?_
  rw [Nat.zero_add, Nat.one_mul]
  exact Nat.le_trans (Nat.pow_le_pow_right (by decide) hl) (by decide)
theorem re_uint (s : ByteArray) (w : World) (hd : Dc.allDig s.data.toList = true) (hne : s.data.toList ≠ []) (hl : s.size ≤ 19) :
    Calls Tryz.prog 122 #[.string s, .int .i64 10, .int .i64 64] w (RetB (.tuple #[.int .u64 (Dc.nv s.data.toList : Nat), .nilIface]) w) := by
  refine (Tryz.strconv_ParseUint_10_at64_ok s (by omega) (Dc.nv s.data.toList) (Fl.uint_all hd hne (by rw [bs_length]; exact hl)) w).mono ?_
  rintro e w' ⟨rfl, h⟩
  refine ⟨rfl, ?_⟩
  rcases h with rfl | rfl
  · exact Below.refl _ _
  · exact Lib.bytesWorld_below _ _ _
theorem re_slow_any (n : Bool) (s : ByteArray) (x : Int) (w : World) (hr : Dc.right s.data.toList x = true) (h0 : s.size ≠ 0) (hend : -330 ≤ (s.size : Int) + x ∧ (s.size : Int) + x ≤ 310) :
    Calls Tryz.prog 126 #[.agg #[.bool n, .string s, .int .i64 x]] w (RetB (.int .u64 ((Fl.bits s.data.toList x : Nat) : Int)) w) := by
  by_cases h : 0 ≤ x
  · obtain ⟨X, rfl⟩ : ∃ X : Nat, x = X := ⟨x.toNat, by omega⟩
    exact re_slow_up n s X w hr h0 hend.2
  · exact re_slow_down n s x (-x).toNat (max 0 ((Na.bitLen (10 ^ (-x).toNat) : Int) - Na.bitLen (Dc.nv s.data.toList) + 66)).toNat w (by omega) hr h0 hend (by omega) (by omega)
theorem Fl.pwE_range {x : Int} (hx : -400 ≤ x ∧ x ≤ 400) : -10000 ≤ Fl.pwE x ∧ Fl.pwE x ≤ 1900 := by
  unfold Fl.pwE
  split
  · have := Fl.ten_len (-x).toNat; omega
  · have := Fl.ten_len x.toNat; omega
theorem re_quick_any (b m : Nat) (x : Int) (w : World) (hx : -400 ≤ x ∧ x ≤ 400) (hm : m < 18446744073709551616) (hr : Rdr w b) :
    Calls Tryz.prog 125 #[.pointer (some ⟨b, 0, none⟩), .int .u64 m, .int .i64 x] w (RetR b (.tuple #[.int .u64 ((Fl.quickOf m x).1 : Nat), .bool (Fl.quickOf m x).2]) w) := by
  unfold Fl.quickOf
  by_cases hA : Fl.pwA x = true
  · rw [if_pos hA]; exact re_quick_all b m x w hx hm hr hA (Fl.pwE_range hx)
  · rw [if_neg hA]; exact re_quick_part b m x w hx hm hr (Bool.eq_false_iff.2 hA) (Fl.pwE_range hx)
end Go.Proofs.YtiglekomfgfilaaGreatDoor

/- The Reader in the program: the size of a decimal: its ends; the slow road alone; the quick road. -/
namespace Go.Proofs.YtiglekomfgfilaaGreatDoor
set_option maxRecDepth 100000
set_option maxHeartbeats 4000000
set_option linter.all false
open Go.RowKit
theorem DecB.onl {W W' : World} {b c : Nat} {n : Bool} {s : ByteArray} {x : Int} (h : DecB W b n s x) (ho : Onl c W W') (hne : b ≠ c) : DecB W' b n s x :=
  ⟨(ho.cell hne h.2.2.2).trans h.1, (ho.cell hne h.2.2.2).trans h.2.1, (ho.cell hne h.2.2.2).trans h.2.2.1, Nat.lt_of_lt_of_le h.2.2.2 ho.size⟩
theorem re_size_end (b : Nat) (n : Bool) (s : ByteArray) (x : Int) (w : World) (hr : Dc.right s.data.toList x = true) (hR : Rdr w b) (hend : s.size = 0 ∨ (s.size : Int) + x < -330 ∨ 310 < (s.size : Int) + x) :
    Calls Tryz.prog 100 #[.pointer (some ⟨b, 0, none⟩), .agg #[.bool n, .string s, .int .i64 x]] w (RetR b (.int .u64 ((Fl.bits s.data.toList x : Nat) : Int)) w) := by
  obtain ⟨hp, hs, hx1, hx2⟩ := r8_point_facts hr
  have hP := fun w => d_point_any n s x w (by omega)
  rw [hp] at hP
  have hb0 : Below w.heap.size w (w.alloc (Obj.cells #[Value.bool n, Value.string s, Value.int IntKind.i64 x] 27)) := (Below.refl _ _).alloc (Nat.le_refl _) _
  have dd0 := DecB.new w n s x
  obtain ⟨Z, hZ⟩ : ∃ Z, Z = Fl.bits s.data.toList x := ⟨_, rfl⟩
  rw [← hZ]
  have HP := Lib.hid hP
  have hF : ∀ w', Below w.heap.size w w' → Onl b w w' ∧ Rdr w' b := fun w' h => ⟨hR.onl h, hR.on h⟩
  have HF := Lib.hid hF
  clear hF hR
  by_cases h0 : s.size = 0
  · have hl : s.data.toList = [] := List.eq_nil_of_length_eq_zero (by rw [bs_length]; exact h0)
    have hx0 : x = 0 := by rw [hl] at hr; simpa [Dc.right] using hr
    have hb : Fl.bits s.data.toList x = 0 := by rw [hl, hx0]; exact Fl.bits_nil
    rw [hb] at hZ; subst hZ
    have hz := isEmpty_of_zero h0
    clear hl hx0 hb hr hend hP hp
    go_enter Tryz.func100, Tryz.ntmps100
    go_wp2_with (first
      | (go_at_call 73; (with_reducible refine (HP.out _).mono ?_); rintro e w1 ⟨rfl, hb1⟩; have hB1 : Below w.heap.size w w1 := hb0.trans (hb1.mono (by simp)); obtain ⟨y0, y1, y2, yl⟩ := dd0.on hb1))
    go_ret
    exact ⟨rfl, HF.out _ hB1⟩
  · have hz := isEmpty_of_pos (s := s) (by omega)
    have hne : s.data.toList ≠ [] := fun e => h0 (by have := congrArg List.length e; rwa [bs_length] at this)
    obtain ⟨P, hPe⟩ : ∃ P, P = (s.size : Int) + x := ⟨_, rfl⟩
    rw [← hPe] at HP hend
    by_cases hm : P < -330
    · have hb : Fl.bits s.data.toList x = 0 := Fl.bits_tiny hr hne (by rw [bs_length]; omega)
      rw [hb] at hZ; subst hZ
      clear hne hb hr hend hP hp hPe h0
      go_enter Tryz.func100, Tryz.ntmps100
      go_wp2_with (first
        | (go_at_call 73; (with_reducible refine (HP.out _).mono ?_); rintro e w1 ⟨rfl, hb1⟩; have hB1 : Below w.heap.size w w1 := hb0.trans (hb1.mono (by simp)); obtain ⟨y0, y1, y2, yl⟩ := dd0.on hb1))
      go_ret
      exact ⟨rfl, HF.out _ hB1⟩
    · have hm2 : 310 < P := by omega
      have hb : Fl.bits s.data.toList x = 9218868437227405312 := Fl.bits_huge hr hne (by rw [bs_length]; omega)
      rw [hb] at hZ; subst hZ
      clear hne hb hr hend hP hp hPe h0
      go_enter Tryz.func100, Tryz.ntmps100
      go_wp2_with (first
        | (go_at_call 73; (with_reducible refine (HP.out _).mono ?_); rintro e w1 ⟨rfl, hb1⟩; have hB1 : Below w.heap.size w w1 := hb0.trans (hb1.mono (by simp)); obtain ⟨y0, y1, y2, yl⟩ := dd0.on hb1))
      go_ret
      exact ⟨rfl, HF.out _ hB1⟩
theorem re_size_long (b : Nat) (n : Bool) (s : ByteArray) (x : Int) (w : World) (hr : Dc.right s.data.toList x = true) (hR : Rdr w b) (hend : -330 ≤ (s.size : Int) + x ∧ (s.size : Int) + x ≤ 310) (hl : 19 < s.size) :
    Calls Tryz.prog 100 #[.pointer (some ⟨b, 0, none⟩), .agg #[.bool n, .string s, .int .i64 x]] w (RetR b (.int .u64 ((Fl.bits s.data.toList x : Nat) : Int)) w) := by
  obtain ⟨hp, hs, hx1, hx2⟩ := r8_point_facts hr
  have hP := fun w => d_point_any n s x w (by omega)
  rw [hp] at hP
  have hS := fun w => re_slow_any n s x w hr (by omega) hend
  have hb0 : Below w.heap.size w (w.alloc (Obj.cells #[Value.bool n, Value.string s, Value.int IntKind.i64 x] 27)) := (Below.refl _ _).alloc (Nat.le_refl _) _
  have dd0 := DecB.new w n s x
  obtain ⟨Z, hZ⟩ : ∃ Z, Z = Fl.bits s.data.toList x := ⟨_, rfl⟩
  rw [← hZ] at hS ⊢
  have hF : ∀ w', Below w.heap.size w w' → Onl b w w' ∧ Rdr w' b := fun w' h => ⟨hR.onl h, hR.on h⟩
  have hz := isEmpty_of_pos (s := s) (by omega)
  obtain ⟨P, hPe⟩ : ∃ P, P = (s.size : Int) + x := ⟨_, rfl⟩
  rw [← hPe] at hP hend
  have HP := Lib.hid hP; have HS := Lib.hid hS; have HF := Lib.hid hF
  obtain ⟨e1, e2⟩ := hend
  clear hF hR hP hS hr hp hPe hZ
  go_enter Tryz.func100, Tryz.ntmps100
  go_wp2_with (first
    | (go_at_call 73; (with_reducible refine (HP.out _).mono ?_); rintro e w1 ⟨rfl, hb1⟩; have hB1 : Below w.heap.size w w1 := hb0.trans (hb1.mono (by simp)); have dd1 := dd0.on hb1; obtain ⟨y0, y1, y2, yl⟩ := id dd1)
    | (go_at_call 126; (with_reducible refine (HS.out _).mono ?_); rintro e w2 ⟨rfl, hb2⟩; have hB2 : Below w.heap.size w w2 := hB1.trans (hb2.mono hB1.size)))
  go_ret
  exact ⟨rfl, HF.out _ hB2⟩
theorem re_size_quick (b : Nat) (n : Bool) (s : ByteArray) (x : Int) (w : World) (hr : Dc.right s.data.toList x = true) (hR : Rdr w b) (hend : -330 ≤ (s.size : Int) + x ∧ (s.size : Int) + x ≤ 310) (h0 : s.size ≠ 0) (hl : s.size ≤ 19) (hc : 15 < s.size ∨ s.size ≤ 15 ∧ x < 0 ∨ s.size ≤ 15 ∧ 22 < x) :
    Calls Tryz.prog 100 #[.pointer (some ⟨b, 0, none⟩), .agg #[.bool n, .string s, .int .i64 x]] w (RetR b (.int .u64 ((Fl.bits s.data.toList x : Nat) : Int)) w) := by
  obtain ⟨hp, hs, hx1, hx2⟩ := r8_point_facts hr
  have hdig := Dc.right_dig hr
  have hne : s.data.toList ≠ [] := fun e => h0 (by have := congrArg List.length e; rwa [bs_length] at this)
  have hP := fun w => d_point_any n s x w (by omega)
  rw [hp] at hP
  have hS := fun w => re_slow_any n s x w hr h0 hend
  have hU := fun w => re_uint s w hdig hne hl
  have hN := Dc.nv_lt hdig
  rw [bs_length] at hN
  have hN64 : Dc.nv s.data.toList < 18446744073709551616 := Nat.lt_of_lt_of_le hN (Nat.le_trans (Nat.pow_le_pow_right (by decide) hl) (by decide))
  have hQ := fun w1 (h : Rdr w1 b) => re_quick_any b (Dc.nv s.data.toList) x w1 (by omega) hN64 h
  have hsure := Fl.quick_sure (l := s.data.toList) (x := x) (by omega)
  have hb0 : Below w.heap.size w (w.alloc (Obj.cells #[Value.bool n, Value.string s, Value.int IntKind.i64 x] 27)) := (Below.refl _ _).alloc (Nat.le_refl _) _
  have dd0 := DecB.new w n s x
  obtain ⟨Z, hZ⟩ : ∃ Z, Z = Fl.bits s.data.toList x := ⟨_, rfl⟩
  rw [← hZ] at hS hsure ⊢
  obtain ⟨m, hme⟩ : ∃ m, m = Dc.nv s.data.toList := ⟨_, rfl⟩
  rw [← hme] at hU hQ hsure
  obtain ⟨q1, hq1⟩ : ∃ q, q = (Fl.quickOf m x).1 := ⟨_, rfl⟩
  obtain ⟨q2, hq2⟩ : ∃ q, q = (Fl.quickOf m x).2 := ⟨_, rfl⟩
  rw [← hq1, ← hq2] at hQ hsure
  have hbl := hR.lt
  have hF : ∀ w1 w2 w', Below w.heap.size w w1 → Onl b w1 w2 → Rdr w2 b → Below w2.heap.size w2 w' → Onl b w w' ∧ Rdr w' b := fun w1 w2 w' h1 h2 h3 h4 => ⟨((hR.onl h1).trans h2).own (h4.mono (Nat.le_trans h1.size h2.size)) hbl, h3.on h4⟩
  have hz := isEmpty_of_pos (s := s) (by omega)
  obtain ⟨P, hPe⟩ : ∃ P, P = (s.size : Int) + x := ⟨_, rfl⟩
  rw [← hPe] at hP hend
  have HP := Lib.hid hP; have HS := Lib.hid hS; have HF := Lib.hid hF; have HU := Lib.hid hU; have HQ := Lib.hid hQ; have HR := Lib.hid hR
  obtain ⟨e1, e2⟩ := hend
  clear hF hR hP hS hU hQ hr hp hPe hZ hq1 hq2 hme hN hN64 hdig hne
  have hwalk : ∀ q2 : Bool, (q2 = true → q1 = Z) → (∀ w1 (h : Rdr w1 b), Calls Tryz.prog 125 #[.pointer (some ⟨b, 0, none⟩), .int .u64 m, .int .i64 x] w1 (RetR b (.tuple #[.int .u64 (q1 : Nat), .bool q2]) w1)) → Calls Tryz.prog 100 #[.pointer (some ⟨b, 0, none⟩), .agg #[.bool n, .string s, .int .i64 x]] w (RetR b (.int .u64 ((Z : Nat) : Int)) w) := by
    clear HQ hsure q2
    intro q2 hs2 hQ
    have HQ := Lib.hid hQ
    clear hQ
    cases q2 with
    | true =>
      obtain rfl := hs2 rfl
      rcases hc with hc | ⟨hc, hd⟩ | ⟨hc, hd⟩
      all_goals (
        go_enter Tryz.func100, Tryz.ntmps100
        go_wp2_with (first
          | (go_at_call 73; (with_reducible refine (HP.out _).mono ?_); rintro e w1 ⟨rfl, hb1⟩; have hB1 : Below w.heap.size w w1 := hb0.trans (hb1.mono (by simp)); have dd1 := dd0.on hb1; obtain ⟨y0, y1, y2, yl⟩ := id dd1)
          | (go_at_call 122; (with_reducible refine (HU.out _).mono ?_); rintro e w2 ⟨rfl, hb2⟩; have hB2 : Below w.heap.size w w2 := hB1.trans (hb2.mono hB1.size); have dd2 := dd1.on hb2; obtain ⟨v0, v1, v2, vl⟩ := id dd2; have rd2 := HR.out.on hB2)
          | (go_at_call 125; (with_reducible refine (HQ.out _ rd2).mono ?_); rintro e w3 ⟨rfl, ho3, rd3⟩; have dd3 := dd2.onl ho3 (by omega); obtain ⟨u0, u1, u2, ul⟩ := id dd3))
        go_ret
        exact ⟨rfl, HF.out _ _ _ hB2 ho3 rd3 (Below.refl _ _)⟩)
    | false =>
      rcases hc with hc | ⟨hc, hd⟩ | ⟨hc, hd⟩
      all_goals (
        go_enter Tryz.func100, Tryz.ntmps100
        go_wp2_with (first
          | (go_at_call 73; (with_reducible refine (HP.out _).mono ?_); rintro e w1 ⟨rfl, hb1⟩; have hB1 : Below w.heap.size w w1 := hb0.trans (hb1.mono (by simp)); have dd1 := dd0.on hb1; obtain ⟨y0, y1, y2, yl⟩ := id dd1)
          | (go_at_call 122; (with_reducible refine (HU.out _).mono ?_); rintro e w2 ⟨rfl, hb2⟩; have hB2 : Below w.heap.size w w2 := hB1.trans (hb2.mono hB1.size); have dd2 := dd1.on hb2; obtain ⟨v0, v1, v2, vl⟩ := id dd2; have rd2 := HR.out.on hB2)
          | (go_at_call 125; (with_reducible refine (HQ.out _ rd2).mono ?_); rintro e w3 ⟨rfl, ho3, rd3⟩; have dd3 := dd2.onl ho3 (by omega); obtain ⟨u0, u1, u2, ul⟩ := id dd3)
          | (go_at_call 126; (with_reducible refine (HS.out _).mono ?_); rintro e w4 ⟨rfl, hb4⟩))
        go_ret
        exact ⟨rfl, HF.out _ _ _ hB2 ho3 rd3 hb4⟩)
  exact hwalk q2 hsure HQ.out
end Go.Proofs.YtiglekomfgfilaaGreatDoor

/- Products of binary64 in the program, of two numbers that are neither too small nor too great. -/
namespace Go.Proofs.YtiglekomfgfilaaGreatDoor
set_option maxRecDepth 100000
set_option maxHeartbeats 4000000
set_option linter.all false
open Go.RowKit
theorem ar_table (w : World) : (Instr.index 232 (.agg #[.int .i64 0, .int .i64 1, .int .i64 1, .int .i64 2, .int .i64 3]) (.int .i64 2)).run Tryz.prog w = .ok (.int .i64 1) w := by kernel_rfl
attribute [local go_sem] ar_table
theorem ar_kind_two (x : Nat) (w : World) (hx : x < 18446744073709551616) (hk : Fl.kind x = 2) : Calls Tryz.prog 181 #[.int .u64 x] w (RetB (.int .i64 1) w) := by
  have h := fun w1 => fl_kind_any x hx w1
  rw [hk] at h
  have H := Lib.hid (fun w1 => (h w1 : Calls Tryz.prog 62 #[.int .u64 x] w1 (Ret0 (.int .i64 2) w1)))
  clear h hk
  go_enter Tryz.func181, Tryz.ntmps181
  go_wp2_with (go_at_call 62; (with_reducible refine (H.out _).mono ?_); rintro e w' ⟨rfl, rfl⟩)
  go_ret
  exact RetB.of rfl (by (repeat (first | exact Below.refl _ _ | assumption | refine Below.setCell ?_ (by first | omega | (simp <;> omega)) _ | refine Below.alloc ?_ (by first | omega | (simp <;> omega)) _ | refine Below.drew ?_ | refine below_drewN' ?_ _)))
theorem ar_muls_two (x y : Nat) (w : World) (hx : x < 18446744073709551616) (hk : Fl.kind x = 2) (hy : y < 18446744073709551616) (hj : Fl.kind y = 2) : Calls Tryz.prog 148 #[.int .u64 x, .int .u64 y] w (RetB (.int .i64 0) w) := by
  have H := Lib.hid (fun w1 => ar_kind_two x w1 hx hk)
  have J := Lib.hid (fun w1 => ar_kind_two y w1 hy hj)
  clear hk hj
  go_enter Tryz.func148, Tryz.ntmps148
  go_upto_region 2 with (fail)
  have hmk : ∀ w0 : World, w0 = w0 := fun _ => rfl
  obtain ⟨X, hX⟩ : ∃ X, X = w.alloc (Obj.cells #[Value.int IntKind.i64 6, Value.int IntKind.i64 6, Value.int IntKind.i64 1, Value.int IntKind.i64 1, Value.int IntKind.i64 6, Value.int IntKind.i64 0, Value.int IntKind.i64 5, Value.int IntKind.i64 1, Value.int IntKind.i64 1, Value.int IntKind.i64 5, Value.int IntKind.i64 5, Value.int IntKind.i64 1, Value.int IntKind.i64 1, Value.int IntKind.i64 1, Value.int IntKind.i64 1, Value.int IntKind.i64 1] 209) := ⟨_, rfl⟩
  have x5 : X.cell? ⟨w.heap.size, 5, none⟩ = some (.int .i64 0) := by rw [hX]; simp [go_sem]
  have hBX : Below w.heap.size w X := by rw [hX]; exact (Below.refl _ _).alloc (Nat.le_refl _) _
  have xl : w.heap.size < X.heap.size := by rw [hX]; simp
  rw [← hX]
  clear hX hmk
  have bl := hBX.size
  obtain ⟨g, hg⟩ : ∃ g, g = w.heap.size := ⟨_, rfl⟩
  rw [← hg] at x5 xl
  rw [← hg]
  have HG := Lib.hid hg
  clear hg
  have HBX := Lib.hid hBX
  clear hBX
  go_region_held3 (fun w' => w'.cell? ⟨g, 5, none⟩ = some (.int .i64 0)) (first | go_keep | ((first | (rw [hr0_w1]; assumption) | (rw [hr0_w2]; assumption))) | (first | (go_simp; done) | (simp [go_sem, *]; done)))
    (first | (go_at_call 181; (with_reducible refine (H.out _).mono ?_); rintro e w1 ⟨rfl, hb_w1⟩; have hB_w1 : Below (X).heap.size (X) w1 := Below.trans (by (repeat (first | exact Below.refl _ _ | assumption | refine Below.setCell ?_ (by first | omega | (simp <;> omega)) _ | refine Below.alloc ?_ (by first | omega | (simp <;> omega)) _ | refine Below.drew ?_ | refine below_drewN' ?_ _))) (hb_w1.mono (by first | omega | (simp <;> omega))); obtain ⟨hc_w1, hf_w1⟩ := bcell hb_w1; have hz_w1 := hb_w1.size; (try simp only [zD, zN, zA, zS] at hz_w1); have hk := own6 hb_w1 (g) (by (try simp only [zD, zN, zA, zS]); omega); obtain ⟨hl0_w1, hm0_w1, hn0_w1, hq0_w1, hr0_w1, hg0_w1⟩ := hk) | (go_at_call 181; (with_reducible refine (J.out _).mono ?_); rintro e w2 ⟨rfl, hb_w2⟩; have hB_w2 : Below (X).heap.size (X) w2 := Below.trans (by (repeat (first | exact Below.refl _ _ | assumption | refine Below.setCell ?_ (by first | omega | (simp <;> omega)) _ | refine Below.alloc ?_ (by first | omega | (simp <;> omega)) _ | refine Below.drew ?_ | refine below_drewN' ?_ _))) (hb_w2.mono (by first | omega | (simp <;> omega))); obtain ⟨hc_w2, hf_w2⟩ := bcell hb_w2; have hz_w2 := hb_w2.size; (try simp only [zD, zN, zA, zS] at hz_w2); have hk := own6 hb_w2 (g) (by (try simp only [zD, zN, zA, zS]); omega); obtain ⟨hl0_w2, hm0_w2, hn0_w2, hq0_w2, hr0_w2, hg0_w2⟩ := hk))
  all_goals (try go_wp2)
  all_goals (
    have hBW : Below w.heap.size w w2 := by first | exact HBX.out.trans (Below.mono (hB_w1.trans (hB_w2.mono hB_w1.size)) bl) | exact HBX.out.trans (Below.mono (hB_w2.trans (hB_w1.mono hB_w2.size)) bl) | exact HBX.out.trans (Below.mono hB_w2 bl)
    go_ret
    exact RetB.of rfl (by (repeat (first | exact Below.refl _ _ | assumption | refine Below.setCell ?_ (by first | omega | (simp <;> omega)) _ | refine Below.alloc ?_ (by first | omega | (simp <;> omega)) _ | refine Below.drew ?_ | refine below_drewN' ?_ _))))
theorem ar_mul_two (x y : Nat) (w : World) (hx : x < 9218868437227405312) (hk : Fl.kind x = 2) (hy : y < 9218868437227405312) (hj : Fl.kind y = 2) :
    Calls Tryz.prog 124 #[.int .u64 x, .int .u64 y] w (RetB (.int .u64 ((Fl.rd (Fl.mant x * Fl.mant y) (Fl.expn x + Fl.expn y) false : Nat) : Int)) w) := by
  have H1 := Lib.hid (fun w1 => ar_muls_two x y w1 (by omega) hk (by omega) hj)
  have h2 := fun w1 => fl_split_any x (by omega) w1
  have h3 := fun w1 => fl_split_any y (by omega) w1
  have hb1 := Fl.expn_bound x
  have hb2 := Fl.expn_bound y
  have hm1 := Fl.mant_lt x
  have hm2 := Fl.mant_lt y
  rw [show Fl.neg x = false from decide_eq_false (by omega)] at h2
  rw [show Fl.neg y = false from decide_eq_false (by omega)] at h3
  obtain ⟨A, hA⟩ : ∃ A, A = Fl.mant x := ⟨_, rfl⟩
  obtain ⟨B, hB⟩ : ∃ A, A = Fl.mant y := ⟨_, rfl⟩
  obtain ⟨C, hC⟩ : ∃ A, A = Fl.expn x := ⟨_, rfl⟩
  obtain ⟨D, hD⟩ : ∃ A, A = Fl.expn y := ⟨_, rfl⟩
  rw [← hA, ← hC] at h2
  rw [← hB, ← hD] at h3
  rw [← hC] at hb1
  rw [← hD] at hb2
  rw [← hA] at hm1
  rw [← hB] at hm2
  rw [← hA, ← hB, ← hC, ← hD]
  have h4 := fun w1 => wi_mul_any A B w1 (by omega) (by omega)
  have he : -10000 ≤ C + D ∧ C + D ≤ 2000 := by omega
  have hAB : A * B < 340282366920938463463374607431768211456 := by
    have := Nat.mul_le_mul (show A ≤ 18446744073709551615 by omega) (show B ≤ 18446744073709551615 by omega)
    omega
  obtain ⟨P, hP⟩ : ∃ P, P = A * B := ⟨_, rfl⟩
  rw [← hP] at h4 hAB ⊢
  have h5 := fun w1 => fl_join_any false (P / 18446744073709551616) (P % 18446744073709551616) (C + D) false w1 (by omega) (by omega) he
  rw [show P / 18446744073709551616 * 18446744073709551616 + P % 18446744073709551616 = P by omega, show Fl.sgn false = 0 from rfl, Nat.zero_add] at h5
  obtain ⟨U, hU⟩ : ∃ U, U = P / 18446744073709551616 := ⟨_, rfl⟩
  obtain ⟨V, hV⟩ : ∃ U, U = P % 18446744073709551616 := ⟨_, rfl⟩
  rw [← hU, ← hV] at h4 h5
  obtain ⟨R, hR⟩ : ∃ R, R = Fl.rd P (C + D) false := ⟨_, rfl⟩
  rw [← hR] at h5 ⊢
  obtain ⟨E, hE⟩ : ∃ E, E = C + D := ⟨_, rfl⟩
  rw [← hE] at h5
  have hEs : C + D = E := hE.symm
  have H2 := Lib.hid h2; have H3 := Lib.hid h3; have H4 := Lib.hid h4; have H5 := Lib.hid h5
  have x63 : (x : Int) / 9223372036854775808 = 0 := by omega
  have y63 : (y : Int) / 9223372036854775808 = 0 := by omega
  obtain ⟨c1, c2⟩ := hb1
  obtain ⟨d1, d2⟩ := hb2
  clear h2 h3 h4 h5 hA hB hC hD hP hU hV hR hE hk hj hAB he
  go_enter Tryz.func124, Tryz.ntmps124
  go_wp2_with (first
    | (go_at_call 148; (with_reducible refine (H1.out _).mono ?_); rintro e w1 ⟨rfl, hb_w1⟩; have hB_w1 : Below (w).heap.size (w) w1 := Below.trans (by (repeat (first | exact Below.refl _ _ | assumption | refine Below.setCell ?_ (by first | omega | (simp <;> omega)) _ | refine Below.alloc ?_ (by first | omega | (simp <;> omega)) _ | refine Below.drew ?_ | refine below_drewN' ?_ _))) (hb_w1.mono (by first | omega | (simp <;> omega))); obtain ⟨hc_w1, hf_w1⟩ := bcell hb_w1; have hz_w1 := hb_w1.size; (try simp only [zD, zN, zA, zS] at hz_w1))
    | (go_at_call 63; (with_reducible refine (H2.out _).mono ?_); rintro e w' ⟨rfl, rfl⟩)
    | (go_at_call 63; (with_reducible refine (H3.out _).mono ?_); rintro e w' ⟨rfl, rfl⟩)
    | (go_at_call 149; (with_reducible refine (H4.out _).mono ?_); rintro e w2 ⟨rfl, hb_w2⟩; have hB_w2 : Below (w).heap.size (w) w2 := Below.trans (by (repeat (first | exact Below.refl _ _ | assumption | refine Below.setCell ?_ (by first | omega | (simp <;> omega)) _ | refine Below.alloc ?_ (by first | omega | (simp <;> omega)) _ | refine Below.drew ?_ | refine below_drewN' ?_ _))) (hb_w2.mono (by first | omega | (simp <;> omega))); obtain ⟨hc_w2, hf_w2⟩ := bcell hb_w2; have hz_w2 := hb_w2.size; (try simp only [zD, zN, zA, zS] at hz_w2))
    | (go_at_call 146; (with_reducible refine (H5.out _).mono ?_); rintro e w3 ⟨rfl, hb_w3⟩; have hB_w3 : Below (w).heap.size (w) w3 := Below.trans (by (repeat (first | exact Below.refl _ _ | assumption | refine Below.setCell ?_ (by first | omega | (simp <;> omega)) _ | refine Below.alloc ?_ (by first | omega | (simp <;> omega)) _ | refine Below.drew ?_ | refine below_drewN' ?_ _))) (hb_w3.mono (by first | omega | (simp <;> omega))); obtain ⟨hc_w3, hf_w3⟩ := bcell hb_w3; have hz_w3 := hb_w3.size; (try simp only [zD, zN, zA, zS] at hz_w3)))
  go_ret
  exact RetB.of rfl (by (repeat (first | exact Below.refl _ _ | assumption | refine Below.setCell ?_ (by first | omega | (simp <;> omega)) _ | refine Below.alloc ?_ (by first | omega | (simp <;> omega)) _ | refine Below.drew ?_ | refine below_drewN' ?_ _)))
end Go.Proofs.YtiglekomfgfilaaGreatDoor

/- A natural as binary64 in the program. -/
namespace Go.Proofs.YtiglekomfgfilaaGreatDoor
set_option maxRecDepth 100000
set_option linter.all false
open Go.RowKit
theorem wh_size_nat (v : Nat) (w : World) (hv : v < 9223372036854775808) : Calls Tryz.prog 147 #[.int .i64 v] w (RetB (.int .u64 v) w) := by
  go_enter Tryz.func147, Tryz.ntmps147
  go_wp2
  go_ret
  exact RetB.of rfl (by (repeat (first | exact Below.refl _ _ | assumption | refine Below.setCell ?_ (by first | omega | (simp <;> omega)) _ | refine Below.alloc ?_ (by first | omega | (simp <;> omega)) _ | refine Below.drew ?_ | refine below_drewN' ?_ _)))
theorem wh_from_nat (v : Nat) (w : World) (hv : v < 9223372036854775808) : Calls Tryz.prog 123 #[.int .i64 v] w (RetB (.int .u64 ((Fl.rd v 0 false : Nat) : Int)) w) := by
  have H1 := Lib.hid (fun w1 => wh_size_nat v w1 hv)
  have h2 := fun w1 => fl_join_any false 0 v 0 false w1 (by omega) (by omega) (by omega)
  rw [Nat.zero_mul, Nat.zero_add, show Fl.sgn false = 0 from rfl, Nat.zero_add] at h2
  obtain ⟨R, hR⟩ : ∃ R, R = Fl.rd v 0 false := ⟨_, rfl⟩
  rw [← hR] at h2 ⊢
  have H2 := Lib.hid (fun w1 => (show Calls Tryz.prog 146 #[.bool false, .agg #[.int .u64 0, .int .u64 v], .int .i64 0, .bool false] w1 (RetB (.int .u64 (R : Nat)) w1) from h2 w1))
  have hneg : decide ((v : Int) < 0) = false := decide_eq_false (by omega)
  clear h2 hR
  go_enter Tryz.func123, Tryz.ntmps123
  go_wp2_with (first
    | (go_at_call 147; (with_reducible refine (H1.out _).mono ?_); rintro e w1 ⟨rfl, hb_w1⟩; have hB_w1 : Below (w).heap.size (w) w1 := Below.trans (by (repeat (first | exact Below.refl _ _ | assumption | refine Below.setCell ?_ (by first | omega | (simp <;> omega)) _ | refine Below.alloc ?_ (by first | omega | (simp <;> omega)) _ | refine Below.drew ?_ | refine below_drewN' ?_ _))) (hb_w1.mono (by first | omega | (simp <;> omega))); obtain ⟨hc_w1, hf_w1⟩ := bcell hb_w1; have hz_w1 := hb_w1.size; (try simp only [zD, zN, zA, zS] at hz_w1))
    | (go_at_call 146; (with_reducible refine (H2.out _).mono ?_); rintro e w2 ⟨rfl, hb_w2⟩; have hB_w2 : Below (w).heap.size (w) w2 := Below.trans (by (repeat (first | exact Below.refl _ _ | assumption | refine Below.setCell ?_ (by first | omega | (simp <;> omega)) _ | refine Below.alloc ?_ (by first | omega | (simp <;> omega)) _ | refine Below.drew ?_ | refine below_drewN' ?_ _))) (hb_w2.mono (by first | omega | (simp <;> omega))); obtain ⟨hc_w2, hf_w2⟩ := bcell hb_w2; have hz_w2 := hb_w2.size; (try simp only [zD, zN, zA, zS] at hz_w2)))
  go_ret
  exact RetB.of rfl (by (repeat (first | exact Below.refl _ _ | assumption | refine Below.setCell ?_ (by first | omega | (simp <;> omega)) _ | refine Below.alloc ?_ (by first | omega | (simp <;> omega)) _ | refine Below.drew ?_ | refine below_drewN' ?_ _)))
end Go.Proofs.YtiglekomfgfilaaGreatDoor

/- Plain Lean: a natural as binary64 is a normal number; powers of ten step by step. -/
namespace Go.Proofs.YtiglekomfgfilaaGreatDoor
set_option linter.all false
open Go
theorem Fl.kind_two {x X : Nat} (hx : x < 9218868437227405312) (h : Fl.V x = X * 2 ^ Fl.low) (h0 : 0 < X) : Fl.kind x = 2 := by
  obtain ⟨k3, -, hV⟩ := Fl.parts_of hx
  rcases Fl.parts x with ⟨k, m, e⟩ | ⟨k, m, e⟩ | ⟨k, m, e⟩
  · exfalso
    rw [h, m, e, show ((-1074 : Int) + 1074).toNat = 0 by decide, Nat.pow_zero, Nat.mul_one] at hV
    have hf : Fl.frac x < 2 ^ 52 := by unfold Fl.frac; omega
    have h1 : 2 ^ 52 ≤ 2 ^ Fl.low := Nat.pow_le_pow_right (by decide) (by unfold Fl.low; omega)
    have h2 := Nat.mul_le_mul_right (2 ^ Fl.low) (show 1 ≤ X from h0)
    rw [Nat.one_mul] at h2
    omega
  · exact k
  · omega
theorem Fl.ten_kind {i : Nat} (hi : i ≤ 22) : Fl.kind (Fl.rd (10 ^ i) 0 false) = 2 := by
  obtain ⟨h1, h2⟩ := Fl.ten_exact hi
  exact Fl.kind_two h2 h1 (Nat.pow_pos (by decide))
theorem Fl.nat_kind {m : Nat} (h0 : 0 < m) (hm : m < 9007199254740992) : Fl.kind (Fl.rd m 0 false) = 2 := by
  obtain ⟨h1, h2⟩ := Fl.nat_exact hm
  exact Fl.kind_two h2 h1 h0
end Go.Proofs.YtiglekomfgfilaaGreatDoor

/- The Reader in the program: the size of a decimal of few digits; the size whole. -/
namespace Go.Proofs.YtiglekomfgfilaaGreatDoor
set_option maxRecDepth 100000
set_option maxHeartbeats 4000000
set_option linter.all false
open Go.RowKit
def tenLoop (X : Nat) (w : World) (tv iv : Value) (wr : World) : Prop := ∃ i t : Nat, i ≤ X ∧ iv = .int .i64 i ∧ tv = .int .u64 t ∧ Hid (t = Fl.rd (10 ^ i) 0 false) ∧ Hid (Below w.heap.size w wr)
theorem re_size_small (b : Nat) (n : Bool) (s : ByteArray) (X : Nat) (w : World) (hr : Dc.right s.data.toList X = true) (hR : Rdr w b) (h0 : s.size ≠ 0) (hl : s.size ≤ 15) (hX : X ≤ 22) :
    Calls Tryz.prog 100 #[.pointer (some ⟨b, 0, none⟩), .agg #[.bool n, .string s, .int .i64 X]] w (RetR b (.int .u64 ((Fl.bits s.data.toList X : Nat) : Int)) w) := by
  obtain ⟨hp, hs, hx1, hx2⟩ := r8_point_facts hr
  have hdig := Dc.right_dig hr
  have hne : s.data.toList ≠ [] := fun e => h0 (by have := congrArg List.length e; rwa [bs_length] at this)
  have hP := fun w => d_point_any n s X w (by omega)
  rw [hp] at hP
  have hU := fun w => re_uint s w hdig hne (by omega)
  have hN := Dc.nv_lt hdig
  rw [bs_length] at hN
  have hN0 := Nat.lt_of_lt_of_le (Nat.pow_pos (by decide)) (Dc.nv_first hdig hne (Dc.right_head hr hne))
  have hN64 : Dc.nv s.data.toList < 9007199254740992 := Nat.lt_of_lt_of_le hN (Nat.le_trans (Nat.pow_le_pow_right (by decide) hl) (by decide))
  have hsm := Fl.small_exact (l := s.data.toList) (x := X) hN64 hX
  have hkm := Fl.nat_kind hN0 hN64
  have hlm := (Fl.nat_exact hN64).2
  have hb0 : Below w.heap.size w (w.alloc (Obj.cells #[Value.bool n, Value.string s, Value.int IntKind.i64 X] 27)) := (Below.refl _ _).alloc (Nat.le_refl _) _
  have dd0 := DecB.new w n s X
  obtain ⟨Z, hZ⟩ : ∃ Z, Z = Fl.bits s.data.toList X := ⟨_, rfl⟩
  rw [← hZ] at hsm ⊢
  obtain ⟨m, hme⟩ : ∃ m, m = Dc.nv s.data.toList := ⟨_, rfl⟩
  rw [← hme] at hU hsm hN64 hkm hlm
  have h1 := fun w1 => wh_from_nat 1 w1 (by omega)
  have h10 := fun w1 => wh_from_nat 10 w1 (by omega)
  have hm1 := fun w1 => wh_from_nat m w1 (by omega)
  have hmul := fun (i : Nat) (hi : i < X) w1 => ar_mul_two (Fl.rd (10 ^ i) 0 false) (Fl.rd 10 0 false) w1 (Fl.ten_exact (by omega)).2 (Fl.ten_kind (by omega)) (Fl.ten_exact (i := 1) (by omega)).2 (Fl.ten_kind (i := 1) (by omega))
  have hmul2 : ∀ i, i < X → ∀ w1, Calls Tryz.prog 124 #[.int .u64 (Fl.rd (10 ^ i) 0 false : Nat), .int .u64 (Fl.rd 10 0 false : Nat)] w1 (RetB (.int .u64 (Fl.rd (10 ^ (i + 1)) 0 false : Nat)) w1) := fun i hi w1 => by
    have h := hmul i hi w1
    rw [Fl.ten_next (by omega)] at h
    exact h
  have hlast := fun w1 => ar_mul_two (Fl.rd m 0 false) (Fl.rd (10 ^ X) 0 false) w1 hlm hkm (Fl.ten_exact hX).2 (Fl.ten_kind hX)
  rw [hsm] at hlast
  have hF : ∀ w', Below w.heap.size w w' → Onl b w w' ∧ Rdr w' b := fun w' h => ⟨hR.onl h, hR.on h⟩
  have hz := isEmpty_of_pos (s := s) (by omega)
  obtain ⟨t0, ht0⟩ : ∃ t, t = Fl.rd 1 0 false := ⟨_, rfl⟩
  obtain ⟨t10, ht10⟩ : ∃ t, t = Fl.rd 10 0 false := ⟨_, rfl⟩
  obtain ⟨tm, htm⟩ : ∃ t, t = Fl.rd m 0 false := ⟨_, rfl⟩
  rw [← ht0] at h1
  rw [← ht10] at h10 hmul2
  rw [← htm] at hm1 hlast
  obtain ⟨P, hPe⟩ : ∃ P, P = (s.size : Int) + X := ⟨_, rfl⟩
  have hPl : -330 ≤ P ∧ P ≤ 310 := by omega
  rw [← hPe] at hP
  obtain ⟨p1, p2⟩ := hPl
  have HP := Lib.hid hP; have HF := Lib.hid hF; have HU := Lib.hid hU; have HMUL := Lib.hid hmul2; have HLAST := Lib.hid hlast
  have H1 := Lib.hid (fun w1 => (show Calls Tryz.prog 123 #[.int .i64 1] w1 (RetB (.int .u64 (t0 : Nat)) w1) from h1 w1))
  have H10 := Lib.hid (fun w1 => (show Calls Tryz.prog 123 #[.int .i64 10] w1 (RetB (.int .u64 (t10 : Nat)) w1) from h10 w1))
  have HM1 := Lib.hid hm1
  have HT0 := Lib.hid ht0
  have hxX : (0 : Int) ≤ (X : Int) := by omega
  have hX2 : (X : Int) ≤ 22 := by omega
  clear hP hF hU hmul hmul2 hlast h1 h10 hm1 ht0 ht10 htm hPe hme hZ hsm hkm hlm hN hN0 hr hR hp hdig hne hx1 hx2 h0
  go_enter Tryz.func100, Tryz.ntmps100
  go_wp2_with (first
    | (go_at_call 73; (with_reducible refine (HP.out _).mono ?_); rintro e w1 ⟨rfl, hb1⟩; have hB1 : Below w.heap.size w w1 := hb0.trans (hb1.mono (by simp)); have dd1 := dd0.on hb1; obtain ⟨y0, y1, y2, yl⟩ := id dd1)
    | (go_at_call 122; (with_reducible refine (HU.out _).mono ?_); rintro e w2 ⟨rfl, hb2⟩; have hB2 : Below w.heap.size w w2 := hB1.trans (hb2.mono hB1.size); have dd2 := dd1.on hb2; obtain ⟨v0, v1, v2, vl⟩ := id dd2)
    | (go_at_call 123; (with_reducible refine (H1.out _).mono ?_); rintro e w3 ⟨rfl, hb3⟩; have hB3 : Below w.heap.size w w3 := hB2.trans (hb3.mono hB2.size); have dd3 := dd2.on hb3; obtain ⟨u0, u1, u2, ul⟩ := id dd3))
  go_loopw [8, 51] (tenLoop X w) (fun _ iv _ => X - (intOf iv).toNat)
  case atStart => exact ⟨0, t0, Nat.zero_le _, rfl, rfl, HT0, Lib.hid hB3⟩
  case round =>
    clear hB1 hB2 hB3 hb1 hb2 hb3 dd1 dd2 dd3 dd0 hb0 y0 y1 y2 yl v0 v1 v2 vl u0 u1 u2 ul
    obtain ⟨i, t, hi, rfl, rfl, HT, HB⟩ := hrel
    by_cases hlt : i < X
    · have hc : decide ((i : Int) < (X : Int)) = true := decide_eq_true (by omega)
      have hmi := HMUL.out i hlt
      rw [← HT.out] at hmi
      obtain ⟨t', ht'⟩ : ∃ t, t = Fl.rd (10 ^ (i + 1)) 0 false := ⟨_, rfl⟩
      rw [← ht'] at hmi
      have HMI := Lib.hid hmi
      have HT' := Lib.hid ht'
      clear hmi ht'
      go_wp2_with (first
        | (go_at_call 123; (with_reducible refine (H10.out _).mono ?_); rintro e w4 ⟨rfl, hb4⟩; have hB4 : Below w.heap.size w w4 := HB.out.trans (hb4.mono HB.out.size))
        | (go_at_call 124; (with_reducible refine (HMI.out _).mono ?_); rintro e w5 ⟨rfl, hb5⟩; have hB5 : Below w.heap.size w w5 := hB4.trans (hb5.mono hB4.size)))
      go_roundw
      case rel => exact ⟨i + 1, t', by omega, by go_num, rfl, HT', Lib.hid hB5⟩
      case measure => simp [intOf]; omega
    · obtain rfl : i = X := by omega
      have hla := HLAST.out
      rw [← HT.out] at hla
      have HLA := Lib.hid hla
      clear hla
      go_wp2_with (first
        | (go_at_call 123; (with_reducible refine (HM1.out _).mono ?_); rintro e w4 ⟨rfl, hb4⟩; have hB4 : Below w.heap.size w w4 := HB.out.trans (hb4.mono HB.out.size))
        | (go_at_call 124; (with_reducible refine (HLA.out _).mono ?_); rintro e w5 ⟨rfl, hb5⟩; have hB5 : Below w.heap.size w w5 := hB4.trans (hb5.mono hB4.size)))
      go_ret
      exact ⟨rfl, HF.out _ hB5⟩
theorem re_size_any (b : Nat) (n : Bool) (s : ByteArray) (x : Int) (w : World) (hr : Dc.right s.data.toList x = true) (hR : Rdr w b) :
    Calls Tryz.prog 100 #[.pointer (some ⟨b, 0, none⟩), .agg #[.bool n, .string s, .int .i64 x]] w (RetR b (.int .u64 ((Fl.bits s.data.toList x : Nat) : Int)) w) := by
  by_cases h1 : s.size = 0 ∨ (s.size : Int) + x < -330 ∨ 310 < (s.size : Int) + x
  · exact re_size_end b n s x w hr hR h1
  · by_cases h2 : 19 < s.size
    · exact re_size_long b n s x w hr hR (by omega) h2
    · by_cases h3 : s.size ≤ 15 ∧ 0 ≤ x ∧ x ≤ 22
      · obtain ⟨X, rfl⟩ : ∃ X : Nat, x = X := ⟨x.toNat, by omega⟩
        exact re_size_small b n s X w hr hR (by omega) h3.1 (by omega)
      · exact re_size_quick b n s x w hr hR (by omega) (by omega) (by omega) (by omega)
end Go.Proofs.YtiglekomfgfilaaGreatDoor
