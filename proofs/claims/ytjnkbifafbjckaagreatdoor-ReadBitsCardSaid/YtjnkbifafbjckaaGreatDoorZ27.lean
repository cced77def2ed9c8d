/- Chapter 8's laws: the number that is told of a decimal; a text is read as a number, or refused. -/
import Derived.Test.YtjnkbifafbjckaaGreatDoorZ25
import Derived.Test.YtjnkbifafbjckaaGreatDoorZ26
import Derived.Test.YtjnkbifafbjckaaGreatDoorZ1
import Derived.Lib.SmallJoins
import Derived.JoinedOf
import Derived.Test.YtjnkbifafbjckaaGreatDoorZ22
import Derived.Test.YtjnkbifafbjckaaGreatDoorZ12
import Derived.Test.YtjnkbifafbjckaaGreatDoorZ13
import Derived.Test.YtjnkbifafbjckaaGreatDoorZ17
import Derived.BigQuiet
import Derived.Test.YtjnkbifafbjckaaGreatDoorZ6
namespace Go.Proofs.YtjnkbifafbjckaaGreatDoor
set_option linter.all false
open Go.RowKit

set_option maxRecDepth 100000 in
set_option maxHeartbeats 4000000 in
theorem l8_bits_any (n : Bool) (s : ByteArray) (x : Int) (w : World) (hs : s.size ≤ 9223372036854775807) :
    Calls Tryz.prog 6 #[.agg #[.bool n, .string s, .int .i64 x]] w (RetB (.bool true) w) := by
  have hb0 : Below w.heap.size w (w.alloc (Obj.cells #[Value.bool n, Value.string s, Value.int IntKind.i64 x] 25)) := (Below.refl _ _).alloc (Nat.le_refl _) _
  have dd0 := DecB.new w n s x
  have HS := Lib.hid (fun w1 => l8_shown_any w1)
  by_cases hl : 1200 < s.size
  · go_enter Tryz.func6, Tryz.ntmps6
    go_wp2_with (first
      | (go_at_call 32; (with_reducible refine (HS.out _).mono ?_); rintro e w1 ⟨rfl, hb1⟩; have hB1 : Below w.heap.size w w1 := hb0.trans (hb1.mono (by simp)); have dd1 := dd0.on hb1; obtain ⟨y0, y1, y2, yl⟩ := id dd1))
    go_ret
    exact RetB.of rfl hB1
  · have hB := fun b w1 (h : Rdr w1 b) => re_bits_any b n s x w1 hs h
    have hR := fun w1 => r8_read_any n s x w1 hs
    obtain ⟨Y, hY⟩ : ∃ Y, Y = (Fl.readOf n s.data.toList x).1 := ⟨_, rfl⟩
    obtain ⟨F, hF⟩ : ∃ Y, Y = (Fl.readOf n s.data.toList x).2 := ⟨_, rfl⟩
    rw [← hY, ← hF] at hB hR
    have HB := Lib.hid hB; have HR := Lib.hid hR
    have HN := Lib.hid (fun w1 => re_new_any w1)
    clear hB hR hY hF
    go_enter Tryz.func6, Tryz.ntmps6
    go_wp2_with (first
      | (go_at_call 32; (with_reducible refine (HS.out _).mono ?_); rintro e w1 ⟨rfl, hb1⟩; have hB1 : Below w.heap.size w w1 := hb0.trans (hb1.mono (by simp)); have dd1 := dd0.on hb1; obtain ⟨y0, y1, y2, yl⟩ := id dd1)
      | (go_at_call 33; (with_reducible refine (HN.out _).mono ?_); rintro e w2 ⟨rfl, rd2, hb2⟩; have hB2 : Below w.heap.size w w2 := hB1.trans (hb2.mono hB1.size); have dd2 := dd1.on hb2; obtain ⟨u0, u1, u2, ul⟩ := id dd2)
      | (go_at_call 34; (with_reducible refine (HB.out _ _ rd2).mono ?_); rintro e w3 ⟨rfl, ho3, rd3⟩; have hB3 : Below w.heap.size w w3 := hB2.trans (ho3.up hB1.size); have dd3 := dd2.onl ho3 (by omega); obtain ⟨v0, v1, v2, vl⟩ := id dd3)
      | (go_at_call 35; (with_reducible refine (HR.out _).mono ?_); rintro e w4 ⟨rfl, hb4⟩; have hB4 : Below w.heap.size w w4 := hB3.trans (hb4.mono hB3.size)))
    go_ret
    exact RetB.of (by simp) hB4

set_option maxRecDepth 100000 in
set_option maxHeartbeats 4000000 in
theorem l8_texts_any (s : ByteArray) (w : World) (hs : s.size ≤ 9223372036854775807) : Calls Tryz.prog 7 #[.string s] w (RetB (.bool true) w) := by
  have HS := Lib.hid (fun w1 => l8_shown_any w1)
  by_cases hl : 1300 < s.size
  · go_enter Tryz.func7, Tryz.ntmps7
    go_wp2_with (first | (go_at_call 32; (with_reducible refine (HS.out _).mono ?_); rintro e w1 ⟨rfl, hb_w1⟩; have hB_w1 : Below (w).heap.size (w) w1 := Below.trans (by (repeat (first | exact Below.refl _ _ | assumption | refine Below.setCell ?_ (by first | omega | (simp <;> omega)) _ | refine Below.alloc ?_ (by first | omega | (simp <;> omega)) _ | refine Below.drew ?_ | refine below_drewN' ?_ _))) (hb_w1.mono (by first | omega | (simp <;> omega))); obtain ⟨hc_w1, hf_w1⟩ := bcell hb_w1; have hz_w1 := hb_w1.size; (try simp only [size_drew', size_drewN', World.size_alloc, World.size_setCell] at hz_w1)))
    go_ret
    exact RetB.of rfl (by (repeat (first | exact Below.refl _ _ | assumption | refine Below.setCell ?_ (by first | omega | (simp <;> omega)) _ | refine Below.alloc ?_ (by first | omega | (simp <;> omega)) _ | refine Below.drew ?_ | refine below_drewN' ?_ _)))
  · have hB := fun b w1 (h : Rdr w1 b) => re_parse_any b s w1 (by omega) h
    have hR := fun w1 => r8_parse_any s w1 (by omega)
    obtain ⟨Y, hY⟩ : ∃ Y, Y = (Fl.readS s.data.toList).1 := ⟨_, rfl⟩
    obtain ⟨F, hF⟩ : ∃ Y, Y = (Fl.readS s.data.toList).2 := ⟨_, rfl⟩
    rw [← hY, ← hF] at hB hR
    have HB := Lib.hid hB; have HR := Lib.hid hR
    have HN := Lib.hid (fun w1 => re_new_any w1)
    clear hB hR hY hF
    go_enter Tryz.func7, Tryz.ntmps7
    go_wp2_with (first
      | (go_at_call 32; (with_reducible refine (HS.out _).mono ?_); rintro e w1 ⟨rfl, hb_w1⟩; have hB_w1 : Below (w).heap.size (w) w1 := Below.trans (by (repeat (first | exact Below.refl _ _ | assumption | refine Below.setCell ?_ (by first | omega | (simp <;> omega)) _ | refine Below.alloc ?_ (by first | omega | (simp <;> omega)) _ | refine Below.drew ?_ | refine below_drewN' ?_ _))) (hb_w1.mono (by first | omega | (simp <;> omega))); obtain ⟨hc_w1, hf_w1⟩ := bcell hb_w1; have hz_w1 := hb_w1.size; (try simp only [size_drew', size_drewN', World.size_alloc, World.size_setCell] at hz_w1))
      | (go_at_call 33; (with_reducible refine (HN.out _).mono ?_); rintro e w2 ⟨rfl, rd2, hb2⟩; have hB2 : Below w.heap.size w w2 := hB_w1.trans (hb2.mono hB_w1.size))
      | (go_at_call 36; (with_reducible refine (HB.out _ _ rd2).mono ?_); rintro e w3 ⟨rfl, ho3, rd3⟩; have hB3 : Below w.heap.size w w3 := hB2.trans (ho3.up hB_w1.size))
      | (go_at_call 37; (with_reducible refine (HR.out _).mono ?_); rintro e w4 ⟨rfl, hb4⟩; have hB4 : Below w.heap.size w w4 := hB3.trans (hb4.mono hB3.size)))
    go_ret
    exact RetB.of (by simp) hB4
end Go.Proofs.YtjnkbifafbjckaaGreatDoor

/- A decimal as a parameter, beside what Card1 shares. -/
namespace Go.Proofs.YtjnkbifafbjckaaGreatDoor
set_option linter.all false
open Go.ChangeShapes Go.WideShapes Go.ChangeAt Go.RowKit Go.WideMaps Go.WideElems Go.Joins
open Go.ChangeMaps (open_string shut_string)

set_option maxRecDepth 100000 in
theorem par_dec {H : Type} {enc : TypeId × Value → H} {W : World} {base : Nat} {sp : Nat → Bool} {held : Bool} {r : Reach} {b0 : Nat} {v : Value} {d : DataW H} {p : List MemPlace} (hv : Value.okWide Tryz.prog W r b0 25 v) (h : DataW.Trod enc Tryz.prog W base sp held 25 v d p) :
    ∃ (n : Bool) (s : ByteArray) (x : Int), v = .agg #[.bool n, .string s, .int .i64 x] ∧ p = [] ∧ s.size ≤ 9223372036854775807 ∧ (-9223372036854775808 ≤ x ∧ x ≤ 9223372036854775807) ∧ ∀ (W' : World) (b' : Nat) (sp' : Nat → Bool) (h' : Bool), DataW.Trod enc Tryz.prog W' b' sp' h' 25 v d [] := by
  obtain ⟨v0, v1, v2, y0, y1, y2, m, rfl, rfl, rfl, h0, h1, h2⟩ := open_agg3 Tryz.underlying25 (by kernel_rfl) (by kernel_rfl) hv h
  obtain ⟨n, e0, rfl⟩ := DataW.trod_bool Tryz.underlying4 h0
  obtain ⟨s, e1, rfl, hs⟩ := DataW.trod_string Tryz.underlying9 h1
  obtain ⟨x, e2, rfl, hx⟩ := DataW.trod_int Tryz.underlying3 h2
  obtain rfl : v0 = .bool n := by simpa using e0
  obtain rfl : v1 = .string s := by simpa using e1
  obtain rfl : v2 = .int .i64 x := by simpa using e2
  refine ⟨n, s, x, rfl, rfl, by unfold maxLen at hs; exact hs, wf_bounds hx, fun W' b' sp' h' => ?_⟩
  exact shut_agg3 Tryz.underlying25 (by kernel_rfl) (by kernel_rfl) (field_of_Trod (shut_bool Tryz.underlying4 n) rfl) (field_of_Trod (shut_string Tryz.underlying9 hs) rfl) (field_of_Trod (shut_int Tryz.underlying3 hx) rfl)
end Go.Proofs.YtjnkbifafbjckaaGreatDoor

/- What all cards of this seat ask of the program as a whole: each a fact of its own (together they outgrow the memory's lid). -/
namespace Go.Proofs.YtjnkbifafbjckaaGreatDoor
set_option linter.all false
open Go.ChangeShapes Go.WideShapes Go.ChangeAt Go.RowKit Go.WideMaps Go.WideElems

theorem and_mk {a b : Bool} (ha : a = true) (hb : b = true) : (a && b) = true := by rw [ha, hb]; rfl
theorem cf_laid : laidOutB Tryz.pinned.checked.prog = true := laidOut
theorem cf_maps : mapsRowed Tryz.pinned.checked.prog = true := by kernel_rfl
theorem cf_stops : (Tryz.pinned.checked.prog.stops == []) = true := by kernel_rfl
theorem cf_knobs : (Tryz.pinned.checked.prog.stopKnobs == []) = true := by kernel_rfl
theorem cf_plain : (true == Tryz.pinned.checked.prog.plainKeys) = true := by kernel_rfl
theorem cf_heard : Tryz.pinned.checked.prog.stopsHeard = true := by kernel_rfl
theorem cf_enter : Tryz.pinned.checked.prog.mayEnter = true := by kernel_rfl
theorem cf_lifted : (Rows.readBitsRow.lifted == Tryz.pinned.checked.prog.liftsFinal) = true := by kernel_rfl
theorem cf_make : (Tryz.pinned.checked.prog.make == some Rows.readBitsRow.make) = true := by kernel_rfl
end Go.Proofs.YtjnkbifafbjckaaGreatDoor

/- Plain Lean: 128 bits of a natural, laid into four limbs bit by bit. -/
namespace Go.Proofs.YtjnkbifafbjckaaGreatDoor.Na
set_option linter.all false
open Go

/-- The j-th limb of the lowest i bits. -/
def pt (M i j : Nat) : Nat := M % 2 ^ i / 2 ^ (32 * j) % 4294967296
theorem pt_zero (M j : Nat) : pt M 0 j = 0 := by unfold pt; rw [Nat.pow_zero, Nat.mod_one, Nat.zero_div, Nat.zero_mod]
theorem pt_lt (M i j : Nat) : pt M i j < 4294967296 := Nat.mod_lt _ (by decide)
theorem pt_more (M i : Nat) : M % 2 ^ (i + 1) = M % 2 ^ i + 2 ^ i * (M / 2 ^ i % 2) := by
  rw [Nat.pow_succ]; exact Nat.mod_mul
theorem pt_no {M i : Nat} (h : M / 2 ^ i % 2 ≠ 1) (j : Nat) : pt M (i + 1) j = pt M i j := by
  unfold pt; rw [pt_more M i, show M / 2 ^ i % 2 = 0 by omega, Nat.mul_zero, Nat.add_zero]
theorem pt_set {M i k r : Nat} (h : M / 2 ^ i % 2 = 1) (hi : i = 32 * k + r) (hr : r < 32) :
    pt M (i + 1) k = pt M i k + 2 ^ r ∧ pt M i k < 2 ^ r := by
  unfold pt
  have hA : M % 2 ^ i < 2 ^ i := Nat.mod_lt _ (Nat.pow_pos (by decide))
  have hp : 0 < 2 ^ (32 * k) := Nat.pow_pos (by decide)
  have e : 2 ^ i = 2 ^ (32 * k) * 2 ^ r := by rw [hi, Nat.pow_add]
  have hr32 : 2 ^ (r + 1) ≤ 2 ^ 32 := Nat.pow_le_pow_right (by decide) (by omega)
  rw [Nat.pow_succ, show (2 : Nat) ^ 32 = 4294967296 by decide] at hr32
  rw [pt_more M i, h, Nat.mul_one]
  obtain ⟨A, hAe⟩ : ∃ A, A = M % 2 ^ i := ⟨_, rfl⟩
  rw [← hAe] at hA ⊢
  rw [e] at hA ⊢
  have hd : A / 2 ^ (32 * k) < 2 ^ r := Nat.div_lt_of_lt_mul hA
  rw [Nat.add_mul_div_left _ _ hp]
  rw [Nat.mod_eq_of_lt (show A / 2 ^ (32 * k) + 2 ^ r < 4294967296 by omega), Nat.mod_eq_of_lt (show A / 2 ^ (32 * k) < 4294967296 by omega)]
  exact ⟨rfl, hd⟩
theorem pt_other {M i k r j : Nat} (h : M / 2 ^ i % 2 = 1) (hi : i = 32 * k + r) (hr : r < 32) (hj : j ≠ k) : pt M (i + 1) j = pt M i j := by
  unfold pt
  have hA : M % 2 ^ i < 2 ^ i := Nat.mod_lt _ (Nat.pow_pos (by decide))
  have hB : M % 2 ^ (i + 1) < 2 ^ (i + 1) := Nat.mod_lt _ (Nat.pow_pos (by decide))
  rcases Nat.lt_or_ge j k with hlt | hge
  · obtain ⟨t, ht⟩ : ∃ t, i = 32 * j + (32 + t) := ⟨i - 32 * j - 32, by omega⟩
    have e : 2 ^ i = 2 ^ (32 * j) * (4294967296 * 2 ^ t) := by rw [ht, Nat.pow_add, Nat.pow_add]
    rw [pt_more M i, h, Nat.mul_one, e, Nat.add_mul_div_left _ _ (Nat.pow_pos (by decide)), Nat.add_mul_mod_self_left]
  · have h1 : 2 ^ (i + 1) ≤ 2 ^ (32 * j) := Nat.pow_le_pow_right (by decide) (by omega)
    have h2 : 2 ^ i ≤ 2 ^ (32 * j) := Nat.pow_le_pow_right (by decide) (by omega)
    rw [Nat.div_eq_of_lt (Nat.lt_of_lt_of_le hB h1), Nat.div_eq_of_lt (Nat.lt_of_lt_of_le hA h2)]
theorem four_val (M : Nat) : pt M 128 0 + 4294967296 * (pt M 128 1 + 4294967296 * (pt M 128 2 + 4294967296 * pt M 128 3)) = M % 340282366920938463463374607431768211456 := by
  unfold pt
  have e0 : (2 : Nat) ^ (32 * 0) = 1 := by decide
  have e1 : (2 : Nat) ^ (32 * 1) = 4294967296 := by decide
  have e2 : (2 : Nat) ^ (32 * 2) = 18446744073709551616 := by decide
  have e3 : (2 : Nat) ^ (32 * 3) = 79228162514264337593543950336 := by decide
  have e4 : (2 : Nat) ^ 128 = 340282366920938463463374607431768211456 := by decide
  rw [e0, e1, e2, e3, e4]
  omega
theorem four_hi (M : Nat) (h : M < 340282366920938463463374607431768211456) : pt M 128 3 * 4294967296 + pt M 128 2 = M / 18446744073709551616 ∧ pt M 128 1 * 4294967296 + pt M 128 0 = M % 18446744073709551616 := by
  have hv := four_val M
  have h0 := pt_lt M 128 0; have h1 := pt_lt M 128 1; have h2 := pt_lt M 128 2; have h3 := pt_lt M 128 3
  generalize pt M 128 0 = a at *; generalize pt M 128 1 = b at *; generalize pt M 128 2 = c at *; generalize pt M 128 3 = d at *
  omega
end Go.Proofs.YtjnkbifafbjckaaGreatDoor.Na

/- The reference: 128 bits of a natural, as four limbs; 64 of these. -/
namespace Go.Proofs.YtjnkbifafbjckaaGreatDoor
set_option linter.all false
open Go.RowKit

def Na.part4 (M i : Nat) : List Nat := [Na.pt M i 0, Na.pt M i 1, Na.pt M i 2, Na.pt M i 3]
theorem Na.part4_no {M i : Nat} (h : M / 2 ^ i % 2 ≠ 1) : Na.part4 M (i + 1) = Na.part4 M i := by
  simp only [Na.part4, Na.pt_no h]
theorem Na.part4_set {M i k r : Nat} (h : M / 2 ^ i % 2 = 1) (hi : i = 32 * k + r) (hr : r < 32) (hk : k < 4) : (Na.part4 M i)[k]? = some (Na.pt M i k) ∧ Na.part4 M (i + 1) = (Na.part4 M i).set k (Na.pt M i k + 2 ^ r) ∧ Na.pt M i k < 2 ^ r := by
  obtain ⟨p1, p2⟩ := Na.pt_set h hi hr
  have po := fun j (hj : j ≠ k) => Na.pt_other h hi hr hj
  rcases k with _ | _ | _ | _ | k
  · exact ⟨rfl, by simp only [Na.part4, List.set, p1, po 1 (by decide), po 2 (by decide), po 3 (by decide)], p2⟩
  · exact ⟨rfl, by simp only [Na.part4, List.set, p1, po 0 (by decide), po 2 (by decide), po 3 (by decide)], p2⟩
  · exact ⟨rfl, by simp only [Na.part4, List.set, p1, po 0 (by decide), po 1 (by decide), po 3 (by decide)], p2⟩
  · exact ⟨rfl, by simp only [Na.part4, List.set, p1, po 0 (by decide), po 1 (by decide), po 2 (by decide)], p2⟩
  · omega
theorem Na.part4_zero (M : Nat) : Na.part4 M 0 = List.replicate 4 0 := by simp only [Na.part4, Na.pt_zero]; rfl
def partLoop (M g : Nat) (w : World) (iv : Value) (wr : World) : Prop := ∃ i : Nat, i ≤ 128 ∧ iv = .int .i64 i ∧ Hid (Blk wr g (Na.part4 M i)) ∧ Hid (Below w.heap.size w wr)

set_option maxRecDepth 100000 in
set_option maxHeartbeats 4000000 in
theorem r8_part_any (a : Option Addr) (c : Nat) (l : List Nat) (n : Nat) (w : World) (h : Sl w a c l) (hl : l.length ≤ 1000000) (hn : n ≤ 1000000) :
    Calls Tryz.prog 105 #[.slice a l.length c, .int .i64 n] w (fun e w' => ∃ g, e = .returned (.slice (some ⟨g, 0, none⟩) 4 4) ∧ w.heap.size ≤ g ∧ Blk w' g (Na.part4 (Na.val l / 2 ^ n) 128) ∧ Below w.heap.size w w') := by
  have HS := Lib.hid h
  have hbit := fun i wr (hi : i ≤ 128) (hs : Sl wr a c l) => r1_bit_any a c l (n + i) wr hs hl (by omega)
  have hval : ∀ i, Na.bit (Na.val l) (n + i) = decide (Na.val l / 2 ^ n / 2 ^ i % 2 = 1) := fun i => by
    rw [Na.bit, Nat.div_div_eq_div_mul, ← Nat.pow_add]
  obtain ⟨M, hM⟩ : ∃ M, M = Na.val l / 2 ^ n := ⟨_, rfl⟩
  rw [← hM]
  rw [← hM] at hval
  simp only [hval] at hbit
  have HBIT := Lib.hid hbit
  obtain ⟨L, hL⟩ : ∃ L, L = l.length := ⟨_, rfl⟩
  rw [← hL] at HBIT ⊢
  clear h hval hM hbit hL
  go_enter Tryz.func105, Tryz.ntmps105
  go_wp2_with (first | (at_make; refine mk_u32s rfl _ _ rfl _ _ 4 rfl rfl rfl rfl (by omega) ?_))
  intro w1 hK hgrow
  have hHB := Lib.hid (hgrow.out _ _ (Below.refl _ _) (Nat.le_refl _))
  obtain ⟨g, hgg, hg⟩ : ∃ g, g = w.heap.size ∧ w.heap.size ≤ g := ⟨_, rfl, by omega⟩
  rw [← hgg] at hK ⊢
  clear hgg hgrow
  go_wp2_with fail
  go_loopw [6] (partLoop M g w) (fun iv _ => 128 - (intOf iv).toNat)
  case atStart => exact ⟨0, Nat.zero_le _, rfl, Lib.hid (by rw [Na.part4_zero]; exact hK.out), hHB⟩
  case round =>
    clear hK hHB
    obtain ⟨i, hi, rfl, HBl, HBe⟩ := hrel
    by_cases hlt : i < 128
    · have hc : decide ((i : Int) < 128) = true := decide_eq_true (by omega)
      have hb := HBIT.out i wr hi (HS.out.on HBe.out)
      rw [show ((n + i : Nat) : Int) = (n : Int) + (i : Int) by omega] at hb
      by_cases hbt : M / 2 ^ i % 2 = 1
      · rw [decide_eq_true hbt] at hb
        have HB := Lib.hid hb
        obtain ⟨k, hk⟩ : ∃ k, k = i / 32 := ⟨_, rfl⟩
        obtain ⟨r, hr⟩ : ∃ k, k = i % 32 := ⟨_, rfl⟩
        have hr32 : r < 32 := by omega
        obtain ⟨s1, s2, s3⟩ := Na.part4_set (k := k) (r := r) hbt (by omega) hr32 (by omega)
        obtain ⟨A, hA⟩ : ∃ A, A = Na.pt M i k := ⟨_, rfl⟩
        rw [← hA] at s1 s2 s3
        have hor := (Na.or_bit A r hr32 s3).1
        have hp32 : 2 ^ (r + 1) ≤ 2 ^ 32 := Nat.pow_le_pow_right (by decide) (by omega)
        rw [Nat.pow_succ, show (2 : Nat) ^ 32 = 4294967296 by decide] at hp32
        obtain ⟨Q, hQ⟩ : ∃ Q, Q = 2 ^ r := ⟨_, rfl⟩
        have hQi : ((2 : Int) ^ r) = (Q : Int) := by rw [hQ]; simp
        rw [← hQ] at hor s2 s3 hp32
        have cc := HBl.out.at s1
        have cf := HBl.out.frozen k
        have hki : (i : Int) / 32 = (k : Int) := by omega
        have hri : (i : Int) % 32 = (r : Int) := by omega
        have hk4 : (k : Int) < 4 := by omega
        have hset := HBl.out.set k (A + Q)
        rw [← s2, Int.natCast_add] at hset
        have HSET := Lib.hid hset
        clear hb hbt s1 s2 hset hk hr hA hQ
        go_wp2_with (first | (go_at_call 96; (with_reducible refine (HB.out).mono ?_); rintro e w' ⟨rfl, rfl⟩))
        go_roundw
        case rel => exact ⟨i + 1, by omega, by go_num, HSET, Lib.hid (HBe.out.setCell hg _)⟩
        case measure => simp [intOf]; omega
      · rw [decide_eq_false hbt] at hb
        have HB := Lib.hid hb
        have hsame := Na.part4_no hbt
        clear hb hbt
        go_wp2_with (first | (go_at_call 96; (with_reducible refine (HB.out).mono ?_); rintro e w' ⟨rfl, rfl⟩))
        go_roundw
        case rel => exact ⟨i + 1, by omega, by go_num, Lib.hid (by rw [hsame]; exact HBl.out), HBe⟩
        case measure => simp [intOf]; omega
    · obtain rfl : i = 128 := by omega
      go_wp2_with fail
      go_ret
      exact ⟨g, rfl, hg, HBl.out, HBe.out⟩
end Go.Proofs.YtjnkbifafbjckaaGreatDoor

/- The reference: 64 bits of a natural; a power of ten. -/
namespace Go.Proofs.YtjnkbifafbjckaaGreatDoor
set_option linter.all false
open Go.RowKit

def p64Loop (t y z : Nat) (vv kv : Value) : Prop := (vv = .int .u64 0 ∧ kv = .int .i64 1 ∨ vv = .int .u64 y ∧ kv = .int .i64 0 ∨ vv = .int .u64 t ∧ kv = .int .i64 (-1)) ∧ Hid (t = y * 4294967296 + z)
set_option maxRecDepth 100000 in
set_option maxHeartbeats 4000000 in
theorem r2_part_at (g x y i : Nat) (o : List Nat) (w : World) (hk : Blk w g o) (ho : o.length = 4) (hi : i < 2) (h0 : o[2 * i]? = some x) (h1 : o[2 * i + 1]? = some y) (hx : x < 4294967296) (hy : y < 4294967296) :
    Calls Tryz.prog 40 #[.slice (some ⟨g, 0, none⟩) 4 4, .int .i64 i] w (Ret0 (.int .u64 ((y * 4294967296 + x : Nat) : Int)) w) := by
  have c0 := hk.at h0
  have c1 := hk.at h1
  obtain ⟨t, ht⟩ : ∃ t, t = y * 4294967296 + x := ⟨_, rfl⟩
  rw [← ht]
  have hti : (y : Int) * 4294967296 + (x : Int) = (t : Int) := by omega
  have htl : t < 18446744073709551616 := by omega
  obtain ⟨j, hj⟩ : ∃ j, j = 2 * i := ⟨_, rfl⟩
  rw [← hj] at c0 c1
  have e0 : 2 * (i : Int) = (j : Int) := by omega
  have hjl : j ≤ 2 := by omega
  have hgl := hk.lt
  have HT := Lib.hid ht
  clear hk h0 h1 ht ho hj
  go_enter Tryz.func40, Tryz.ntmps40
  go_wp2_with fail
  go_loop [5, 6] (p64Loop t y x) (fun _ k => (intOf k + 1).toNat)
  case atStart => exact ⟨Or.inl ⟨rfl, rfl⟩, HT⟩
  case round =>
    obtain ⟨hcase, -⟩ := hrel
    rcases hcase with ⟨rfl, rfl⟩ | ⟨rfl, rfl⟩ | ⟨rfl, rfl⟩
    · go_wp2_with fail
      go_round
      case rel => exact ⟨Or.inr (Or.inl ⟨rfl, rfl⟩), HT⟩
      case measure => simp [intOf]
    · go_wp2_with fail
      go_round
      case rel => exact ⟨Or.inr (Or.inr ⟨rfl, rfl⟩), HT⟩
      case measure => simp [intOf]
    · go_wp2_with fail
      go_ret
      exact Ret0.of rfl
end Go.Proofs.YtjnkbifafbjckaaGreatDoor

/- The reference: a power of ten. -/
namespace Go.Proofs.YtjnkbifafbjckaaGreatDoor
set_option linter.all false
open Go.RowKit

/-- What the reference tells of a power. -/
def GvPow (n : Int) (w : World) (e : Ending) (w' : World) : Prop := ∃ g, e = .returned (.tuple #[.slice (some ⟨g, 0, none⟩) 4 4, .int .i64 (Fl.pwE n), .bool (Fl.pwA n)]) ∧ w.heap.size ≤ g ∧ Blk w' g (Na.part4 (Fl.pwP n) 128) ∧ Below w.heap.size w w'
theorem Na.len_ten (n : Nat) (hn : n ≤ 400) : (Na.limbs (10 ^ n)).length ≤ 256 := Fl.ten_mid (by omega)
theorem Na.part4_val {M : Nat} (h : M < 340282366920938463463374607431768211456) : Na.val (Na.part4 M 128) = M := by
  have := Na.four_val M
  rw [Nat.mod_eq_of_lt h] at this
  simp only [Na.part4, Na.val, Na.B]
  omega
theorem Na.part4_ok (M : Nat) : Na.OK (Na.part4 M 128) := fun x hx => by
  simp only [Na.part4, List.mem_cons, List.not_mem_nil, or_false] at hx
  rcases hx with rfl | rfl | rfl | rfl <;> exact Na.pt_lt ..

set_option maxRecDepth 100000 in
set_option maxHeartbeats 4000000 in
theorem r8_power_short (j : Nat) (w : World) (hj : j ≤ 400) (hl : Na.bitLen (10 ^ j) ≤ 128) : Calls Tryz.prog 39 #[.int .i64 j] w (GvPow j w) := by
  obtain ⟨f1, f2, -⟩ := Fl.pw_pos (j := j) rfl
  obtain ⟨g1, g2⟩ := f2 (by omega)
  have hT := fun w => r8_ten_any j w (by omega)
  have hTl := Na.len_ten j hj
  obtain ⟨L, hL⟩ : ∃ L, L = Na.bitLen (10 ^ j) := ⟨_, rfl⟩
  have hlen := fun a c w1 (s : Sl w1 a c (Na.limbs (10 ^ j))) (z : a = none → c = 0) => r1_len_any a c (Na.limbs (10 ^ j)) w1 s z (by omega)
  rw [Na.val_limbs, ← hL] at hlen
  rw [← hL] at f1 g1 hl
  obtain ⟨k, hk⟩ : ∃ k, k = 128 - L := ⟨_, rfl⟩
  rw [show (-((L : Int) - 128)).toNat = k by omega] at g1
  have hup := fun a c w1 (s : Sl w1 a c (Na.limbs (10 ^ j))) (z : a = none → c = 0) => r3_up_any a c (Na.limbs (10 ^ j)) k w1 s z (by omega) (by omega)
  rw [Na.val_limbs, ← g1] at hup
  have hPl := (Fl.pw_range (j : Int)).2
  have hpart := fun a c w1 (s : Sl w1 a c (Na.limbs (Fl.pwP (j : Int)))) => r8_part_any a c (Na.limbs (Fl.pwP (j : Int))) 0 w1 s (by have := Fl.mid_bl (n := Fl.pwP (j : Int)) (Nat.le_trans (Fl.bitLen_lt (k := 128) hPl) (by decide)); unfold Fl.Mid at this; omega) (by omega)
  rw [Na.val_limbs, Nat.pow_zero, Nat.div_one] at hpart
  unfold GvPow
  rw [f1, g2]
  obtain ⟨P, hP⟩ : ∃ P, P = Fl.pwP (j : Int) := ⟨_, rfl⟩
  rw [← hP] at hup hpart ⊢
  obtain ⟨T, hTe⟩ : ∃ P, P = Na.limbs (10 ^ j) := ⟨_, rfl⟩
  rw [← hTe] at hT hlen hup
  have HT := Lib.hid hT; have HL := Lib.hid hlen; have HU := Lib.hid hup; have HPT := Lib.hid (fun a c w1 (s : Sl w1 a c (Na.limbs P)) => (show Calls Tryz.prog 105 #[.slice a (Na.limbs P).length c, .int .i64 0] w1 _ from hpart a c w1 s))
  have hki : (128 : Int) - (L : Int) = (k : Int) := by omega
  have hc : decide ((L : Int) ≤ 128) = true := decide_eq_true (by omega)
  clear hk hT hlen hup hpart f1 f2 g1 g2 hP hTe hL hTl hPl
  go_enter Tryz.func39, Tryz.ntmps39
  go_wp2_with (first
    | (go_at_call 78; (with_reducible refine (HT.out _).mono ?_); rintro e w1 ⟨a1, c1, rfl, s1, z1, -, hb1⟩)
    | (go_at_call 79; (with_reducible refine (HL.out _ _ _ s1 z1).mono ?_); rintro e w2 ⟨rfl, hb2⟩; have hB2 : Below w.heap.size w w2 := hb1.trans (hb2.mono hb1.size); have s2 := s1.on hb2)
    | (go_at_call 43; (with_reducible refine (HU.out _ _ _ s2 z1).mono ?_); rintro e w3 ⟨a3, c3, rfl, s3, z3, -, hb3⟩; have hB3 : Below w.heap.size w w3 := hB2.trans (hb3.mono hB2.size))
    | (go_at_call 105; (with_reducible refine (HPT.out _ _ _ s3).mono ?_); rintro e w4 ⟨g, rfl, hg, hk4, hb4⟩; have hB4 : Below w.heap.size w w4 := hB3.trans (hb4.mono hB3.size)))
  refine bodyPost_ret (v := .tuple #[.slice (some ⟨g, 0, none⟩) 4 4, .int .i64 ((L : Int) - 128), .bool true]) (by (simp [results, Tryz.results39, go_sem]; done)) rfl ⟨g, rfl, Nat.le_trans hB3.size hg, hk4, hB4⟩

set_option maxRecDepth 100000 in
set_option maxHeartbeats 4000000 in
theorem r8_power_long (j : Nat) (w : World) (hj : j ≤ 400) (hl : 128 < Na.bitLen (10 ^ j)) : Calls Tryz.prog 39 #[.int .i64 j] w (GvPow j w) := by
  obtain ⟨f1, -, f2⟩ := Fl.pw_pos (j := j) rfl
  obtain ⟨g1, g2⟩ := f2 (by omega)
  have hT := fun w => r8_ten_any j w (by omega)
  have hTl := Na.len_ten j hj
  have hLe := Fl.ten_len j
  obtain ⟨L, hL⟩ : ∃ L, L = Na.bitLen (10 ^ j) := ⟨_, rfl⟩
  have hlen := fun a c w1 (s : Sl w1 a c (Na.limbs (10 ^ j))) (z : a = none → c = 0) => r1_len_any a c (Na.limbs (10 ^ j)) w1 s z (by omega)
  rw [Na.val_limbs, ← hL] at hlen
  rw [← hL] at f1 g1 g2 hl hLe
  obtain ⟨k, hk⟩ : ∃ k, k = L - 128 := ⟨_, rfl⟩
  rw [show ((L : Int) - 128).toNat = k by omega] at g1 g2
  have hki : (L : Int) - 128 = (k : Int) := by omega
  have hkl : k ≤ 4000 := by omega
  have hpart := fun a c w1 (s : Sl w1 a c (Na.limbs (10 ^ j))) => r8_part_any a c (Na.limbs (10 ^ j)) k w1 s (by omega) (by omega)
  rw [Na.val_limbs, ← g1] at hpart
  have hPl := (Fl.pw_range (j : Int)).2
  have hpl : (Na.part4 (Fl.pwP (j : Int)) 128).length = 4 := rfl
  have htrim := fun a c w1 (s : Sl w1 a c (Na.part4 (Fl.pwP (j : Int)) 128)) (z : a = none → c = 0) => r1_trim_any a c (Na.part4 (Fl.pwP (j : Int)) 128) w1 s z (by rw [hpl]; omega)
  rw [Na.cut, Na.part4_val hPl, hpl] at htrim
  have hlp : (Na.limbs (Fl.pwP (j : Int))).length ≤ 256 := by
    have := Fl.mid_bl (n := Fl.pwP (j : Int)) (Nat.le_trans (Fl.bitLen_lt (k := 128) hPl) (by decide)); unfold Fl.Mid at this; exact this
  have hup := fun a c w1 (s : Sl w1 a c (Na.limbs (Fl.pwP (j : Int)))) (z : a = none → c = 0) => r3_up_any a c (Na.limbs (Fl.pwP (j : Int))) k w1 s z (by omega) (by omega)
  rw [Na.val_limbs] at hup
  have hle : Fl.pwP (j : Int) * 2 ^ k ≤ 10 ^ j := by rw [g1]; exact Nat.div_mul_le_self _ _
  have hcmp := fun a c b d w1 (s : Sl w1 a c (Na.limbs (Fl.pwP (j : Int) * 2 ^ k))) (z : a = none → c = 0) (s' : Sl w1 b d (Na.limbs (10 ^ j))) (z' : b = none → d = 0) => r1_cmp_any a c (Na.limbs (Fl.pwP (j : Int) * 2 ^ k)) b d (Na.limbs (10 ^ j)) w1 s z s' z' (by have := Fl.mid_le hle (Fl.ten_mid (j := j) (by omega)); unfold Fl.Mid at this; omega) (by omega)
  have hdm := Nat.div_add_mod (10 ^ j) (2 ^ k)
  rw [← g1, Nat.mul_comm] at hdm
  have hA : (Na.cmp (Na.limbs (Fl.pwP (j : Int) * 2 ^ k)) (Na.limbs (10 ^ j)) == 0) = Fl.pwA (j : Int) := by
    rw [g2]
    by_cases h0 : 10 ^ j % 2 ^ k = 0
    · rw [decide_eq_false (by simp [h0]), Na.cmp_eq (by rw [Na.val_limbs, Na.val_limbs]; omega)]; rfl
    · rw [decide_eq_true h0, Na.cmp_lt (by rw [Na.val_limbs, Na.val_limbs]; omega)]; rfl
  unfold GvPow
  rw [f1]
  obtain ⟨A, hAe⟩ : ∃ A, A = Fl.pwA (j : Int) := ⟨_, rfl⟩
  obtain ⟨cm, hcm⟩ : ∃ cm, cm = Na.cmp (Na.limbs (Fl.pwP (j : Int) * 2 ^ k)) (Na.limbs (10 ^ j)) := ⟨_, rfl⟩
  rw [← hAe, ← hcm] at hA
  rw [← hcm] at hcmp
  rw [← hAe, hki]
  obtain ⟨T, hTe⟩ : ∃ P, P = Na.limbs (10 ^ j) := ⟨_, rfl⟩
  obtain ⟨U, hU⟩ : ∃ P, P = Na.limbs (Fl.pwP (j : Int) * 2 ^ k) := ⟨_, rfl⟩
  rw [← hTe] at hT hlen hpart hcmp
  rw [← hU] at hup hcmp
  obtain ⟨P, hP⟩ : ∃ P, P = Fl.pwP (j : Int) := ⟨_, rfl⟩
  rw [← hP] at hup hpart htrim ⊢
  have hok := Na.part4_ok P
  have HT := Lib.hid hT; have HL := Lib.hid hlen; have HU := Lib.hid hup; have HPT := Lib.hid hpart; have HTR := Lib.hid htrim; have HCM := Lib.hid hcmp; have HOK := Lib.hid hok
  have hc : decide ((L : Int) ≤ 128) = false := decide_eq_false (by omega)
  have h0j : (0 : Int) ≤ (j : Int) := by omega
  clear hk hT hlen hup hpart htrim hcmp f1 f2 g1 g2 hP hTe hU hL hTl hPl hAe hcm hdm hle hlp hpl hok hLe
  go_enter Tryz.func39, Tryz.ntmps39
  go_wp2_with (first
    | (go_at_call 78; (with_reducible refine (HT.out _).mono ?_); rintro e w1 ⟨a1, c1, rfl, s1, z1, -, hb1⟩)
    | (go_at_call 79; (with_reducible refine (HL.out _ _ _ s1 z1).mono ?_); rintro e w2 ⟨rfl, hb2⟩; have hB2 : Below w.heap.size w w2 := hb1.trans (hb2.mono hb1.size); have s2 := s1.on hb2)
    | (go_at_call 105; (with_reducible refine (HPT.out _ _ _ s2).mono ?_); rintro e w3 ⟨g, rfl, hg, hk3, hb3⟩; have hB3 : Below w.heap.size w w3 := hB2.trans (hb3.mono hB2.size); have s3 := s2.on hb3; have p3 := hk3.sl HOK.out (Nat.le_refl 4))
    | (go_at_call 107; (with_reducible refine (HTR.out _ _ _ p3 (fun e => by cases e)).mono ?_); rintro e w4 ⟨a4, c4, rfl, s4, z4, -, hb4⟩; have hB4 : Below w.heap.size w w4 := hB3.trans (hb4.mono hB3.size); have s4' := s3.on hb4; have hk4 := hk3.on hb4)
    | (go_at_call 43; (with_reducible refine (HU.out _ _ _ s4 z4).mono ?_); rintro e w5 ⟨a5, c5, rfl, s5, z5, -, hb5⟩; have hB5 : Below w.heap.size w w5 := hB4.trans (hb5.mono hB4.size); have s5' := s4'.on hb5; have hk5 := hk4.on hb5)
    | (go_at_call 106; (with_reducible refine (HCM.out _ _ _ _ _ s5 z5 s5' z1).mono ?_); rintro e w6 ⟨rfl, hb6⟩; have hB6 : Below w.heap.size w w6 := hB5.trans (hb6.mono hB5.size); have hk6 := hk5.on hb6))
  refine bodyPost_ret (v := .tuple #[.slice (some ⟨g, 0, none⟩) 4 4, .int .i64 (k : Int), .bool A]) (by (simp [results, Tryz.results39, go_sem]; done)) rfl ⟨g, rfl, Nat.le_trans hB2.size hg, hk6, hB6⟩

set_option maxRecDepth 100000 in
set_option maxHeartbeats 4000000 in
theorem r8_power_neg (j : Nat) (w : World) (h0 : 0 < j) (hj : j ≤ 400) : Calls Tryz.prog 39 #[.int .i64 (-(j : Int))] w (GvPow (-(j : Int)) w) := by
  obtain ⟨f1, g1, g2⟩ := Fl.pw_neg h0
  have hT := fun w => r8_ten_any j w (by omega)
  have hTl := Na.len_ten j hj
  have hLe := Fl.ten_len j
  have hT0 := Fl.ten_ne j
  obtain ⟨L, hL⟩ : ∃ L, L = Na.bitLen (10 ^ j) := ⟨_, rfl⟩
  have hlen := fun a c w1 (s : Sl w1 a c (Na.limbs (10 ^ j))) (z : a = none → c = 0) => r1_len_any a c (Na.limbs (10 ^ j)) w1 s z (by omega)
  rw [Na.val_limbs, ← hL] at hlen
  rw [← hL] at f1 g1 hLe
  obtain ⟨k, hk⟩ : ∃ k, k = L + 127 := ⟨_, rfl⟩
  rw [← hk] at g1
  rw [show -((L : Int) + 127) = -(k : Int) by omega] at f1
  have hki : (L : Int) + 127 = (k : Int) := by omega
  have hkl : k ≤ 4000 := by omega
  have hup := fun a c w1 (s : Sl w1 a c [1]) (z : a = none → c = 0) => r3_up_any a c [1] k w1 s z (by simp) (by omega)
  rw [show Na.val [1] = 1 from rfl] at hup
  have hUl : (Na.limbs (1 * 2 ^ k)).length ≤ 256 := by
    have := Fl.mid_pow (n := 1 * 2 ^ k) (k := k + 1) (by rw [Nat.one_mul]; exact Nat.pow_lt_pow_right (by decide) (by omega)) (by omega)
    exact this
  have hprt := fun a c b d w1 (s : Sl w1 a c (Na.limbs (1 * 2 ^ k))) (z : a = none → c = 0) (s' : Sl w1 b d (Na.limbs (10 ^ j))) (z' : b = none → d = 0) => r1_parts_any a c (Na.limbs (1 * 2 ^ k)) b d (Na.limbs (10 ^ j)) w1 s z s' z' (by omega) (by omega) (by rw [Na.val_limbs]; exact Nat.pos_of_ne_zero hT0)
  rw [Na.val_limbs, Na.val_limbs, ← g1] at hprt
  have hPl := (Fl.pw_range (-(j : Int))).2
  have hpart := fun a c w1 (s : Sl w1 a c (Na.limbs (Fl.pwP (-(j : Int))))) => r8_part_any a c (Na.limbs (Fl.pwP (-(j : Int)))) 0 w1 s (by have := Fl.mid_bl (n := Fl.pwP (-(j : Int))) (Nat.le_trans (Fl.bitLen_lt (k := 128) hPl) (by decide)); unfold Fl.Mid at this; omega) (by omega)
  rw [Na.val_limbs, Nat.pow_zero, Nat.div_one] at hpart
  unfold GvPow
  rw [f1, g2]
  obtain ⟨P, hP⟩ : ∃ P, P = Fl.pwP (-(j : Int)) := ⟨_, rfl⟩
  rw [← hP] at hprt hpart ⊢
  obtain ⟨T, hTe⟩ : ∃ P, P = Na.limbs (10 ^ j) := ⟨_, rfl⟩
  obtain ⟨U, hU⟩ : ∃ P, P = Na.limbs (1 * 2 ^ k) := ⟨_, rfl⟩
  obtain ⟨R, hR⟩ : ∃ P, P = 1 * 2 ^ k % 10 ^ j := ⟨_, rfl⟩
  rw [← hTe] at hT hlen hprt
  rw [← hU] at hup hprt
  rw [← hR] at hprt
  have HT := Lib.hid hT; have HL := Lib.hid hlen; have HU := Lib.hid (fun a c w1 (s : Sl w1 a c [1]) (z : a = none → c = 0) => (show Calls Tryz.prog 43 #[.slice a 1 c, .int .i64 (k : Nat)] w1 (GivesZ U w1) from hup a c w1 s z)); have HPR := Lib.hid hprt
  have HPT := Lib.hid (fun a c w1 (s : Sl w1 a c (Na.limbs P)) => (show Calls Tryz.prog 105 #[.slice a (Na.limbs P).length c, .int .i64 0] w1 _ from hpart a c w1 s))
  have HSL := Lib.hid (fun w1 => (show Sl (w1.alloc (Obj.cells #[Value.int IntKind.u32 1] 72)) (some ⟨w1.heap.size, 0, none⟩) 1 [1] from lit_sl w1 1 (by decide)))
  have hc : decide (0 ≤ -(j : Int)) = false := decide_eq_false (by omega)
  clear hk hT hlen hup hprt hpart f1 g1 g2 hP hTe hU hR hL hTl hPl hUl hLe hT0
  go_enter Tryz.func39, Tryz.ntmps39
  go_wp2_with (first
    | (go_at_call 78; (with_reducible refine (HT.out _).mono ?_); rintro e w1 ⟨a1, c1, rfl, s1, z1, -, hb1⟩)
    | (go_at_call 79; (with_reducible refine (HL.out _ _ _ s1 z1).mono ?_); rintro e w2 ⟨rfl, hb2⟩; have hB2 : Below w.heap.size w w2 := hb1.trans (hb2.mono hb1.size); have s2 := (s1.on hb2).on ((Below.refl w2.heap.size w2).alloc (Nat.le_refl _) (.cells #[Value.int .u32 1] 72)))
    | (go_at_call 43; (with_reducible refine (HU.out _ _ _ (HSL.out w2) (fun e => by cases e)).mono ?_); rintro e w3 ⟨a3, c3, rfl, s3, z3, -, hb3⟩; have hB3 : Below w.heap.size w w3 := (hB2.alloc hB2.size _).trans (hb3.mono (by simp; have := hB2.size; omega)); have s3' := s2.on hb3)
    | (go_at_call 80; (with_reducible refine (HPR.out _ _ _ _ _ s3 z3 s3' z1).mono ?_); rintro e w4 ⟨a4, c4, a4', c4', rfl, s4, -, hb4⟩; have hB4 : Below w.heap.size w w4 := hB3.trans (hb4.mono hB3.size))
    | (go_at_call 105; (with_reducible refine (HPT.out _ _ _ s4).mono ?_); rintro e w5 ⟨g, rfl, hg, hk5, hb5⟩; have hB5 : Below w.heap.size w w5 := hB4.trans (hb5.mono hB4.size)))
  refine bodyPost_ret (v := .tuple #[.slice (some ⟨g, 0, none⟩) 4 4, .int .i64 (-(k : Int)), .bool false]) (by (simp [results, Tryz.results39, go_sem]; done)) rfl ⟨g, rfl, Nat.le_trans hB4.size hg, hk5, hB5⟩

theorem r8_power_any (n : Int) (w : World) (hn : -400 ≤ n ∧ n ≤ 400) : Calls Tryz.prog 39 #[.int .i64 n] w (GvPow n w) := by
  by_cases h : 0 ≤ n
  · obtain ⟨j, rfl⟩ : ∃ j : Nat, n = j := ⟨n.toNat, by omega⟩
    by_cases hl : Na.bitLen (10 ^ j) ≤ 128
    · exact r8_power_short j w (by omega) hl
    · exact r8_power_long j w (by omega) (by omega)
  · obtain ⟨j, rfl⟩ : ∃ j : Nat, n = -(j : Int) := ⟨(-n).toNat, by omega⟩
    exact r8_power_neg j w (by omega) (by omega)
end Go.Proofs.YtjnkbifafbjckaaGreatDoor

/- Chapter 8's law: a power of ten has the 128 bits that the chapter says. -/
namespace Go.Proofs.YtjnkbifafbjckaaGreatDoor
set_option linter.all false
open Go.RowKit
attribute [local go_sem] u2_eql u2_neq u2Eq u2_guard

theorem quiet0 {f : FuncId} {args : Array Value} {w : World} {n : Nat} {v : Value} (h : Calls Tryz.prog f args (w.drewN n) (Ret0 v (w.drewN n))) : Calls Tryz.prog f args (w.drewN n) fun e w'' => e = .returned v ∧ ∃ m, w'' = w.drewN m :=
  h.mono fun _ _ ⟨he, hm⟩ => ⟨he, n, hm.symm⟩
theorem r2_part_pow (g P : Nat) (w : World) (hk : Blk w g (Na.part4 P 128)) (hP : P < 340282366920938463463374607431768211456) :
    Calls Tryz.prog 40 #[.slice (some ⟨g, 0, none⟩) 4 4, .int .i64 1] w (Ret0 (.int .u64 ((P / 18446744073709551616 : Nat) : Int)) w) ∧
    Calls Tryz.prog 40 #[.slice (some ⟨g, 0, none⟩) 4 4, .int .i64 0] w (Ret0 (.int .u64 ((P % 18446744073709551616 : Nat) : Int)) w) := by
  obtain ⟨h1, h0⟩ := Na.four_hi P hP
  have a1 := r2_part_at g (Na.pt P 128 2) (Na.pt P 128 3) 1 (Na.part4 P 128) w hk rfl (by omega) rfl rfl (Na.pt_lt ..) (Na.pt_lt ..)
  have a0 := r2_part_at g (Na.pt P 128 0) (Na.pt P 128 1) 0 (Na.part4 P 128) w hk rfl (by omega) rfl rfl (Na.pt_lt ..) (Na.pt_lt ..)
  rw [h1] at a1
  rw [h0] at a0
  exact ⟨a1, a0⟩

set_option maxRecDepth 100000 in
set_option maxHeartbeats 4000000 in
theorem l8_powers_out (n : Int) (w : World) (hn : n < -400 ∨ 400 < n) (hb : -9223372036854775808 ≤ n ∧ n ≤ 9223372036854775807) : Calls Tryz.prog 8 #[.int .i64 n] w (RetB (.bool true) w) := by
  have HS := Lib.hid (fun w1 => l8_shown_any w1)
  have HN := Lib.hid (fun w1 => re_new_any w1)
  have HP := Lib.hid (fun b w1 (h : Rdr w1 b) => re_power_out b n w1 hn hb h)
  obtain ⟨b1, b2⟩ := hb
  have hcase : n < -400 ∨ (¬ n < -400 ∧ 400 < n) := by omega
  clear hn
  rcases hcase with hn | ⟨hn0, hn⟩
  all_goals (
    go_enter Tryz.func8, Tryz.ntmps8
    go_wp2_with (first
      | (go_at_call 32; (with_reducible refine (HS.out _).mono ?_); rintro e w1 ⟨rfl, hb_w1⟩; have hB_w1 : Below (w).heap.size (w) w1 := Below.trans (by (repeat (first | exact Below.refl _ _ | assumption | refine Below.setCell ?_ (by first | omega | (simp <;> omega)) _ | refine Below.alloc ?_ (by first | omega | (simp <;> omega)) _ | refine Below.drew ?_ | refine below_drewN' ?_ _))) (hb_w1.mono (by first | omega | (simp <;> omega))); obtain ⟨hc_w1, hf_w1⟩ := bcell hb_w1; have hz_w1 := hb_w1.size; (try simp only [size_drew', size_drewN', World.size_alloc, World.size_setCell] at hz_w1))
      | (go_at_call 33; (with_reducible refine (HN.out _).mono ?_); rintro e w2 ⟨rfl, rd2, hb2⟩; have hB2 : Below w.heap.size w w2 := hB_w1.trans (hb2.mono hB_w1.size))
      | (go_at_call 38; (with_reducible refine (HP.out _ _ rd2).mono ?_); rintro e w3 ⟨rfl, ho3, rd3⟩; have hB3 : Below w.heap.size w w3 := hB2.trans (ho3.up hB_w1.size); have z3 := hB3.size))
    go_ret
    exact RetB.of rfl (hB3.alloc z3 _))

set_option maxRecDepth 100000 in
set_option maxHeartbeats 8000000 in
theorem l8_powers_in (n : Int) (w : World) (hn : -400 ≤ n ∧ n ≤ 400) : Calls Tryz.prog 8 #[.int .i64 n] w (RetB (.bool true) w) := by
  have HS := Lib.hid (fun w1 => l8_shown_any w1)
  have HN := Lib.hid (fun w1 => re_new_any w1)
  have h1 := fun b w1 (h : Rdr w1 b) => re_power_in b n w1 hn h
  have h2 := fun w1 => r8_power_any n w1 hn
  unfold GvPow at h2
  obtain ⟨q1, q2⟩ := Fl.pw_range n
  have h3 := fun g w1 (hk : Blk w1 g (Na.part4 (Fl.pwP n) 128)) => r2_part_pow g (Fl.pwP n) w1 hk q2
  have hA := Fl.pw_all n
  obtain ⟨P, hP⟩ : ∃ P, P = Fl.pwP n := ⟨_, rfl⟩
  obtain ⟨E, hE⟩ : ∃ P, P = Fl.pwE n := ⟨_, rfl⟩
  obtain ⟨D, hD⟩ : ∃ P, P = Fl.pwA n := ⟨_, rfl⟩
  rw [← hP] at q1 q2
  rw [← hD] at hA
  rw [← hP, ← hE, ← hD] at h1 h2
  rw [← hP] at h3
  obtain ⟨hi, hhi⟩ : ∃ x, x = P / 18446744073709551616 := ⟨_, rfl⟩
  obtain ⟨lo, hlo⟩ : ∃ x, x = P % 18446744073709551616 := ⟨_, rfl⟩
  rw [← hhi, ← hlo] at h1 h3
  have hge : decide (9223372036854775808 ≤ (hi : Int)) = true := decide_eq_true (by omega)
  have H1 := Lib.hid h1; have H2 := Lib.hid h2; have H3 := Lib.hid h3
  have hin1 : decide (n < -400) = false := decide_eq_false (by omega)
  have hin2 : decide (400 < n) = false := decide_eq_false (by omega)
  clear h1 h2 h3 hP hE hD hhi hlo q1 q2
  obtain ⟨n1, n2⟩ := hn
  have hcase : (n < 0 ∧ D = false) ∨ (0 ≤ n ∧ n ≤ 55 ∧ D = true) ∨ (55 < n ∧ D = false) := by
    by_cases c : 0 ≤ n ∧ n ≤ 55
    · rw [decide_eq_true c] at hA; exact Or.inr (Or.inl ⟨c.1, c.2, hA⟩)
    · rw [decide_eq_false c] at hA
      by_cases c2 : n < 0
      · exact Or.inl ⟨c2, hA⟩
      · exact Or.inr (Or.inr ⟨by omega, hA⟩)
  clear hA
  have hw : ∀ (d0 d55 : Bool), decide (0 ≤ n) = d0 → decide (n ≤ 55) = d55 → D = (d0 && d55) → Calls Tryz.prog 8 #[.int .i64 n] w (RetB (.bool true) w) := by
    intro d0 d55 e0 e55 hD
    clear hcase
    cases d0 <;> cases d55
    all_goals (
      subst hD
      go_enter Tryz.func8, Tryz.ntmps8
      go_upto_region 9 with (first
        | (go_at_call 32; (with_reducible refine (HS.out _).mono ?_); rintro e w1 ⟨rfl, hb_w1⟩; have hB_w1 : Below (w).heap.size (w) w1 := Below.trans (by (repeat (first | exact Below.refl _ _ | assumption | refine Below.setCell ?_ (by first | omega | (simp <;> omega)) _ | refine Below.alloc ?_ (by first | omega | (simp <;> omega)) _ | refine Below.drew ?_ | refine below_drewN' ?_ _))) (hb_w1.mono (by first | omega | (simp <;> omega))); obtain ⟨hc_w1, hf_w1⟩ := bcell hb_w1; have hz_w1 := hb_w1.size; (try simp only [size_drew', size_drewN', World.size_alloc, World.size_setCell] at hz_w1))
        | (go_at_call 33; (with_reducible refine (HN.out _).mono ?_); rintro e w2 ⟨rfl, rd2, hb2⟩; have hB2 : Below w.heap.size w w2 := hB_w1.trans (hb2.mono hB_w1.size))
        | (go_at_call 38; (with_reducible refine (H1.out _ _ rd2).mono ?_); rintro e w3 ⟨rfl, ho3, rd3⟩; have hB3 : Below w.heap.size w w3 := hB2.trans (ho3.up hB_w1.size); have z3 := hB3.size)
        | (go_at_call 39; (with_reducible refine (H2.out _).mono ?_); rintro e w4 ⟨g, rfl, hg, hk4, hb4⟩; have hB4 : Below w.heap.size w w4 := (hB3.alloc z3 _).trans (hb4.mono (by simp; omega)); have P1 := Lib.hid (fun n => (H3.out g (w4.drewN n) hk4.drew).1); have P0 := Lib.hid (fun n => (H3.out g (w4.drewN n) hk4.drew).2); have c4 := (Cs.new w3 [.int .u64 hi, .int .u64 lo] 57).on hb4; have x0 := c4.get 0 rfl; have x1 := c4.get 1 rfl; have xl := c4.1; clear c4))
      go_quiet (first | (go_at_call 40; with_reducible exact quiet0 (P1.out _)) | (go_at_call 40; with_reducible exact quiet0 (P0.out _)))
      go_wp2
      go_ret
      exact RetB.of rfl (below_drewN' hB4 _))
  rcases hcase with ⟨c, e⟩ | ⟨c, c2, e⟩ | ⟨c, e⟩
  · exact hw false true (decide_eq_false (by omega)) (decide_eq_true (by omega)) e
  · exact hw true true (decide_eq_true (by omega)) (decide_eq_true (by omega)) e
  · exact hw true false (decide_eq_true (by omega)) (decide_eq_false (by omega)) e
theorem l8_powers_any (n : Int) (w : World) (hn : -9223372036854775808 ≤ n ∧ n ≤ 9223372036854775807) : Calls Tryz.prog 8 #[.int .i64 n] w (RetB (.bool true) w) := by
  by_cases h : -400 ≤ n ∧ n ≤ 400
  · exact l8_powers_in n w h
  · exact l8_powers_out n w (by omega) hn
end Go.Proofs.YtjnkbifafbjckaaGreatDoor

/- Plain Lean: digit strings compared place for place, noughts behind the last one. -/
namespace Go.Proofs.YtjnkbifafbjckaaGreatDoor.Dc
set_option linter.all false

theorem getD_dig {l : Bs} (h : allDig l = true) (i : Nat) : 48 ≤ (l.getD i 48).toNat := by
  rw [List.getD_eq_getElem?_getD]
  cases hg : l[i]? with
  | none => decide
  | some c => exact (dig_mem h (List.mem_of_getElem? hg)).1

theorem cmp_lt : ∀ (i : Nat) (a b : Bs), allDig a = true → allDig b = true → (∀ j, j < i → a.getD j 48 = b.getD j 48) → (a.getD i 48).toNat < (b.getD i 48).toNat → Lib.compareBytes a b = -1 ∧ Lib.compareBytes b a = 1 := by
  intro i
  induction i with
  | zero =>
    intro a b ha hb _ h
    cases a with
    | nil =>
      cases b with
      | nil => simp at h
      | cons d b => exact ⟨rfl, rfl⟩
    | cons c a =>
      cases b with
      | nil => have := getD_dig ha 0; simp at h this; omega
      | cons d b =>
        simp only [List.getD_cons_zero] at h
        have h1 : c < d := h
        have h2 : ¬ d < c := by show ¬ d.toNat < c.toNat; omega
        exact ⟨by rw [Lib.compareBytes, if_pos h1], by rw [Lib.compareBytes, if_neg h2, if_pos h1]⟩
  | succ i ih =>
    intro a b ha hb he h
    cases a with
    | nil =>
      cases b with
      | nil => simp at h
      | cons d b => exact ⟨rfl, rfl⟩
    | cons c a =>
      cases b with
      | nil => have := getD_dig ha (i + 1); simp at h this; omega
      | cons d b =>
        have h0 := he 0 (by omega)
        simp only [List.getD_cons_zero] at h0
        subst h0
        have h1 : ¬ c < c := by show ¬ c.toNat < c.toNat; omega
        rw [Lib.compareBytes, if_neg h1, if_neg h1, Lib.compareBytes, if_neg h1, if_neg h1]
        exact ih a b (dig_cons ha).2 (dig_cons hb).2 (fun j hj => by simpa using he (j + 1) (by omega)) (by simpa using h)

theorem compareBytes_self : ∀ a : Bs, Lib.compareBytes a a = 0
  | [] => rfl
  | c :: a => by
    have h1 : ¬ c < c := by show ¬ c.toNat < c.toNat; omega
    rw [Lib.compareBytes, if_neg h1, if_neg h1, compareBytes_self a]

theorem all48_end {b : Bs} (hb : endOk b) (h : ∀ j, b.getD j 48 = 48) : b = [] := by
  cases b with
  | nil => rfl
  | cons d b =>
    exfalso
    refine hb (by simp) ?_
    have := h ((d :: b).length - 1)
    rw [List.getD_eq_getElem?_getD, List.getElem?_eq_getElem (by simp)] at this
    rw [List.getElem?_eq_getElem (by simp)]
    exact congrArg some this

theorem cmp_eq : ∀ (a b : Bs), endOk a → endOk b → (∀ j, a.getD j 48 = b.getD j 48) → a = b := by
  intro a
  induction a with
  | nil => intro b _ hb h; exact (all48_end hb (fun j => by rw [← h j]; simp)).symm
  | cons c a ih =>
    intro b ha hb h
    cases b with
    | nil => exact all48_end ha (fun j => by rw [h j]; simp)
    | cons d b =>
      have h0 := h 0
      simp only [List.getD_cons_zero] at h0
      rw [h0, ih b (endOk_tail ha) (endOk_tail hb) (fun j => by simpa using h (j + 1))]

theorem cmp_all {a b : Bs} (ha : endOk a) (hb : endOk b) (n : Nat) (h1 : a.length ≤ n) (h2 : b.length ≤ n) (h : ∀ j, j < n → a.getD j 48 = b.getD j 48) : Lib.compareBytes a b = 0 := by
  rw [cmp_eq a b ha hb, compareBytes_self]
  intro j
  by_cases hj : j < n
  · exact h j hj
  · rw [List.getD_eq_getElem?_getD, List.getD_eq_getElem?_getD, List.getElem?_eq_none (by omega), List.getElem?_eq_none (by omega)]

theorem size_swap {la lb : Bs} {x y : Int} (ha : right la x = true) (hb : right lb y = true) : sizeC lb y la x = - sizeC la x lb y := by
  rw [sizeC_vv ha hb, sizeC_vv hb ha]; unfold sg; split <;> split <;> omega
end Go.Proofs.YtjnkbifafbjckaaGreatDoor.Dc
