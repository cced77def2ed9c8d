/- exact.of: a natural times a power of two as a decimal. -/
import Derived.Test.YtjnkbifafbjckaaGreatDoorZ9
import Derived.Test.YtjnkbifafbjckaaGreatDoorZ10
import Derived.Test.YtjnkbifafbjckaaGreatDoorZ1
import Derived.Laws.StructEq
namespace Go.Proofs.YtjnkbifafbjckaaGreatDoor
set_option linter.all false
open Go.RowKit
attribute [local go_sem] Fl.dv

/-- A result's place for a decimal, as it was made. -/
def Z3 (W : World) (b : Nat) : Prop := W.cell? ⟨b, 0, none⟩ = some (.bool false) ∧ W.cell? ⟨b, 1, none⟩ = some (.string ⟨#[]⟩) ∧ W.cell? ⟨b, 2, none⟩ = some (.int .i64 0) ∧ (∀ o, W.frozen? ⟨b, o, none⟩ = false) ∧ b < W.heap.size
theorem Z3.new (w : World) : Z3 (w.alloc (Obj.cells #[Value.bool false, Value.string ⟨#[]⟩, Value.int IntKind.i64 0] 25)) w.heap.size :=
  ⟨by simp [go_sem], by simp [go_sem], by simp [go_sem], fun o => by
    unfold World.frozen?; simp only []
    rw [show (w.alloc (Obj.cells #[Value.bool false, Value.string ⟨#[]⟩, Value.int IntKind.i64 0] 25)).heap[w.heap.size]? = some _ from heap_alloc_new w _]
    simp, by simp⟩
theorem Z3.on {W W' : World} {b : Nat} (h : Z3 W b) (hb : Below W.heap.size W W') : Z3 W' b := by
  obtain ⟨h0, h1, h2, hf, hl⟩ := h
  exact ⟨(hb.cell (p := ⟨b, 0, none⟩) hl).trans h0, (hb.cell (p := ⟨b, 1, none⟩) hl).trans h1, (hb.cell (p := ⟨b, 2, none⟩) hl).trans h2, fun o => (hb.frozen (p := ⟨b, o, none⟩) hl).trans (hf o), Nat.lt_of_lt_of_le hl hb.size⟩
theorem Z3.alloc {W : World} {b : Nat} (h : Z3 W b) (o : Obj) : Z3 (W.alloc o) b := h.on ((Below.refl _ _).alloc (Nat.le_refl _) o)

/-- .. behind a call from a world with one block more, and that one written. -/
theorem Z3.step {W W1 W' : World} {b : Nat} (h : Z3 W b) (hb : Below W1.heap.size W1 W') (hW : Below W.heap.size W W1 := by first | exact Below.alloc (Below.refl _ _) (Nat.le_refl _) _ | (repeat (first | exact Below.refl _ _ | refine Below.setCell ?_ (by first | exact Nat.le_refl _ | (simp <;> omega)) _ | refine Below.alloc ?_ (by first | exact Nat.le_refl _ | (simp <;> omega)) _ | refine Below.drew ?_))) : Z3 W' b := (h.on hW).on hb

theorem Fl.len2 {n : Nat} (hn : n < Na.B ^ 2) : (Na.limbs n).length ≤ 2 := Na.limbs_len_le _ _ hn
theorem Fl.small2 {n : Nat} (hn : n < Na.B ^ 2) : Na.big (Na.limbs n) = false := by
  have := Fl.len2 hn
  rw [Na.big, Na.rt_limbs]; exact decide_eq_false (by omega)
theorem Fl.shl_eq (n k : Nat) (hn : n < Na.B ^ 2) (hk : k ≤ 1200) : Na.shl (Na.limbs n) (k : Int) = (Na.limbs (n * 2 ^ k), 0) := by
  rw [Na.shl, if_neg (by omega), Fl.small2 hn, if_neg (by simp), Na.val_limbs]
  by_cases h0 : n = 0
  · rw [if_pos h0, h0, Nat.zero_mul, Na.limbs_zero]
  · rw [if_neg h0, if_neg, Int.toNat_natCast]
    have := Na.bitLen_le' (n := n) (k := 64) hn
    omega
theorem Fl.shr_one (n : Nat) (hn : n < Na.B ^ 2) : Na.shr (Na.limbs n) 1 = (Na.limbs (n / 2), decide (n % 2 ≠ 0), 0) := by
  rw [Na.shr, if_neg (by omega), Fl.small2 hn, if_neg (by simp), Na.val_limbs]; rfl
theorem Fl.pow_five (k : Nat) (hk : k ≤ 1200) : Na.pow 5 (k : Int) = (Na.limbs (5 ^ k), 0) := by
  have h := Na.limbs_len_le _ _ (Nat.lt_of_le_of_lt (Fl.pow_le_B 5 k (by decide) hk) (show Na.B ^ 120 < Na.B ^ 121 from Nat.pow_lt_pow_right (by decide) (by decide)))
  rw [Na.pow, if_neg (by omega), if_neg (by omega), Int.toNat_natCast, Na.fits, if_neg (by show ¬ 256 < (Na.limbs (5 ^ k)).length; omega)]; rfl
theorem Fl.mul_five (m k : Nat) (hm : m < Na.B ^ 2) (hk : k ≤ 1200) : Na.mul (Na.limbs m) (Na.limbs (5 ^ k)) = (Na.limbs (m * 5 ^ k), 0) := by
  have h := Na.limbs_len_le _ _ (Nat.lt_of_le_of_lt (Fl.pow_le_B 5 k (by decide) hk) (show Na.B ^ 120 < Na.B ^ 121 from Nat.pow_lt_pow_right (by decide) (by decide)))
  have h2 := Fl.len_mul_pow m 5 k hm (by decide) hk
  have hb : Na.big (Na.limbs (5 ^ k)) = false := by rw [Na.big, Na.rt_limbs]; exact decide_eq_false (by omega)
  rw [Na.mul, Fl.small2 hm, hb, if_neg (by simp), Na.val_limbs, Na.val_limbs, Na.fits, if_neg (by omega)]

theorem Fl.make_any (s : Bool) (v : Nat) (x : Int) (w : World) (hv : (Na.limbs v).length ≤ 1000) (hx : -9223372036854775808 ≤ x ∧ x ≤ 9223372036854775807) :
    Calls Tryz.prog 133 #[.bool s, .string ⟨(Lib.decDigits v).toArray⟩, .int .i64 x] w (RetB (.tuple #[Fl.dv (Dc.mk s (Lib.decDigits v) x), .int .i64 (Dc.mk s (Lib.decDigits v) x).e]) w) := by
  have h1 := dec_len_le (Na.limbs v) (Na.ok_limbs v)
  rw [Na.val_limbs] at h1
  exact d_make_any s ⟨(Lib.decDigits v).toArray⟩ x w (by rw [size_mk]; omega) hx
theorem Fl.digits_any (a : Option Addr) (c v : Nat) (w w0 : World) (hs : Sl w a c (Na.limbs v)) (hv : (Na.limbs v).length ≤ 1000) (ht : Tab w0) (hb : Below w0.heap.size w0 w) :
    Calls Tryz.prog 134 #[.slice a (Na.limbs v).length c] w (RetB (.string ⟨(Lib.decDigits v).toArray⟩) w) := by
  have := na_digits_any a c (Na.limbs v) w hs (by omega) (ht.below hb)
  rwa [Na.val_limbs] at this

set_option maxHeartbeats 1000000 in
theorem ex_of_up (s : Bool) (a : Option Addr) (c n k : Nat) (w : World) (h : Sl w a c (Na.limbs n)) (hn : n < Na.B ^ 2) (hk : k ≤ 1100) (ht : Tab w) :
    Calls Tryz.prog 71 #[.bool s, .slice a (Na.limbs n).length c, .int .i64 k] w (RetB (Fl.dv (Fl.of s n k)) w) := by
  have hof : Fl.of s n k = Dc.mk s (Lib.decDigits (n * 2 ^ k)) 0 := by rw [Fl.of, if_pos (by omega), Int.toNat_natCast]
  have hln := Fl.len2 hn
  have hl := Fl.len_mul_pow n 2 k hn (by decide) (by omega)
  have hsh := fun wr (hb : Below w.heap.size w wr) => na_shl_any a c (Na.limbs n) k wr (h.on hb) (by omega) (by omega)
  rw [Fl.shl_eq n k hn (by omega)] at hsh
  rw [hof]
  obtain ⟨v, hv⟩ : ∃ v, v = n * 2 ^ k := ⟨_, rfl⟩
  rw [← hv] at hsh hl ⊢
  have HD := Lib.hid (fun w1 a1 c1 (hs : Sl w1 a1 c1 (Na.limbs v)) (hb : Below w.heap.size w w1) => Fl.digits_any a1 c1 v w1 w hs (by omega) ht hb)
  have HM := Lib.hid (fun w1 => Fl.make_any s v 0 w1 (by omega) (by omega))
  have HS := Lib.hid hsh
  obtain ⟨S, hS⟩ : ∃ S : ByteArray, S = ⟨(Lib.decDigits v).toArray⟩ := ⟨_, rfl⟩
  obtain ⟨R, hR⟩ : ∃ R, R = Dc.mk s (Lib.decDigits v) 0 := ⟨_, rfl⟩
  rw [← hS] at HD HM
  rw [← hR] at HM ⊢
  clear hv hof hS hR hsh
  go_enter Tryz.func71, Tryz.ntmps71
  go_wp2_with (first
    | (go_at_call 82; (with_reducible refine (HS.out _ ?_).mono ?_); exact (Below.refl _ _).alloc (Nat.le_refl _) _; rintro e w1 ⟨a1, c1, rfl, s1, -, hb1⟩; have zz1 := (Z3.new w).on hb1; have hB1 : Below w.heap.size w w1 := Below.trans ((Below.refl _ _).alloc (Nat.le_refl _) _) (hb1.mono (by simp)))
    | (go_at_call 134; (with_reducible refine (HD.out _ _ _ s1 hB1).mono ?_); rintro e w2 ⟨rfl, hb2⟩; have zz2 := zz1.on hb2; have hB2 := hB1.trans (hb2.mono hB1.size))
    | (go_at_call 133; (with_reducible refine (HM.out _).mono ?_); rintro e w3 ⟨rfl, hb3⟩; have hB3 := hB2.trans (hb3.mono hB2.size); have zz3 := zz2.on hb3; obtain ⟨y0, y1, y2, yf, yl⟩ := zz3; have yf0 := yf 0; have yf1 := yf 1; have yf2 := yf 2; have yn : ¬ w.heap.size = w3.heap.size := (by omega); have yn' : ¬ w3.heap.size = w.heap.size := (by omega)))
  refine bodyPost_ret (v := Fl.dv R) (by simp [results, Tryz.results71, go_sem, y0, y1, y2, yf0, yf1, yf2, yn, yn', yl]; done) rfl (RetB.of rfl (by (repeat (first | exact Below.refl _ _ | assumption | refine Below.setCell ?_ (by first | omega | (simp <;> omega)) _ | refine Below.alloc ?_ (by first | omega | (simp <;> omega)) _ | refine Below.drew ?_ | refine below_drewN' ?_ _))))

def halfLoop (n k : Nat) (w : World) (nv ev : Value) (wr : World) : Prop := ∃ (m j : Nat) (z : Int) (a : Option Addr) (c : Nat), nv = .slice a (Na.limbs m).length c ∧ ev = .int .i64 z ∧ Hid (z = -(j : Int)) ∧ j ≤ k ∧ m < Na.B ^ 2 ∧ Hid (Fl.halve k n = Fl.halve j m) ∧ Hid (Sl wr a c (Na.limbs m)) ∧ Hid (Z3 wr w.heap.size) ∧ Hid (Below w.heap.size w wr)
theorem Na.limbs_head {m : Nat} (h : m ≠ 0) : ∃ h0 : 0 < (Na.limbs m).length, (Na.limbs m)[0] = m % 4294967296 := by
  have e : Na.limbs m = (m % Na.B) :: Na.limbs (m / Na.B) := by rw [Na.limbs, dif_neg h]
  have h0 : 0 < (Na.limbs m).length := by rw [e]; simp
  refine ⟨h0, ?_⟩
  simp only [e, List.getElem_cons_zero]
  first | done | rfl
theorem Fl.and_low (x : Nat) (hx : x < 4294967296) : bits BinOp.and IntKind.u32 (x : Int) 1 = ((x % 2 : Nat) : Int) := by
  have := Na.and_mask x 1 hx (by decide)
  rw [show (2 ^ 1 - 1 : Nat) = 1 from rfl] at this
  exact this

set_option maxHeartbeats 4000000 in
theorem ex_of_down (s : Bool) (a : Option Addr) (c n k : Nat) (w : World) (h : Sl w a c (Na.limbs n)) (hn : n < Na.B ^ 2) (hk0 : 0 < k) (hk : k ≤ 1100) (ht : Tab w) :
    Calls Tryz.prog 71 #[.bool s, .slice a (Na.limbs n).length c, .int .i64 (-(k : Int))] w (RetB (Fl.dv (Fl.of s n (-(k : Int)))) w) := by
  have HOF := Lib.hid (show Fl.of s n (-(k : Int)) = Dc.mk s (Lib.decDigits ((Fl.halve k n).1 * 5 ^ (Fl.halve k n).2)) (-((Fl.halve k n).2 : Int)) by
    rw [Fl.of, if_neg (by omega), Int.neg_neg, Int.toNat_natCast])
  have H := Lib.hid h
  have HT := Lib.hid ht
  have hln := Fl.len2 hn
  obtain ⟨z0, hz0⟩ : ∃ z : Int, z = -(k : Int) := ⟨_, rfl⟩
  have hneg : ¬ 0 ≤ z0 := by omega
  have HZ0 := Lib.hid hz0
  rw [← hz0]; rw [← hz0] at HOF
  clear h ht hz0
  go_enter Tryz.func71, Tryz.ntmps71
  go_wp2_with fail
  go_loopw [1, 2] (halfLoop n k w) (fun _ e _ => (-(intOf e)).toNat)
  case atStart => exact ⟨n, k, z0, a, c, rfl, rfl, HZ0, Nat.le_refl _, hn, Lib.hid rfl, Lib.hid (H.out.on ((Below.refl _ _).alloc (Nat.le_refl _) _)), Lib.hid (Z3.new w), Lib.hid ((Below.refl _ _).alloc (Nat.le_refl _) _)⟩
  case round =>
    clear H hln HZ0
    obtain ⟨m, j, z, a, c, rfl, rfl, HZ, hj, hm, HH, HSl, HZR, HBe⟩ := hrel
    have hml := Fl.len2 hm
    have hz := HZ.out
    by_cases hgo : 0 < j ∧ m ≠ 0 ∧ m % 2 = 0
    · obtain ⟨h1, h2, h3⟩ := hgo
      obtain ⟨j, rfl⟩ : ∃ t, j = t + 1 := ⟨j - 1, by omega⟩
      obtain ⟨hp, hhead⟩ := Na.limbs_head h2
      obtain ⟨b, o, rfl, hb, hc⟩ := HSl.out.plain hp
      have c0 := hc 0 hp
      rw [hhead, Nat.add_zero] at c0
      have hand := Fl.and_low (m % 4294967296) (Nat.mod_lt _ (by decide))
      rw [show m % 4294967296 % 2 = 0 by omega] at hand
      obtain ⟨x, hx⟩ : ∃ x, x = m % 4294967296 := ⟨_, rfl⟩
      rw [← hx] at c0 hand
      have hxl : x < 4294967296 := by rw [hx]; exact Nat.mod_lt _ (by decide)
      have hzn : z < 0 := by omega
      have hz1 : z + 1 ≤ 0 := by omega
      have hz2 : -1200 ≤ z := by omega
      have hsh := na_shr_any (some ⟨b, o, none⟩) c (Na.limbs m) 1 wr HSl.out (by omega) (by omega)
      rw [Fl.shr_one m hm] at hsh
      have HSH := Lib.hid hsh
      have HH2 := Lib.hid (HH.out.trans (Fl.halve_yes h2 h3))
      have HZZ := Lib.hid (show z + 1 = -(j : Int) by omega)
      clear hsh hc hx hhead h2 h3 hz h1
      go_wp2_with (first | (go_at_call 81; (with_reducible refine (HSH.out).mono ?_); rintro e w1 ⟨a1, c1, rfl, s1, -, hb1⟩; have hB1 := HBe.out.trans (hb1.mono HBe.out.size)))
      go_roundw
      case rel => exact ⟨m / 2, j, z + 1, a1, c1, rfl, rfl, HZZ, by omega, by omega, HH2, Lib.hid s1, Lib.hid (HZR.out.on hb1), Lib.hid hB1⟩
      case measure => simp [intOf]; omega
    · have hend : Fl.halve k n = (m, j) := by
        rw [HH.out]
        cases j with
        | zero => rfl
        | succ j => exact Fl.halve_no (by omega)
      have hsp := HOF.out
      rw [hend] at hsp
      have hz3 : -1200 ≤ z ∧ z ≤ 0 := by omega
      obtain ⟨hz3, hz4⟩ := hz3
      have hzj : -z = (j : Int) := by omega
      obtain ⟨v, hv⟩ : ∃ v, v = m * 5 ^ j := ⟨_, rfl⟩
      have hl := Fl.len_mul_pow m 5 j hm (by decide) (by omega)
      have hfl := Na.limbs_len_le _ _ (Nat.lt_of_le_of_lt (Fl.pow_le_B 5 j (by decide) (by omega)) (show Na.B ^ 120 < Na.B ^ 121 from Nat.pow_lt_pow_right (by decide) (by decide)))
      have HP := Lib.hid (fun w1 => (by
        have := na_pow_any 5 (j : Int) w1 (by omega) (by omega)
        rw [Fl.pow_five j (by omega)] at this
        exact this : Calls Tryz.prog 131 #[.int .i64 5, .int .i64 (j : Int)] w1 (GivesE (Na.limbs (5 ^ j), 0) w1)))
      have HM := Lib.hid (fun w1 a1 c1 (hs : Sl w1 a c (Na.limbs m)) (hs1 : Sl w1 a1 c1 (Na.limbs (5 ^ j))) => (by
        have := na_mul_any a c (Na.limbs m) a1 c1 (Na.limbs (5 ^ j)) w1 hs hs1 (by omega) (by omega)
        rw [Fl.mul_five m j hm (by omega), ← hv] at this
        exact this : Calls Tryz.prog 132 #[.slice a (Na.limbs m).length c, .slice a1 (Na.limbs (5 ^ j)).length c1] w1 (GivesE (Na.limbs v, 0) w1)))
      rw [← hv] at hl hsp
      have hzz : -(j : Int) = z := by omega
      have HD := Lib.hid (fun w1 a1 c1 (hs : Sl w1 a1 c1 (Na.limbs v)) (hb : Below w.heap.size w w1) => Fl.digits_any a1 c1 v w1 w hs (by omega) HT.out hb)
      have HMK := Lib.hid (fun w1 => Fl.make_any s v z w1 (by omega) (by omega))
      obtain ⟨S, hS⟩ : ∃ S : ByteArray, S = ⟨(Lib.decDigits v).toArray⟩ := ⟨_, rfl⟩
      obtain ⟨R, hR⟩ : ∃ R, R = Dc.mk s (Lib.decDigits v) z := ⟨_, rfl⟩
      rw [← hS] at HD HMK
      rw [← hR] at HMK
      have HR := Lib.hid (show Fl.of s n z0 = R by rw [hsp, hR]; show Dc.mk _ _ (-(j : Int)) = _; rw [hzz])
      have hcase : z = 0 ∨ (z < 0 ∧ m = 0) ∨ (z < 0 ∧ m ≠ 0 ∧ m % 2 = 1) := by omega
      clear hv hS hR hsp hend hz HZ HH HOF hzz hgo hfl
      rcases hcase with hz0 | ⟨hzn, hm0⟩ | ⟨hzn, hm0, hm1⟩
      · have hznn : ¬ z < 0 := by omega
        clear hz0
        go_wp2_with (first
          | (go_at_call 131; (with_reducible refine (HP.out _).mono ?_); rintro e w1 ⟨a1, c1, rfl, s1, -, hb1⟩; have hB1 := HBe.out.trans (hb1.mono HBe.out.size))
          | (go_at_call 132; (with_reducible refine (HM.out _ _ _ (HSl.out.on hb1) s1).mono ?_); rintro e w2 ⟨a2, c2, rfl, s2, -, hb2⟩; have hB2 := hB1.trans (hb2.mono hB1.size))
          | (go_at_call 134; (with_reducible refine (HD.out _ _ _ s2 hB2).mono ?_); rintro e w3 ⟨rfl, hb3⟩; have hB3 := hB2.trans (hb3.mono hB2.size))
          | (go_at_call 133; (with_reducible refine (HMK.out _).mono ?_); rintro e w4 ⟨rfl, hb4⟩; have hB4 := hB3.trans (hb4.mono hB3.size); have zz4 := (((HZR.out.on hb1).on hb2).on hb3).on hb4; obtain ⟨y0, y1, y2, yf, yl⟩ := zz4; have yf0 := yf 0; have yf1 := yf 1; have yf2 := yf 2; have yn : ¬ w.heap.size = w4.heap.size := (by omega); have yn' : ¬ w4.heap.size = w.heap.size := (by omega)))
        refine bodyPost_ret (v := Fl.dv R) (by simp [results, Tryz.results71, go_sem, y0, y1, y2, yf0, yf1, yf2, yn, yn', yl]; done) rfl (RetB.of (by rw [HR.out]) (by (repeat (first | exact Below.refl _ _ | assumption | refine Below.setCell ?_ (by first | omega | (simp <;> omega)) _ | refine Below.alloc ?_ (by first | omega | (simp <;> omega)) _ | refine Below.drew ?_ | refine below_drewN' ?_ _))))
      · have hl0 : (Na.limbs m).length = 0 := by rw [hm0, Na.limbs_zero]; rfl
        rw [hl0] at HM
        clear hm0
        go_wp2_with (first
          | (go_at_call 131; (with_reducible refine (HP.out _).mono ?_); rintro e w1 ⟨a1, c1, rfl, s1, -, hb1⟩; have hB1 := HBe.out.trans (hb1.mono HBe.out.size))
          | (go_at_call 132; (with_reducible refine (HM.out _ _ _ (HSl.out.on hb1) s1).mono ?_); rintro e w2 ⟨a2, c2, rfl, s2, -, hb2⟩; have hB2 := hB1.trans (hb2.mono hB1.size))
          | (go_at_call 134; (with_reducible refine (HD.out _ _ _ s2 hB2).mono ?_); rintro e w3 ⟨rfl, hb3⟩; have hB3 := hB2.trans (hb3.mono hB2.size))
          | (go_at_call 133; (with_reducible refine (HMK.out _).mono ?_); rintro e w4 ⟨rfl, hb4⟩; have hB4 := hB3.trans (hb4.mono hB3.size); have zz4 := (((HZR.out.on hb1).on hb2).on hb3).on hb4; obtain ⟨y0, y1, y2, yf, yl⟩ := zz4; have yf0 := yf 0; have yf1 := yf 1; have yf2 := yf 2; have yn : ¬ w.heap.size = w4.heap.size := (by omega); have yn' : ¬ w4.heap.size = w.heap.size := (by omega)))
        refine bodyPost_ret (v := Fl.dv R) (by simp [results, Tryz.results71, go_sem, y0, y1, y2, yf0, yf1, yf2, yn, yn', yl]; done) rfl (RetB.of (by rw [HR.out]) (by (repeat (first | exact Below.refl _ _ | assumption | refine Below.setCell ?_ (by first | omega | (simp <;> omega)) _ | refine Below.alloc ?_ (by first | omega | (simp <;> omega)) _ | refine Below.drew ?_ | refine below_drewN' ?_ _))))
      · obtain ⟨hp, hhead⟩ := Na.limbs_head hm0
        obtain ⟨b, o, rfl, hb, hc⟩ := HSl.out.plain hp
        have c0 := hc 0 hp
        rw [hhead, Nat.add_zero] at c0
        have hand := Fl.and_low (m % 4294967296) (Nat.mod_lt _ (by decide))
        rw [show m % 4294967296 % 2 = 1 by omega] at hand
        obtain ⟨x, hx⟩ : ∃ x, x = m % 4294967296 := ⟨_, rfl⟩
        rw [← hx] at c0 hand
        have hxl : x < 4294967296 := by rw [hx]; exact Nat.mod_lt _ (by decide)
        clear hc hx hhead hm0 hm1
        go_wp2_with (first
          | (go_at_call 131; (with_reducible refine (HP.out _).mono ?_); rintro e w1 ⟨a1, c1, rfl, s1, -, hb1⟩; have hB1 := HBe.out.trans (hb1.mono HBe.out.size))
          | (go_at_call 132; (with_reducible refine (HM.out _ _ _ (HSl.out.on hb1) s1).mono ?_); rintro e w2 ⟨a2, c2, rfl, s2, -, hb2⟩; have hB2 := hB1.trans (hb2.mono hB1.size))
          | (go_at_call 134; (with_reducible refine (HD.out _ _ _ s2 hB2).mono ?_); rintro e w3 ⟨rfl, hb3⟩; have hB3 := hB2.trans (hb3.mono hB2.size))
          | (go_at_call 133; (with_reducible refine (HMK.out _).mono ?_); rintro e w4 ⟨rfl, hb4⟩; have hB4 := hB3.trans (hb4.mono hB3.size); have zz4 := (((HZR.out.on hb1).on hb2).on hb3).on hb4; obtain ⟨y0, y1, y2, yf, yl⟩ := zz4; have yf0 := yf 0; have yf1 := yf 1; have yf2 := yf 2; have yn : ¬ w.heap.size = w4.heap.size := (by omega); have yn' : ¬ w4.heap.size = w.heap.size := (by omega)))
        refine bodyPost_ret (v := Fl.dv R) (by simp [results, Tryz.results71, go_sem, y0, y1, y2, yf0, yf1, yf2, yn, yn', yl]; done) rfl (RetB.of (by rw [HR.out]) (by (repeat (first | exact Below.refl _ _ | assumption | refine Below.setCell ?_ (by first | omega | (simp <;> omega)) _ | refine Below.alloc ?_ (by first | omega | (simp <;> omega)) _ | refine Below.drew ?_ | refine below_drewN' ?_ _))))

theorem ex_of_any (s : Bool) (a : Option Addr) (c n : Nat) (e : Int) (w : World) (h : Sl w a c (Na.limbs n)) (hn : n < Na.B ^ 2) (he : -1100 ≤ e ∧ e ≤ 1100) (ht : Tab w) :
    Calls Tryz.prog 71 #[.bool s, .slice a (Na.limbs n).length c, .int .i64 e] w (RetB (Fl.dv (Fl.of s n e)) w) := by
  by_cases h0 : 0 ≤ e
  · obtain ⟨k, rfl⟩ : ∃ k : Nat, e = k := ⟨e.toNat, by omega⟩
    exact ex_of_up s a c n k w h hn (by omega) ht
  · obtain ⟨k, rfl⟩ : ∃ k : Nat, e = -(k : Int) := ⟨(-e).toNat, by omega⟩
    exact ex_of_down s a c n k w h hn (by omega) (by omega) ht
end Go.Proofs.YtjnkbifafbjckaaGreatDoor

/- Plain Lean: the nearest fraction of all denominators up to a bound. -/
namespace Go.Proofs.YtjnkbifafbjckaaGreatDoor.Fl
set_option linter.all false
open Go

/-- How far p / q is from r / u, times q and u. -/
def gap (r u p q : Nat) : Nat := if r * q < u * p then u * p - r * q else r * q - u * p
/-- Is p / q nearer than b? -/
def nearer (r u p q : Nat) (b : Nat × Nat) : Bool := decide (gap r u p q * b.2 < gap r u b.1 b.2 * q)
def pick (r u p q : Nat) (b : Nat × Nat) : Nat × Nat := if nearer r u p q b = true then (p, q) else b
/-- The two fractions with q for a denominator are tried. -/
def turn (r u : Nat) (b : Nat × Nat) (q : Nat) : Nat × Nat := pick r u (r * q / u + 1) q (pick r u (r * q / u) q b)
def best (r u : Nat) : Nat → Nat × Nat
  | 0 => (0, 1)
  | q + 1 => turn r u (best r u q) (q + 1)

/-- A fraction, and an error. -/
structure Frac where
  d : Dc.Res
  p : Int
  q : Int
  e : Int
def ratio (x : Nat) (most : Int) : Frac :=
  if 3 ≤ kind x then ⟨⟨false, [], 0, 0⟩, 0, 0, 11⟩
  else if most < 1 ∨ 9999 < most then ⟨⟨false, [], 0, 0⟩, 0, 0, 1⟩
  else if 0 ≤ expn x then ⟨of (neg x) (mant x) (expn x), 0, 1, 0⟩
  else if best (mant x % 2 ^ (-expn x).toNat) (2 ^ (-expn x).toNat) most.toNat = (1, 1) then ⟨of (neg x) (mant x / 2 ^ (-expn x).toNat + 1) 0, 0, 1, 0⟩
  else ⟨of (neg x) (mant x / 2 ^ (-expn x).toNat) 0, (best (mant x % 2 ^ (-expn x).toNat) (2 ^ (-expn x).toNat) most.toNat).1, (best (mant x % 2 ^ (-expn x).toNat) (2 ^ (-expn x).toNat) most.toNat).2, 0⟩

theorem gap_low {r u q : Nat} (hu : 0 < u) : gap r u (r * q / u) q = r * q - u * (r * q / u) ∧ u * (r * q / u) ≤ r * q := by
  have h := Nat.div_mul_le_self (r * q) u
  rw [Nat.mul_comm] at h
  exact ⟨by rw [gap, if_neg (by omega)], h⟩
theorem gap_high {r u q : Nat} (hu : 0 < u) : gap r u (r * q / u + 1) q = u - gap r u (r * q / u) q ∧ gap r u (r * q / u) q ≤ u := by
  have h1 := Nat.div_add_mod (r * q) u
  have h2 := Nat.mod_lt (r * q) hu
  obtain ⟨h3, h4⟩ := gap_low (r := r) (q := q) hu
  rw [h3, gap, if_pos (by rw [Nat.mul_add, Nat.mul_one]; omega), Nat.mul_add, Nat.mul_one]
  omega
theorem gap_zero (r u : Nat) : gap r u 0 1 = r := by rw [gap, Nat.mul_zero, Nat.mul_one, if_neg (Nat.not_lt_zero _), Nat.sub_zero]
theorem gap_whole (r u q : Nat) : gap r u q q = gap r u 1 1 * q := by
  simp only [gap, Nat.mul_one]
  by_cases hq : q = 0
  · subst hq; simp
  · by_cases h : r < u
    · rw [if_pos (Nat.mul_lt_mul_of_pos_right h (by omega)), if_pos h, Nat.sub_mul]
    · rw [if_neg (by have := Nat.mul_le_mul_right q (Nat.le_of_not_lt h); omega), if_neg h, Nat.sub_mul]

/-- What holds of the best one: its denominator is no greater than what was tried, it lies in the unit, and is no farther than what was tried. -/
theorem pick_den (r u p q : Nat) (b : Nat × Nat) : pick r u p q b = (p, q) ∨ pick r u p q b = b := by unfold pick; split <;> simp
theorem best_bounds {r u : Nat} (hr : r < u) (n : Nat) : 1 ≤ (best r u n).2 ∧ (best r u n).2 ≤ max 1 n ∧ (best r u n).1 ≤ (best r u n).2 := by
  induction n with
  | zero => exact ⟨Nat.le_refl 1, by show 1 ≤ max 1 0; omega, Nat.zero_le _⟩
  | succ n ih =>
    have hp : r * (n + 1) / u + 1 ≤ n + 1 := by
      have : r * (n + 1) / u < n + 1 := by
        rw [Nat.div_lt_iff_lt_mul (by omega), Nat.mul_comm (n + 1)]
        exact Nat.mul_lt_mul_of_pos_right hr (by omega)
      omega
    show 1 ≤ (turn r u (best r u n) (n + 1)).2 ∧ (turn r u (best r u n) (n + 1)).2 ≤ max 1 (n + 1) ∧ (turn r u (best r u n) (n + 1)).1 ≤ (turn r u (best r u n) (n + 1)).2
    unfold turn
    rcases pick_den r u (r * (n + 1) / u + 1) (n + 1) (pick r u (r * (n + 1) / u) (n + 1) (best r u n)) with h | h
    · rw [h]; exact ⟨by show 1 ≤ n + 1; omega, by show n + 1 ≤ _; omega, hp⟩
    · rw [h]
      rcases pick_den r u (r * (n + 1) / u) (n + 1) (best r u n) with h | h
      · rw [h]; exact ⟨by show 1 ≤ n + 1; omega, by show n + 1 ≤ _; omega, by show r * (n + 1) / u ≤ n + 1; omega⟩
      · rw [h]; exact ⟨ih.1, by omega, ih.2.2⟩
/-- Picking never goes away from r / u. -/
theorem pick_le {r u p q : Nat} {b : Nat × Nat} {G D : Nat} (hq : 1 ≤ q) (hb : 1 ≤ b.2) (h : gap r u b.1 b.2 * D ≤ G * b.2) : gap r u (pick r u p q b).1 (pick r u p q b).2 * D ≤ G * (pick r u p q b).2 := by
  unfold pick
  split
  · rename_i hn
    have hn := of_decide_eq_true hn
    show gap r u p q * D ≤ G * q
    have e1 : gap r u p q * D * b.2 ≤ G * q * b.2 := by
      calc gap r u p q * D * b.2 = gap r u p q * b.2 * D := Nat.mul_right_comm _ _ _
        _ ≤ gap r u b.1 b.2 * q * D := Nat.mul_le_mul_right _ (Nat.le_of_lt hn)
        _ = gap r u b.1 b.2 * D * q := Nat.mul_right_comm _ _ _
        _ ≤ G * b.2 * q := Nat.mul_le_mul_right _ h
        _ = G * q * b.2 := Nat.mul_right_comm _ _ _
    exact Nat.le_of_mul_le_mul_right e1 hb
  · exact h
theorem pick_new {r u p q : Nat} {b : Nat × Nat} : gap r u (pick r u p q b).1 (pick r u p q b).2 * q ≤ gap r u p q * (pick r u p q b).2 := by
  unfold pick
  split
  · exact Nat.le_refl _
  · rename_i hn
    have hn := of_decide_eq_false (Bool.eq_false_iff.2 hn)
    exact Nat.le_of_not_lt hn
theorem pick_pos {r u p q : Nat} {b : Nat × Nat} (hq : 1 ≤ q) (hb : 1 ≤ b.2) : 1 ≤ (pick r u p q b).2 := by
  rcases pick_den r u p q b with h | h <;> rw [h] <;> assumption
/-- The best one is no farther than any that was tried. -/
theorem best_least {r u : Nat} (hr : r < u) (n q : Nat) (h1 : 1 ≤ q) (hq : q ≤ n) : gap r u (best r u n).1 (best r u n).2 * q ≤ gap r u (r * q / u) q * (best r u n).2 ∧ gap r u (best r u n).1 (best r u n).2 * q ≤ gap r u (r * q / u + 1) q * (best r u n).2 := by
  induction n with
  | zero => omega
  | succ n ih =>
    obtain ⟨b1, _⟩ := best_bounds hr n
    have hn1 : 1 ≤ n + 1 := by omega
    have hp1 : 1 ≤ (pick r u (r * (n + 1) / u) (n + 1) (best r u n)).2 := pick_pos hn1 b1
    show gap r u (turn r u (best r u n) (n + 1)).1 (turn r u (best r u n) (n + 1)).2 * q ≤ gap r u (r * q / u) q * (turn r u (best r u n) (n + 1)).2 ∧ gap r u (turn r u (best r u n) (n + 1)).1 (turn r u (best r u n) (n + 1)).2 * q ≤ gap r u (r * q / u + 1) q * (turn r u (best r u n) (n + 1)).2
    unfold turn
    by_cases h : q = n + 1
    · subst h
      exact ⟨pick_le hn1 hp1 pick_new, pick_new⟩
    · obtain ⟨k1, k2⟩ := ih (by omega)
      exact ⟨pick_le hn1 hp1 (pick_le hn1 b1 k1), pick_le hn1 hp1 (pick_le hn1 b1 k2)⟩
/-- .. so no fraction at all with such a denominator is nearer. -/
theorem best_all {r u : Nat} (hr : r < u) (n p q : Nat) (h1 : 1 ≤ q) (hq : q ≤ n) : gap r u (best r u n).1 (best r u n).2 * q ≤ gap r u p q * (best r u n).2 := by
  obtain ⟨k1, k2⟩ := best_least hr n q h1 hq
  have hu : 0 < u := by omega
  obtain ⟨g1, g2⟩ := gap_low (r := r) (q := q) hu
  obtain ⟨g3, g4⟩ := gap_high (r := r) (q := q) hu
  by_cases hp : p ≤ r * q / u
  · refine Nat.le_trans k1 (Nat.mul_le_mul_right _ ?_)
    have := Nat.mul_le_mul_left u hp
    rw [g1, gap, if_neg (by omega)]; omega
  · refine Nat.le_trans k2 (Nat.mul_le_mul_right _ ?_)
    have h3 := Nat.mul_le_mul_left u (show r * q / u + 1 ≤ p by omega)
    have h4 := Nat.div_add_mod (r * q) u
    have h5 := Nat.mod_lt (r * q) hu
    rw [g3, g1]
    rw [Nat.mul_add, Nat.mul_one] at h3
    have e2 : gap r u p q = u * p - r * q := by rw [gap, if_pos (by omega)]
    rw [e2]
    omega
/-- The whole is told as 1 / 1. -/
theorem best_whole {r u : Nat} (hr : r < u) (n : Nat) (h : (best r u n).1 = (best r u n).2) : best r u n = (1, 1) := by
  induction n with
  | zero => cases h
  | succ n ih =>
    obtain ⟨b1, _, _⟩ := best_bounds hr n
    by_cases h0 : n = 0
    · subst h0
      obtain ⟨c1, c2, c3⟩ := best_bounds hr 1
      have e : (best r u 1).2 = 1 := by omega
      exact Prod.ext (by rw [h, e]) e
    · have hall := best_all hr n 1 1 (Nat.le_refl _) (by omega)
      rw [Nat.mul_one] at hall
      -- what is picked at n + 1 is no whole
      have key : ∀ b : Nat × Nat, 1 ≤ b.2 → gap r u b.1 b.2 ≤ gap r u 1 1 * b.2 → pick r u (n + 1) (n + 1) b = b := fun b hb hle => by
        unfold pick
        rw [if_neg]
        intro hn
        have hn := of_decide_eq_true hn
        rw [gap_whole, Nat.mul_right_comm] at hn
        have := Nat.mul_le_mul_right (n + 1) hle
        omega
      have hturn : best r u (n + 1) = turn r u (best r u n) (n + 1) := rfl
      rw [hturn] at h ⊢
      unfold turn at h ⊢
      obtain ⟨b, hb⟩ : ∃ b, b = pick r u (r * (n + 1) / u) (n + 1) (best r u n) := ⟨_, rfl⟩
      have hb2 : 1 ≤ b.2 := by rw [hb]; exact pick_pos (by omega) b1
      have hble : gap r u b.1 b.2 ≤ gap r u 1 1 * b.2 := by
        have := pick_le (p := r * (n + 1) / u) (q := n + 1) (D := 1) (G := gap r u 1 1) (by omega) b1 (by rw [Nat.mul_one]; exact hall)
        rw [Nat.mul_one, ← hb] at this; exact this
      have hp : r * (n + 1) / u < n + 1 := by
        rw [Nat.div_lt_iff_lt_mul (by omega), Nat.mul_comm (n + 1)]
        exact Nat.mul_lt_mul_of_pos_right hr (by omega)
      have hbb : b.1 = b.2 → b = (1, 1) := fun e => by
        rcases pick_den r u (r * (n + 1) / u) (n + 1) (best r u n) with k | k
        · rw [hb, k] at e; simp at e; omega
        · rw [hb, k] at e ⊢; exact ih e
      rw [← hb] at h ⊢
      rcases pick_den r u (r * (n + 1) / u + 1) (n + 1) b with k | k
      · have e : r * (n + 1) / u + 1 = n + 1 := by rw [k] at h; exact h
        rw [e] at k ⊢
        rw [key b hb2 hble] at k ⊢
        exact hbb (by rw [k])
      · rw [k] at h ⊢; exact hbb h
end Go.Proofs.YtjnkbifafbjckaaGreatDoor.Fl

/- Trials (two ints) are compared. -/
namespace Go.Proofs.YtjnkbifafbjckaaGreatDoor
set_option linter.all false
open Go.RowKit

def trEq (p0 p1 q0 q1 : Int) : Bool := p0 == q0 && p1 == q1
theorem tr_struct : Tryz.prog.underlying 100 = some (.struct (Tryz.prog.fieldsOf 100)) := by kernel_rfl
theorem tr_held : Tryz.prog.stoodInHeld 100 = false := by kernel_rfl
theorem tr_guardT : Tryz.prog.eqGuardType Tryz.prog.depth 100 = false := by kernel_rfl
theorem tr_fields : (Tryz.prog.fieldsOf 100).toList.map (fun f => (f.type, f.offset, f.name == "_")) = [(3, 0, false), (3, 1, false)] := by kernel_rfl
theorem tr_guard (op : BinOp) (x y : Operand) (xs ys : Array Value) (w : World) : (eqGuard op 100 x y (.agg xs) (.agg ys)).run Tryz.prog w = .ok () w := run_eqGuard_agg _ _ _ _ _ _ _ tr_guardT
theorem tr_equalIn (p0 p1 q0 q1 : Int) (w : World) :
    (Op.equalIn 10000 100 (.agg #[.int .i64 p0, .int .i64 p1]) (.agg #[.int .i64 q0, .int .i64 q1])).run Tryz.prog w = .ok (trEq p0 p1 q0 q1) w := by
  rw [run_equalIn_agg _ 9999 _ _ _ tr_struct tr_held]
  have hf := tr_fields
  generalize (Tryz.prog.fieldsOf 100).toList = fs at hf
  have hl := congrArg List.length hf
  rw [List.length_map] at hl
  obtain ⟨f0, f1, rfl⟩ : ∃ f0 f1, fs = [f0, f1] := by
    match fs, hl with
    | [a, b], _ => exact ⟨a, b, rfl⟩
  simp only [List.map_cons, List.map_nil, List.cons.injEq, Prod.mk.injEq, and_true] at hf
  obtain ⟨⟨t0, o0, n0⟩, ⟨t1, o1, n1⟩⟩ := hf
  have m0 := beq_eq_false_iff_ne.1 n0
  have m1 := beq_eq_false_iff_ne.1 n1
  simp [Op.eqFields, trEq, go_sem, t0, t1, o0, o1, m0, m1, Tryz.underlying3]
  by_cases h0 : p0 = q0 <;> by_cases h1 : p1 = q1 <;> simp [h0, h1]
theorem tr_neq (p0 p1 q0 q1 : Int) (w : World) :
    (binOp .neq 100 (.agg #[.int .i64 p0, .int .i64 p1]) (.agg #[.int .i64 q0, .int .i64 q1])).run Tryz.prog w = .ok (.bool (!(trEq p0 p1 q0 q1))) w := by
  rw [run_neq_struct, tr_equalIn]; rfl
theorem tr_eql (p0 p1 q0 q1 : Int) (w : World) :
    (binOp .eql 100 (.agg #[.int .i64 p0, .int .i64 p1]) (.agg #[.int .i64 q0, .int .i64 q1])).run Tryz.prog w = .ok (.bool (trEq p0 p1 q0 q1)) w := by
  rw [run_eql_struct, tr_equalIn]; rfl
end Go.Proofs.YtjnkbifafbjckaaGreatDoor

/- One block alone may turn. -/
namespace Go.Proofs.YtjnkbifafbjckaaGreatDoor
set_option linter.all false
open Go.RowKit

/-- Of the blocks that were there only one may have turned. -/
structure Onl (g : Nat) (w wr : World) : Prop where
  below : Below g w wr
  block : ∀ k, k ≠ g → k < w.heap.size → wr.heap[k]? = w.heap[k]?
theorem Onl.refl (g : Nat) (w : World) : Onl g w w := ⟨Below.refl _ _, fun _ _ _ => rfl⟩
theorem Onl.trans {g : Nat} {a b c : World} (h : Onl g a b) (k : Onl g b c) : Onl g a c := ⟨h.below.trans k.below, fun i hi hl => (k.block i hi (Nat.lt_of_lt_of_le hl h.below.size)).trans (h.block i hi hl)⟩
theorem Onl.setCell {g : Nat} {a b : World} (h : Onl g a b) (i : Nat) (u : Value) : Onl g a (b.setCell ⟨g, i, none⟩ u) :=
  ⟨h.below.setCell (Nat.le_refl _) u, fun k hk hl => (Below.heap_setCell _ _ _ _ hk).trans (h.block k hk hl)⟩
theorem Onl.drew {g : Nat} {a b : World} (h : Onl g a b) (n : Nat) : Onl g a (b.drewN n) := ⟨below_drewN' h.below n, h.block⟩
theorem Onl.up {g B : Nat} {a b : World} (h : Onl g a b) (hB : B ≤ g) : Below B a b := h.below.mono hB
end Go.Proofs.YtjnkbifafbjckaaGreatDoor
