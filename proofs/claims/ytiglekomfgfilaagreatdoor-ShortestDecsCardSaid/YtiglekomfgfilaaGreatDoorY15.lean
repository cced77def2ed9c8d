/- exact.of: a natural times a power of two as a decimal. -/
import Derived.Test.YtiglekomfgfilaaGreatDoorY9
import Derived.Test.YtiglekomfgfilaaGreatDoorY11
import Derived.Test.YtiglekomfgfilaaGreatDoorY6
import Derived.Test.YtiglekomfgfilaaGreatDoorY14
import Derived.Test.YtiglekomfgfilaaGreatDoorY1
import Derived.Laws.AppendOwn
import Derived.Laws.OwnMore
import Derived.Laws.AppendOwnNone
namespace Go.Proofs.YtiglekomfgfilaaGreatDoor
set_option maxRecDepth 100000
set_option maxHeartbeats 4000000
set_option linter.all false
open Go.RowKit
attribute [local go_sem] Fl.dv
def Z3 (W : World) (b : Nat) : Prop := W.cell? ⟨b, 0, none⟩ = some (.bool false) ∧ W.cell? ⟨b, 1, none⟩ = some (.string ⟨#[]⟩) ∧ W.cell? ⟨b, 2, none⟩ = some (.int .i64 0) ∧ (∀ o, W.frozen? ⟨b, o, none⟩ = false) ∧ b < W.heap.size
theorem Z3.new (w : World) : Z3 (w.alloc (Obj.cells #[Value.bool false, Value.string ⟨#[]⟩, Value.int IntKind.i64 0] 27)) w.heap.size :=
  ⟨by simp [go_sem], by simp [go_sem], by simp [go_sem], fun o => by
    unfold World.frozen?; simp only []
    rw [show (w.alloc (Obj.cells #[Value.bool false, Value.string ⟨#[]⟩, Value.int IntKind.i64 0] 27)).heap[w.heap.size]? = some _ from heap_alloc_new w _]
    simp, by simp⟩
theorem Z3.on {W W' : World} {b : Nat} (h : Z3 W b) (hb : Below W.heap.size W W') : Z3 W' b := by
  obtain ⟨h0, h1, h2, hf, hl⟩ := h
  exact ⟨(hb.cell (p := ⟨b, 0, none⟩) hl).trans h0, (hb.cell (p := ⟨b, 1, none⟩) hl).trans h1, (hb.cell (p := ⟨b, 2, none⟩) hl).trans h2, fun o => (hb.frozen (p := ⟨b, o, none⟩) hl).trans (hf o), Nat.lt_of_lt_of_le hl hb.size⟩
theorem Z3.alloc {W : World} {b : Nat} (h : Z3 W b) (o : Obj) : Z3 (W.alloc o) b := h.on ((Below.refl _ _).alloc (Nat.le_refl _) o)
theorem Z3.step {W W1 W' : World} {b : Nat} (h : Z3 W b) (hb : Below W1.heap.size W1 W') (hW : Below W.heap.size W W1 := by first | exact Below.alloc (Below.refl _ _) (Nat.le_refl _) _ | (repeat (first | exact Below.refl _ _ | refine Below.setCell ?_ (by first | exact Nat.le_refl _ | (simp <;> omega)) _ | refine Below.alloc ?_ (by first | exact Nat.le_refl _ | (simp <;> omega)) _ | refine Below.drew ?_))) : Z3 W' b := (h.on hW).on hb
theorem Fl.len2 {n : Nat} (hn : n < Na.B ^ 2) : (Na.limbs n).length ≤ 2 := Na.limbs_len_le _ _ hn
theorem Fl.small2 {n : Nat} (hn : n < Na.B ^ 2) : Na.big (Na.limbs n) = false := by
  have := Fl.len2 hn
  rw [Na.big, Na.rt_limbs]; exact decide_eq_false (by omega)
theorem Fl.shl_eq (n k : Nat) (hn : n < Na.B ^ 2) (hk : k ≤ 1200) : Na.shl (Na.limbs n) (k : Int) = (Na.limbs (n * 2 ^ k), 0) := by
  rw [Na.shl, if_neg (by omega), Fl.small2 hn, if_neg (by simp), Na.val_limbs]
  by_cases h0 : n = 0
  · rw [if_pos h0, h0, Nat.zero_mul, Na.limbs_zero]
  · rw [if_neg h0, if_neg, Int.toNat_natCast]
    have := Na.bitLen_le' (n := n) (k := 64) hn
    omega
theorem Fl.shr_one (n : Nat) (hn : n < Na.B ^ 2) : Na.shr (Na.limbs n) 1 = (Na.limbs (n / 2), decide (n % 2 ≠ 0), 0) := by
  rw [Na.shr, if_neg (by omega), Fl.small2 hn, if_neg (by simp), Na.val_limbs]; rfl
theorem Fl.pow_five (k : Nat) (hk : k ≤ 1200) : Na.pow 5 (k : Int) = (Na.limbs (5 ^ k), 0) := by
  have h := Na.limbs_len_le _ _ (Nat.lt_of_le_of_lt (Fl.pow_le_B 5 k (by decide) hk) (show Na.B ^ 120 < Na.B ^ 121 from Nat.pow_lt_pow_right (by decide) (by decide)))
  rw [Na.pow, if_neg (by omega), if_neg (by omega), Int.toNat_natCast, Na.fits, if_neg (by show ¬ 256 < (Na.limbs (5 ^ k)).length; omega)]; rfl
theorem Fl.mul_five (m k : Nat) (hm : m < Na.B ^ 2) (hk : k ≤ 1200) : Na.mul (Na.limbs m) (Na.limbs (5 ^ k)) = (Na.limbs (m * 5 ^ k), 0) := by
  have h := Na.limbs_len_le _ _ (Nat.lt_of_le_of_lt (Fl.pow_le_B 5 k (by decide) hk) (show Na.B ^ 120 < Na.B ^ 121 from Nat.pow_lt_pow_right (by decide) (by decide)))
  have h2 := Fl.len_mul_pow m 5 k hm (by decide) hk
  have hb : Na.big (Na.limbs (5 ^ k)) = false := by rw [Na.big, Na.rt_limbs]; exact decide_eq_false (by omega)
  rw [Na.mul, Fl.small2 hm, hb, if_neg (by simp), Na.val_limbs, Na.val_limbs, Na.fits, if_neg (by omega)]
theorem Fl.make_any (s : Bool) (v : Nat) (x : Int) (w : World) (hv : (Na.limbs v).length ≤ 1000) (hx : -9223372036854775808 ≤ x ∧ x ≤ 9223372036854775807) :
    Calls Tryz.prog 94 #[.bool s, .string ⟨(Lib.decDigits v).toArray⟩, .int .i64 x] w (RetB (.tuple #[Fl.dv (Dc.mk s (Lib.decDigits v) x), .int .i64 (Dc.mk s (Lib.decDigits v) x).e]) w) := by
  have h1 := dec_len_le (Na.limbs v) (Na.ok_limbs v)
  rw [Na.val_limbs] at h1
  exact d_make_any s ⟨(Lib.decDigits v).toArray⟩ x w (by rw [size_mk]; omega) hx
theorem Fl.digits_any (a : Option Addr) (c v : Nat) (w w0 : World) (hs : Sl w a c (Na.limbs v)) (hv : (Na.limbs v).length ≤ 1000) (ht : Tab w0) (hb : Below w0.heap.size w0 w) :
    Calls Tryz.prog 95 #[.slice a (Na.limbs v).length c] w (RetB (.string ⟨(Lib.decDigits v).toArray⟩) w) := by
  have := na_digits_any a c (Na.limbs v) w hs (by omega) (ht.below hb)
  rwa [Na.val_limbs] at this
theorem ex_of_up (s : Bool) (a : Option Addr) (c n k : Nat) (w : World) (h : Sl w a c (Na.limbs n)) (hn : n < Na.B ^ 2) (hk : k ≤ 1100) (ht : Tab w) :
    Calls Tryz.prog 64 #[.bool s, .slice a (Na.limbs n).length c, .int .i64 k] w (RetB (Fl.dv (Fl.of s n k)) w) := by
  have hof : Fl.of s n k = Dc.mk s (Lib.decDigits (n * 2 ^ k)) 0 := by rw [Fl.of, if_pos (by omega), Int.toNat_natCast]
  have hln := Fl.len2 hn
  have hl := Fl.len_mul_pow n 2 k hn (by decide) (by omega)
  have hsh := fun wr (hb : Below w.heap.size w wr) => na_shl_any a c (Na.limbs n) k wr (h.on hb) (by omega) (by omega)
  rw [Fl.shl_eq n k hn (by omega)] at hsh
  rw [hof]
  obtain ⟨v, hv⟩ : ∃ v, v = n * 2 ^ k := ⟨_, rfl⟩
  rw [← hv] at hsh hl ⊢
  have HD := Lib.hid (fun w1 a1 c1 (hs : Sl w1 a1 c1 (Na.limbs v)) (hb : Below w.heap.size w w1) => Fl.digits_any a1 c1 v w1 w hs (by omega) ht hb)
  have HM := Lib.hid (fun w1 => Fl.make_any s v 0 w1 (by omega) (by omega))
  have HS := Lib.hid hsh
  obtain ⟨S, hS⟩ : ∃ S : ByteArray, S = ⟨(Lib.decDigits v).toArray⟩ := ⟨_, rfl⟩
  obtain ⟨R, hR⟩ : ∃ R, R = Dc.mk s (Lib.decDigits v) 0 := ⟨_, rfl⟩
  rw [← hS] at HD HM
  rw [← hR] at HM ⊢
  clear hv hof hS hR hsh
  go_enter Tryz.func64, Tryz.ntmps64
  go_wp2_with (first
    | (go_at_call 90; (with_reducible refine (HS.out _ ?_).mono ?_); exact (Below.refl _ _).alloc (Nat.le_refl _) _; rintro e w1 ⟨a1, c1, rfl, s1, -, hb1⟩; have zz1 := (Z3.new w).on hb1; have hB1 : Below w.heap.size w w1 := Below.trans ((Below.refl _ _).alloc (Nat.le_refl _) _) (hb1.mono (by simp)))
    | (go_at_call 95; (with_reducible refine (HD.out _ _ _ s1 hB1).mono ?_); rintro e w2 ⟨rfl, hb2⟩; have zz2 := zz1.on hb2; have hB2 := hB1.trans (hb2.mono hB1.size))
    | (go_at_call 94; (with_reducible refine (HM.out _).mono ?_); rintro e w3 ⟨rfl, hb3⟩; have hB3 := hB2.trans (hb3.mono hB2.size); have zz3 := zz2.on hb3; obtain ⟨y0, y1, y2, yf, yl⟩ := zz3; have yf0 := yf 0; have yf1 := yf 1; have yf2 := yf 2; have yn : ¬ w.heap.size = w3.heap.size := (by omega); have yn' : ¬ w3.heap.size = w.heap.size := (by omega)))
  refine bodyPost_ret (v := Fl.dv R) (by simp [results, Tryz.results64, go_sem, y0, y1, y2, yf0, yf1, yf2, yn, yn', yl]; done) rfl (RetB.of rfl (by (repeat (first | exact Below.refl _ _ | assumption | refine Below.setCell ?_ (by first | omega | (simp <;> omega)) _ | refine Below.alloc ?_ (by first | omega | (simp <;> omega)) _ | refine Below.drew ?_ | refine below_drewN' ?_ _))))
def halfLoop (n k : Nat) (w : World) (nv ev : Value) (wr : World) : Prop := ∃ (m j : Nat) (z : Int) (a : Option Addr) (c : Nat), nv = .slice a (Na.limbs m).length c ∧ ev = .int .i64 z ∧ Hid (z = -(j : Int)) ∧ j ≤ k ∧ m < Na.B ^ 2 ∧ Hid (Fl.halve k n = Fl.halve j m) ∧ Hid (Sl wr a c (Na.limbs m)) ∧ Hid (Z3 wr w.heap.size) ∧ Hid (Below w.heap.size w wr)
theorem Na.limbs_head {m : Nat} (h : m ≠ 0) : ∃ h0 : 0 < (Na.limbs m).length, (Na.limbs m)[0] = m % 4294967296 := by
  have e : Na.limbs m = (m % Na.B) :: Na.limbs (m / Na.B) := by rw [Na.limbs, dif_neg h]
  have h0 : 0 < (Na.limbs m).length := by rw [e]; simp
  refine ⟨h0, ?_⟩
  simp only [e, List.getElem_cons_zero]
  first | done | rfl
theorem Fl.and_low (x : Nat) (hx : x < 4294967296) : Go.bits BinOp.and IntKind.u32 (x : Int) 1 = ((x % 2 : Nat) : Int) := by
  have := Na.and_mask x 1 hx (by decide)
  rw [show (2 ^ 1 - 1 : Nat) = 1 from rfl] at this
  exact this
theorem ex_of_down (s : Bool) (a : Option Addr) (c n k : Nat) (w : World) (h : Sl w a c (Na.limbs n)) (hn : n < Na.B ^ 2) (hk0 : 0 < k) (hk : k ≤ 1100) (ht : Tab w) :
    Calls Tryz.prog 64 #[.bool s, .slice a (Na.limbs n).length c, .int .i64 (-(k : Int))] w (RetB (Fl.dv (Fl.of s n (-(k : Int)))) w) := by
  have HOF := Lib.hid (show Fl.of s n (-(k : Int)) = Dc.mk s (Lib.decDigits ((Fl.halve k n).1 * 5 ^ (Fl.halve k n).2)) (-((Fl.halve k n).2 : Int)) by
    rw [Fl.of, if_neg (by omega), Int.neg_neg, Int.toNat_natCast])
  have H := Lib.hid h
  have HT := Lib.hid ht
  have hln := Fl.len2 hn
  obtain ⟨z0, hz0⟩ : ∃ z : Int, z = -(k : Int) := ⟨_, rfl⟩
  have hneg : ¬ 0 ≤ z0 := by omega
  have HZ0 := Lib.hid hz0
  rw [← hz0]; rw [← hz0] at HOF
  clear h ht hz0
  go_enter Tryz.func64, Tryz.ntmps64
  go_wp2_with fail
  go_loopw [1, 2] (halfLoop n k w) (fun _ e _ => (-(intOf e)).toNat)
  case atStart => exact ⟨n, k, z0, a, c, rfl, rfl, HZ0, Nat.le_refl _, hn, Lib.hid rfl, Lib.hid (H.out.on ((Below.refl _ _).alloc (Nat.le_refl _) _)), Lib.hid (Z3.new w), Lib.hid ((Below.refl _ _).alloc (Nat.le_refl _) _)⟩
  case round =>
    clear H hln HZ0
    obtain ⟨m, j, z, a, c, rfl, rfl, HZ, hj, hm, HH, HSl, HZR, HBe⟩ := hrel
    have hml := Fl.len2 hm
    have hz := HZ.out
    by_cases hgo : 0 < j ∧ m ≠ 0 ∧ m % 2 = 0
    · obtain ⟨h1, h2, h3⟩ := hgo
      obtain ⟨j, rfl⟩ : ∃ t, j = t + 1 := ⟨j - 1, by omega⟩
      obtain ⟨hp, hhead⟩ := Na.limbs_head h2
      obtain ⟨b, o, rfl, hb, hc⟩ := HSl.out.plain hp
      have c0 := hc 0 hp
      rw [hhead, Nat.add_zero] at c0
      have hand := Fl.and_low (m % 4294967296) (Nat.mod_lt _ (by decide))
      rw [show m % 4294967296 % 2 = 0 by omega] at hand
      obtain ⟨x, hx⟩ : ∃ x, x = m % 4294967296 := ⟨_, rfl⟩
      rw [← hx] at c0 hand
      have hxl : x < 4294967296 := by rw [hx]; exact Nat.mod_lt _ (by decide)
      have hzn : z < 0 := by omega
      have hz1 : z + 1 ≤ 0 := by omega
      have hz2 : -1200 ≤ z := by omega
      have hsh := na_shr_any (some ⟨b, o, none⟩) c (Na.limbs m) 1 wr HSl.out (by omega) (by omega)
      rw [Fl.shr_one m hm] at hsh
      have HSH := Lib.hid hsh
      have HH2 := Lib.hid (HH.out.trans (Fl.halve_yes h2 h3))
      have HZZ := Lib.hid (show z + 1 = -(j : Int) by omega)
      clear hsh hc hx hhead h2 h3 hz h1
      go_wp2_with (first | (go_at_call 91; (with_reducible refine (HSH.out).mono ?_); rintro e w1 ⟨a1, c1, rfl, s1, -, hb1⟩; have hB1 := HBe.out.trans (hb1.mono HBe.out.size)))
      go_roundw
      case rel => exact ⟨m / 2, j, z + 1, a1, c1, rfl, rfl, HZZ, by omega, by omega, HH2, Lib.hid s1, Lib.hid (HZR.out.on hb1), Lib.hid hB1⟩
      case measure => simp [intOf]; omega
    · have hend : Fl.halve k n = (m, j) := by
        rw [HH.out]
        cases j with
        | zero => rfl
        | succ j => exact Fl.halve_no (by omega)
      have hsp := HOF.out
      rw [hend] at hsp
      have hz3 : -1200 ≤ z ∧ z ≤ 0 := by omega
      obtain ⟨hz3, hz4⟩ := hz3
      have hzj : -z = (j : Int) := by omega
      obtain ⟨v, hv⟩ : ∃ v, v = m * 5 ^ j := ⟨_, rfl⟩
      have hl := Fl.len_mul_pow m 5 j hm (by decide) (by omega)
      have hfl := Na.limbs_len_le _ _ (Nat.lt_of_le_of_lt (Fl.pow_le_B 5 j (by decide) (by omega)) (show Na.B ^ 120 < Na.B ^ 121 from Nat.pow_lt_pow_right (by decide) (by decide)))
      have HP := Lib.hid (fun w1 => (by
        have := na_pow_any 5 (j : Int) w1 (by omega) (by omega)
        rw [Fl.pow_five j (by omega)] at this
        exact this : Calls Tryz.prog 92 #[.int .i64 5, .int .i64 (j : Int)] w1 (GivesE (Na.limbs (5 ^ j), 0) w1)))
      have HM := Lib.hid (fun w1 a1 c1 (hs : Sl w1 a c (Na.limbs m)) (hs1 : Sl w1 a1 c1 (Na.limbs (5 ^ j))) => (by
        have := na_mul_any a c (Na.limbs m) a1 c1 (Na.limbs (5 ^ j)) w1 hs hs1 (by omega) (by omega)
        rw [Fl.mul_five m j hm (by omega), ← hv] at this
        exact this : Calls Tryz.prog 93 #[.slice a (Na.limbs m).length c, .slice a1 (Na.limbs (5 ^ j)).length c1] w1 (GivesE (Na.limbs v, 0) w1)))
      rw [← hv] at hl hsp
      have hzz : -(j : Int) = z := by omega
      have HD := Lib.hid (fun w1 a1 c1 (hs : Sl w1 a1 c1 (Na.limbs v)) (hb : Below w.heap.size w w1) => Fl.digits_any a1 c1 v w1 w hs (by omega) HT.out hb)
      have HMK := Lib.hid (fun w1 => Fl.make_any s v z w1 (by omega) (by omega))
      obtain ⟨S, hS⟩ : ∃ S : ByteArray, S = ⟨(Lib.decDigits v).toArray⟩ := ⟨_, rfl⟩
      obtain ⟨R, hR⟩ : ∃ R, R = Dc.mk s (Lib.decDigits v) z := ⟨_, rfl⟩
      rw [← hS] at HD HMK
      rw [← hR] at HMK
      have HR := Lib.hid (show Fl.of s n z0 = R by rw [hsp, hR]; show Dc.mk _ _ (-(j : Int)) = _; rw [hzz])
      have hcase : z = 0 ∨ (z < 0 ∧ m = 0) ∨ (z < 0 ∧ m ≠ 0 ∧ m % 2 = 1) := by omega
      clear hv hS hR hsp hend hz HZ HH HOF hzz hgo hfl
      rcases hcase with hz0 | ⟨hzn, hm0⟩ | ⟨hzn, hm0, hm1⟩
      · have hznn : ¬ z < 0 := by omega
        clear hz0
        go_wp2_with (first
          | (go_at_call 92; (with_reducible refine (HP.out _).mono ?_); rintro e w1 ⟨a1, c1, rfl, s1, -, hb1⟩; have hB1 := HBe.out.trans (hb1.mono HBe.out.size))
          | (go_at_call 93; (with_reducible refine (HM.out _ _ _ (HSl.out.on hb1) s1).mono ?_); rintro e w2 ⟨a2, c2, rfl, s2, -, hb2⟩; have hB2 := hB1.trans (hb2.mono hB1.size))
          | (go_at_call 95; (with_reducible refine (HD.out _ _ _ s2 hB2).mono ?_); rintro e w3 ⟨rfl, hb3⟩; have hB3 := hB2.trans (hb3.mono hB2.size))
          | (go_at_call 94; (with_reducible refine (HMK.out _).mono ?_); rintro e w4 ⟨rfl, hb4⟩; have hB4 := hB3.trans (hb4.mono hB3.size); have zz4 := (((HZR.out.on hb1).on hb2).on hb3).on hb4; obtain ⟨y0, y1, y2, yf, yl⟩ := zz4; have yf0 := yf 0; have yf1 := yf 1; have yf2 := yf 2; have yn : ¬ w.heap.size = w4.heap.size := (by omega); have yn' : ¬ w4.heap.size = w.heap.size := (by omega)))
        refine bodyPost_ret (v := Fl.dv R) (by simp [results, Tryz.results64, go_sem, y0, y1, y2, yf0, yf1, yf2, yn, yn', yl]; done) rfl (RetB.of (by rw [HR.out]) (by (repeat (first | exact Below.refl _ _ | assumption | refine Below.setCell ?_ (by first | omega | (simp <;> omega)) _ | refine Below.alloc ?_ (by first | omega | (simp <;> omega)) _ | refine Below.drew ?_ | refine below_drewN' ?_ _))))
      · have hl0 : (Na.limbs m).length = 0 := by rw [hm0, Na.limbs_zero]; rfl
        rw [hl0] at HM
        clear hm0
        go_wp2_with (first
          | (go_at_call 92; (with_reducible refine (HP.out _).mono ?_); rintro e w1 ⟨a1, c1, rfl, s1, -, hb1⟩; have hB1 := HBe.out.trans (hb1.mono HBe.out.size))
          | (go_at_call 93; (with_reducible refine (HM.out _ _ _ (HSl.out.on hb1) s1).mono ?_); rintro e w2 ⟨a2, c2, rfl, s2, -, hb2⟩; have hB2 := hB1.trans (hb2.mono hB1.size))
          | (go_at_call 95; (with_reducible refine (HD.out _ _ _ s2 hB2).mono ?_); rintro e w3 ⟨rfl, hb3⟩; have hB3 := hB2.trans (hb3.mono hB2.size))
          | (go_at_call 94; (with_reducible refine (HMK.out _).mono ?_); rintro e w4 ⟨rfl, hb4⟩; have hB4 := hB3.trans (hb4.mono hB3.size); have zz4 := (((HZR.out.on hb1).on hb2).on hb3).on hb4; obtain ⟨y0, y1, y2, yf, yl⟩ := zz4; have yf0 := yf 0; have yf1 := yf 1; have yf2 := yf 2; have yn : ¬ w.heap.size = w4.heap.size := (by omega); have yn' : ¬ w4.heap.size = w.heap.size := (by omega)))
        refine bodyPost_ret (v := Fl.dv R) (by simp [results, Tryz.results64, go_sem, y0, y1, y2, yf0, yf1, yf2, yn, yn', yl]; done) rfl (RetB.of (by rw [HR.out]) (by (repeat (first | exact Below.refl _ _ | assumption | refine Below.setCell ?_ (by first | omega | (simp <;> omega)) _ | refine Below.alloc ?_ (by first | omega | (simp <;> omega)) _ | refine Below.drew ?_ | refine below_drewN' ?_ _))))
      · obtain ⟨hp, hhead⟩ := Na.limbs_head hm0
        obtain ⟨b, o, rfl, hb, hc⟩ := HSl.out.plain hp
        have c0 := hc 0 hp
        rw [hhead, Nat.add_zero] at c0
        have hand := Fl.and_low (m % 4294967296) (Nat.mod_lt _ (by decide))
        rw [show m % 4294967296 % 2 = 1 by omega] at hand
        obtain ⟨x, hx⟩ : ∃ x, x = m % 4294967296 := ⟨_, rfl⟩
        rw [← hx] at c0 hand
        have hxl : x < 4294967296 := by rw [hx]; exact Nat.mod_lt _ (by decide)
        clear hc hx hhead hm0 hm1
        go_wp2_with (first
          | (go_at_call 92; (with_reducible refine (HP.out _).mono ?_); rintro e w1 ⟨a1, c1, rfl, s1, -, hb1⟩; have hB1 := HBe.out.trans (hb1.mono HBe.out.size))
          | (go_at_call 93; (with_reducible refine (HM.out _ _ _ (HSl.out.on hb1) s1).mono ?_); rintro e w2 ⟨a2, c2, rfl, s2, -, hb2⟩; have hB2 := hB1.trans (hb2.mono hB1.size))
          | (go_at_call 95; (with_reducible refine (HD.out _ _ _ s2 hB2).mono ?_); rintro e w3 ⟨rfl, hb3⟩; have hB3 := hB2.trans (hb3.mono hB2.size))
          | (go_at_call 94; (with_reducible refine (HMK.out _).mono ?_); rintro e w4 ⟨rfl, hb4⟩; have hB4 := hB3.trans (hb4.mono hB3.size); have zz4 := (((HZR.out.on hb1).on hb2).on hb3).on hb4; obtain ⟨y0, y1, y2, yf, yl⟩ := zz4; have yf0 := yf 0; have yf1 := yf 1; have yf2 := yf 2; have yn : ¬ w.heap.size = w4.heap.size := (by omega); have yn' : ¬ w4.heap.size = w.heap.size := (by omega)))
        refine bodyPost_ret (v := Fl.dv R) (by simp [results, Tryz.results64, go_sem, y0, y1, y2, yf0, yf1, yf2, yn, yn', yl]; done) rfl (RetB.of (by rw [HR.out]) (by (repeat (first | exact Below.refl _ _ | assumption | refine Below.setCell ?_ (by first | omega | (simp <;> omega)) _ | refine Below.alloc ?_ (by first | omega | (simp <;> omega)) _ | refine Below.drew ?_ | refine below_drewN' ?_ _))))
theorem ex_of_any (s : Bool) (a : Option Addr) (c n : Nat) (e : Int) (w : World) (h : Sl w a c (Na.limbs n)) (hn : n < Na.B ^ 2) (he : -1100 ≤ e ∧ e ≤ 1100) (ht : Tab w) :
    Calls Tryz.prog 64 #[.bool s, .slice a (Na.limbs n).length c, .int .i64 e] w (RetB (Fl.dv (Fl.of s n e)) w) := by
  by_cases h0 : 0 ≤ e
  · obtain ⟨k, rfl⟩ : ∃ k : Nat, e = k := ⟨e.toNat, by omega⟩
    exact ex_of_up s a c n k w h hn (by omega) ht
  · obtain ⟨k, rfl⟩ : ∃ k : Nat, e = -(k : Int) := ⟨(-e).toNat, by omega⟩
    exact ex_of_down s a c n k w h hn (by omega) (by omega) ht
end Go.Proofs.YtiglekomfgfilaaGreatDoor

/- append of limbs to a list of the call's own. -/
namespace Go.Proofs.YtiglekomfgfilaaGreatDoor
set_option linter.all false
open Go.RowKit
def Row (w : World) (B : Nat) (v : Value) (l : List Nat) : Prop := w.ownsRow B 81 1 v l.length (u32s l)
theorem Row.sl {w : World} {B : Nat} {v : Value} {l : List Nat} (h : Row w B v l) (hok : Na.OK l) : ∃ a c, v = .slice a l.length c ∧ Sl w a c l ∧ Own w B a l.length := by
  have h0 := h
  rcases h.2 with ⟨rfl, hn⟩ | ⟨g, cap, cur, rfl, hb, hg, h1, h2, h3, h4⟩
  · obtain rfl : l = [] := List.eq_nil_of_length_eq_zero hn
    exact ⟨none, 0, rfl, Sl.nil _ _ _, Own.nil _ _ _⟩
  · refine ⟨some ⟨g, 0, none⟩, cap, rfl, ⟨fun _ => ⟨g, 0, rfl, (Array.getElem?_eq_some_iff.1 hg).1, fun k hk => ?_⟩, h1, hok⟩, fun _ => ⟨g, 0, rfl, hb, fun k _ => ?_⟩⟩
    · have := World.ownsRow.cellAt h0 k (by omega)
      rw [Nat.zero_add, this, u32s_get l k hk]
    · rw [Nat.zero_add]; exact World.ownsRow.frozenAt h0 k
theorem Row.empty (w : World) {B : Nat} (hB : B ≤ w.heap.size) : Row (w.alloc (.cells #[] 81)) B (.slice (some ⟨w.heap.size, 0, none⟩) 0 0) [] :=
  World.ownsRow_lit w #[] 0 hB (Nat.zero_le _) rfl
theorem Row.nil (w : World) (B : Nat) : Row w B (.slice none 0 0) [] := World.ownsRow_nil _ _ _ _
theorem Row.lt {w : World} {B : Nat} {v : Value} {l : List Nat} (h : Row w B v l) : ∀ k, v.ownBlock = some k → B ≤ k ∧ k < w.heap.size := World.ownsRow.lt h
theorem Row.mono {w : World} {B B' : Nat} {v : Value} {l : List Nat} (h : Row w B v l) (hB : B' ≤ B) : Row w B' v l := by
  refine ⟨h.1, h.2.imp id ?_⟩
  rintro ⟨g, cap, cur, h1, h2, h3⟩
  exact ⟨g, cap, cur, h1, by omega, h3⟩
theorem Row.alloc {w : World} {B : Nat} {v : Value} {l : List Nat} (h : Row w B v l) (o : Obj) : Row (w.alloc o) B v l := World.ownsRow.alloc h o
theorem app_u32 {w : World} {ops : Array Oper} {rest : List Oper} {o : Oper} {act : Act} {Q : Exit → Act → World → Prop} (hgd : o.guard = none) (s x : Operand) (t : TypeId) (ht : Tryz.prog.underlying t = some (.slice 81))
    (hop : o.op = .call { callee := .builtin .append, args := #[s, x], argTypes := #[t, t] }) (B : Nat) (v : Value) (l : List Nat) (hs : act.eval s = v) (hown : Row w B v l) (ad : Option Addr) (n c : Nat) (m : List Nat) (hx : act.eval x = .slice ad n c) (hn : m.length = n) (hm : Sl w ad c m)
    (hnil : ad = none → c = 0) (hlen : l.length + m.length ≤ 1000000) (hB : B ≤ w.heap.size)
    (hK : ∀ v' w', Hid (Row w' B v' (l ++ m)) → Hid (∀ B' w0, Below B' w0 w → B' ≤ B → Below B' w0 w') → wpList Tryz.prog ops Q rest (act.put o.dst v') w') : wpList Tryz.prog ops Q (o :: rest) act w := by
  subst hn
  obtain ⟨ti, hi, hz0, hz1, hz2⟩ := info_parts infoU32
  cases ad with
  | none =>
    have hm0 : m = [] := by
      rcases Nat.eq_zero_or_pos m.length with h | h
      · exact List.eq_nil_of_length_eq_zero h
      · obtain ⟨_, _, e, _⟩ := hm.plain h; cases e
    subst hm0
    obtain rfl := hnil rfl
    exact wpList_append_own_none hgd s x t hop B 81 ti 1 ht hi v l.length (u32s l) hs hown hx (hK v w (Lib.hid (by rw [List.append_nil]; exact hown)) (Lib.hid fun B' w0 hb _ => hb))
  | some a =>
    refine wpList_append_own w hgd s x t hop B 81 ti (.int .u32 0) 1 4 ht hi hz0 hz1 hz2 rfl (by decide) v l.length (u32s l) hs hown a m.length c (u32s m) hx (by rw [u32s_len]; omega) ?_ (u32s_one _) (by unfold maxLen; omega) (by omega) hB ?_
    · intro j u hu
      have hj : j < m.length := by have := (List.getElem?_eq_some_iff.1 hu).1; rwa [u32s_len] at this
      obtain ⟨ad', e, hc⟩ := hm.cells (by omega)
      cases e
      exact hc j u hu
    · intro v' w' h1 h2 _
      refine hK v' w' (Lib.hid ?_) (Lib.hid fun B' w0 hb hB' => hb.grown h2 (by omega) (fun k e => by have := (hown.lt k e).1; omega))
      show w'.ownsRow _ _ _ _ (l ++ m).length _
      rw [List.length_append, u32s, List.map_append]; exact h1
end Go.Proofs.YtiglekomfgfilaaGreatDoor

/- The reference: Trim, Of. -/
namespace Go.Proofs.YtiglekomfgfilaaGreatDoor
set_option maxRecDepth 100000
set_option maxHeartbeats 1000000
set_option linter.all false
open Go.RowKit
def GivesW (l : List Nat) (w : World) (e : Ending) (w' : World) : Prop := ∃ v, e = .returned v ∧ Row w' w.heap.size v l ∧ Below w.heap.size w w'
theorem Row.slz {w : World} {B : Nat} {v : Value} {l : List Nat} (h : Row w B v l) (hok : Na.OK l) : ∃ a c, v = .slice a l.length c ∧ Sl w a c l ∧ (a = none → c = 0) := by
  have h0 := h
  rcases h.2 with ⟨rfl, hn⟩ | ⟨g, cap, cur, rfl, hb, hg, h1, h2, h3, h4⟩
  · obtain rfl : l = [] := List.eq_nil_of_length_eq_zero hn
    exact ⟨none, 0, rfl, Sl.nil _ _ _, fun _ => rfl⟩
  · obtain ⟨a, c, e, hs, _⟩ := h0.sl hok
    exact ⟨a, c, e, hs, fun e2 => by rw [e2] at e; simp at e⟩
def GivesZ (l : List Nat) (w : World) (e : Ending) (w' : World) : Prop := ∃ a c, e = .returned (.slice a l.length c) ∧ Sl w' a c l ∧ (a = none → c = 0) ∧ Row w' w.heap.size (.slice a l.length c) l ∧ Below w.heap.size w w'
theorem GivesW.z {l : List Nat} {w w' : World} {e : Ending} (h : GivesW l w e w') (hok : Na.OK l) : GivesZ l w e w' := by
  obtain ⟨v, rfl, hr, hb⟩ := h
  obtain ⟨a, c, rfl, hs, hz⟩ := hr.slz hok
  exact ⟨a, c, rfl, hs, hz, hr, hb⟩
theorem r1_trim_any (a : Option Addr) (c : Nat) (l : List Nat) (w : World) (h : Sl w a c l) (hz : a = none → c = 0) (hn : l.length ≤ 1000000) :
    Calls Tryz.prog 83 #[.slice a l.length c] w (GivesZ (Na.cut l) w) := by
  have HZN := Lib.hid hz
  have hcap := h.cap
  have HFIN := Lib.hid (fun v w' (hr : Row w' w.heap.size v (Na.cut l)) (hb : Below w.heap.size w w') => (GivesW.z ⟨v, rfl, hr, hb⟩ (Na.ok_cut l) : GivesZ (Na.cut l) w (.returned v) w'))
  clear hz
  go_enter Tryz.func83, Tryz.ntmps83
  go_wp2_with fail
  go_loop [3] (fun i => ∃ k : Nat, k ≤ l.length ∧ i = .int .i64 k ∧ ∀ j (hj : j < l.length), k ≤ j → l[j] = 0) (fun i => (intOf i).toNat)
  case atStart => exact ⟨l.length, Nat.le_refl _, rfl, fun j hj hk => by omega⟩
  case round =>
    obtain ⟨k, hk, rfl, hz⟩ := hrel
    have HZ := Lib.hid hz; clear hz
    cases k with
    | zero =>
      have HR := Lib.hid (Na.rt_of h.ok (k := 0) hk HZ.out (fun h0 => absurd h0 (by omega))).2
      go_wp2_with (first | (at_builtin; refine app_u32 rfl _ _ 64 Tryz.underlying64 rfl w.heap.size _ [] rfl (Row.empty w (Nat.le_refl _)) a 0 c (l.take 0) rfl (by simp) ((h.take 0).on ((Below.refl _ _).alloc (Nat.le_refl _) _)) HZN.out (by simp) (by simp) ?_; intro v2 w2 hr2 hg2))
      go_ret
      exact HFIN.out _ _ (by rw [HR.out]; exact hr2.out) (hg2.out _ _ ((Below.refl _ _).alloc (Nat.le_refl _) _) (Nat.le_refl _))
    | succ m =>
      obtain ⟨b, o, rfl, hb, hc⟩ := h.plain (by omega)
      have c1 := hc m (by omega)
      obtain ⟨x, hx⟩ : ∃ x, l[m]'(by omega) = x := ⟨_, rfl⟩
      rw [hx] at c1
      have HX := Lib.hid hx; clear hx hc
      have n0 : decide ((0 : Int) < (m : Int) + 1) = true := decide_eq_true (by omega)
      by_cases hx0 : x = 0
      · subst hx0
        go_wp2_with fail
        go_round
        case rel =>
          refine ⟨m, by omega, by go_num, fun j hj hk => ?_⟩
          by_cases e : j = m
          · subst e; exact HX.out
          · exact HZ.out j hj (by omega)
        case measure => simp [intOf]
      · have HR := Lib.hid (Na.rt_of h.ok (k := m + 1) hk HZ.out (fun _ h2 => by have := HX.out; simpa [this] using hx0)).2
        have e0 : ((x : Int) == 0) = false := by simpa using hx0
        have hm1 : m + 1 ≤ c := by omega
        clear hx0
        go_wp2_with (first | (at_builtin; refine app_u32 rfl _ _ 64 Tryz.underlying64 rfl w.heap.size _ [] rfl (Row.empty w (Nat.le_refl _)) (some ⟨b, o, none⟩) (m + 1) c (l.take (m + 1)) rfl (by rw [List.length_take]; omega) ((h.take (m + 1)).on ((Below.refl _ _).alloc (Nat.le_refl _) _)) HZN.out (by rw [List.length_take]; simp; omega) (by simp) ?_; intro v2 w2 hr2 hg2))
        go_ret
        exact HFIN.out _ _ (by rw [HR.out]; exact hr2.out) (hg2.out _ _ ((Below.refl _ _).alloc (Nat.le_refl _) _) (Nat.le_refl _))
theorem r1_of_any (v : Nat) (hv : v < 18446744073709551616) (w : World) :
    Calls Tryz.prog 89 #[.int .u64 v] w (GivesZ (Na.limbs v) w) := by
  have hok : Na.OK [v % 4294967296, v / 4294967296] := fun x hx => by
    simp only [List.mem_cons, List.not_mem_nil, or_false] at hx
    show x < 4294967296
    omega
  have hval : Na.cut [v % 4294967296, v / 4294967296] = Na.limbs v := by
    rw [Na.cut]; congr 1
    simp only [Na.val, Na.B]; omega
  have h0 : Blk (w.alloc (Obj.cells #[Value.int IntKind.u32 ((v : Int) % 4294967296), Value.int IntKind.u32 ((v : Int) / 4294967296)] 81)) w.heap.size [v % 4294967296, v / 4294967296] := by
    show (w.heap.push _)[w.heap.size]? = _; simp [u32s]
  have H1 := Lib.hid (show Calls Tryz.prog 83 #[.slice (some ⟨w.heap.size, 0, none⟩) 2 2] (w.alloc (Obj.cells #[Value.int IntKind.u32 ((v : Int) % 4294967296), Value.int IntKind.u32 ((v : Int) / 4294967296)] 81)) (GivesZ (Na.limbs v) (w.alloc (Obj.cells #[Value.int IntKind.u32 ((v : Int) % 4294967296), Value.int IntKind.u32 ((v : Int) / 4294967296)] 81))) from hval ▸ r1_trim_any _ _ _ _ (h0.sl hok (Nat.le_refl _)) (fun e => by cases e) (by simp))
  have hB : Below w.heap.size w (w.alloc (Obj.cells #[Value.int IntKind.u32 ((v : Int) % 4294967296), Value.int IntKind.u32 ((v : Int) / 4294967296)] 81)) := (Below.refl _ _).alloc (Nat.le_refl _) _
  clear h0 hok hval
  go_enter Tryz.func89, Tryz.ntmps89
  go_wp2_with (first | (go_at_call 83; (with_reducible refine (H1.out).mono ?_); rintro e w1 ⟨a, c, rfl, hs, hz, hr, hb⟩))
  go_ret
  exact ⟨a, c, rfl, hs, hz, hr.mono (by simp), hB.trans (hb.mono hB.size)⟩
end Go.Proofs.YtiglekomfgfilaaGreatDoor

/- The reference: Value, Len, Cmp. -/
namespace Go.Proofs.YtiglekomfgfilaaGreatDoor
set_option maxRecDepth 100000
set_option maxHeartbeats 1000000
set_option linter.all false
open Go.RowKit
section
variable (a : Option Addr) (c : Nat) (l : List Nat) (w : World) (h : Sl w a c l) (hz : a = none → c = 0) (hn : l.length ≤ 1000000)
include h hz hn
theorem r1_len_any : Calls Tryz.prog 52 #[.slice a l.length c] w (RetB (.int .i64 (Na.bitLen (Na.val l) : Nat)) w) := by
  have H1 := Lib.hid (r1_trim_any a c l w h hz hn)
  have hle := (Na.rt_le h.ok).1
  obtain ⟨q, hq⟩ : ∃ q, q = Na.cut l := ⟨_, rfl⟩
  have hnil := Na.cut_nil_iff l
  replace hle : q.length ≤ l.length := by rw [hq]; exact hle
  have hok := Na.ok_cut l
  rw [← hq] at H1 hnil hok
  obtain ⟨n, hqn⟩ : ∃ n, n = q.length := ⟨_, rfl⟩
  cases n with
  | zero =>
    have hz0 : Na.val l = 0 := hnil.1 (List.eq_nil_of_length_eq_zero hqn.symm)
    have e1 := Lib.hid (show Na.bitLen (Na.val l) = 0 by rw [hz0]; rfl)
    have hql : q.length = 0 := hqn.symm
    clear hqn hz0 hle hq
    go_enter Tryz.func52, Tryz.ntmps52
    go_wp2_with (first | (go_at_call 83; (with_reducible refine (H1.out).mono ?_); rintro e w1 ⟨a1, c1, rfl, hs1, hz1, hr1, hb1⟩))
    go_ret
    exact RetB.of (by rw [e1.out]; rfl) hb1
  | succ n =>
    have hnq : n < q.length := by omega
    have hb := Na.bitLen_at l q hq n hqn.symm
    have hxl := hok _ (List.getElem_mem hnq)
    have hlast : q[n]'hnq ≠ 0 := by
      have hne : Na.cut l ≠ [] := by rw [← hq]; intro e; rw [e] at hnq; simp at hnq
      have h1 : (Na.cut l).getLast hne ≠ 0 := Na.limbs_last (Na.val l) hne
      rw [List.getLast_eq_getElem] at h1
      simp only [← hq, ← hqn] at h1
      simpa using h1
    rw [Na.libBitLen _ hlast (Nat.lt_trans hxl (by decide))] at hb
    have hbx : Na.bitLen (q[n]'hnq) = Nat.log2 (q[n]'hnq) + 1 := by rw [Na.bitLen, if_neg hlast]
    rw [← hbx] at hb
    have hx32 : q[n]'hnq < 4294967296 := hxl
    obtain ⟨x, hx⟩ : ∃ x, x = q[n]'hnq := ⟨_, rfl⟩
    rw [← hx] at hb hx32
    have HX := Lib.hid hx
    have HB := Lib.hid hb
    have HNQ := Lib.hid hqn
    have hn6 : n ≤ 1000000 := by omega
    clear hx hb hqn hbx hlast hxl hok hnil hle hq
    have hql : q.length = n + 1 := HNQ.out.symm
    go_enter Tryz.func52, Tryz.ntmps52
    go_wp2_with (first | (go_at_call 83; (with_reducible refine (H1.out).mono ?_); rintro e w1 ⟨a1, c1, rfl, hs1, hz1, hr1, hb1⟩; obtain ⟨b, o, rfl, hb, hcell⟩ := hs1.plain (by omega); have cx := hcell n (by omega); rw [← HX.out] at cx; clear hcell))
    go_loop [4, 5] (fun nv xv => ∃ m y : Nat, nv = .int .i64 m ∧ xv = .int .u32 y ∧ y ≤ x ∧ m ≤ 40000000 ∧ Hid (m + Na.bitLen y = Na.bitLen (Na.val l))) (fun _ xv => (intOf xv).toNat)
    case atStart => exact ⟨32 * n, x, by go_num, rfl, Nat.le_refl _, by omega, Lib.hid HB.out.symm⟩
    case round =>
      obtain ⟨m, y, rfl, rfl, hy, hm, HM⟩ := hrel
      by_cases hy0 : y = 0
      · have e := Lib.hid (show Na.bitLen (Na.val l) = m by rw [← HM.out, hy0]; rfl)
        have hy1 : y ≤ 0 := by omega
        clear hy0
        go_wp2_with fail
        go_ret
        exact RetB.of (by rw [e.out]; rfl) hb1
      · have hy1 : 0 < y := by omega
        have hbl := Na.bitLen_half hy0
        have HBL := Lib.hid hbl
        have hm2 : m + 1 ≤ 40000000 := by
          have h1 := HM.out
          have h2 := Na.bitLen_pos' hy0
          have h3 := HB.out
          have h4 : Na.bitLen x ≤ 32 := Na.bitLen_le' (k := 32) (by omega)
          omega
        clear hbl hy0
        go_wp2_with fail
        go_round
        case rel => exact ⟨m + 1, y / 2, by go_num, by congr 1, by omega, hm2, Lib.hid (by rw [← HM.out, HBL.out]; omega)⟩
        case measure => simp [intOf]; omega
end
end Go.Proofs.YtiglekomfgfilaaGreatDoor

/- The reference: Cmp. -/
namespace Go.Proofs.YtiglekomfgfilaaGreatDoor
set_option maxRecDepth 100000
set_option maxHeartbeats 2000000
set_option linter.all false
open Go.RowKit
def cmpLoop1 (q r : List Nat) (w : World) (iv : Value) (wr : World) : Prop := ∃ k : Nat, k ≤ q.length ∧ iv = .int .i64 ((k : Int) - 1) ∧ Hid (q.drop k = r.drop k) ∧ Hid (Below w.heap.size w wr)
theorem r1_cmp_any (a : Option Addr) (c : Nat) (l : List Nat) (b : Option Addr) (d : Nat) (m : List Nat) (w : World) (h : Sl w a c l) (hz : a = none → c = 0) (h' : Sl w b d m) (hz' : b = none → d = 0) (hn : l.length ≤ 1000000) (hm : m.length ≤ 1000000) :
    Calls Tryz.prog 85 #[.slice a l.length c, .slice b m.length d] w (RetB (.int .i64 (Na.cmp l m)) w) := by
  have H1 := Lib.hid (r1_trim_any a c l w h hz hn)
  have H2 := Lib.hid (fun w1 (hb : Below w.heap.size w w1) => r1_trim_any b d m w1 (h'.on hb) hz' hm)
  have v1 := Na.val_cut (a := l)
  have v2 := Na.val_cut (a := m)
  have hlt : (Na.cut l).length < (Na.cut m).length → Na.val l < Na.val m := fun e => Na.lt_of_rt h.ok h'.ok e
  have hgt : (Na.cut m).length < (Na.cut l).length → Na.val m < Na.val l := fun e => Na.lt_of_rt h'.ok h.ok e
  have hl1 : (Na.cut l).length ≤ 1000000 := Nat.le_trans (Na.rt_le h.ok).1 hn
  have hl2 : (Na.cut m).length ≤ 1000000 := Nat.le_trans (Na.rt_le h'.ok).1 hm
  obtain ⟨q, hq⟩ : ∃ q, q = Na.cut l := ⟨_, rfl⟩
  obtain ⟨r, hr⟩ : ∃ q, q = Na.cut m := ⟨_, rfl⟩
  rw [← hq] at H1 v1 hlt hgt hl1
  rw [← hr] at H2 v2 hlt hgt hl2
  clear hq hr
  have V1 := Lib.hid v1; have V2 := Lib.hid v2
  by_cases he : q.length = r.length
  · have HE := Lib.hid he
    have hql : q.length = r.length := he
    clear hlt hgt v1 v2 he
    go_enter Tryz.func85, Tryz.ntmps85
    go_wp2_with (first | (go_at_call 83; (with_reducible refine (H1.out).mono ?_); rintro e w1 ⟨a1, c1, rfl, hs1, hz1, hr1, hb1⟩) | (go_at_call 83; (with_reducible refine (H2.out w1 hb1).mono ?_); rintro e w2 ⟨a2, c2, rfl, hs2, hz2, hr2, hb2⟩))
    have hS1 := hs1.on hb2
    have HB2 := Lib.hid (hb1.trans (hb2.mono hb1.size))
    clear hr1 hr2 hs1
    go_loopw [7] (cmpLoop1 q r w2) (fun i _ => (intOf i + 1).toNat)
    case atStart => exact ⟨q.length, Nat.le_refl _, by rw [HE.out], Lib.hid (by rw [List.drop_length, HE.out, List.drop_length]), Lib.hid (Below.refl _ _)⟩
    case round =>
      obtain ⟨k, hk, rfl, HD, HB⟩ := hrel
      cases k with
      | zero =>
        have e := Lib.hid (Na.cmp_eq (a := l) (b := m) (by rw [← V1.out, ← V2.out]; have := HD.out; rw [List.drop_zero, List.drop_zero] at this; rw [this]))
        go_wp2_with fail
        go_ret
        exact RetB.of (by rw [e.out]; rfl) (HB2.out.trans (HB.out.mono HB2.out.size))
      | succ t =>
        have hq1 : t < q.length := by omega
        have hr1 : t < r.length := by rw [← HE.out]; exact hq1
        obtain ⟨b1, o1, rfl, hb1', hc1⟩ := (hS1.on HB.out).plain (by omega)
        obtain ⟨b2, o2, rfl, hb2', hc2⟩ := (hs2.on HB.out).plain (by omega)
        have k1 := hc1 t hq1
        have k2 := hc2 t hr1
        have G1 := Lib.hid (Na.cmp_at hS1.ok hs2.ok HE.out t hq1 hr1 HD.out)
        have G2 := Lib.hid (Na.cmp_at hs2.ok hS1.ok HE.out.symm t hr1 hq1 HD.out.symm)
        have EQ := Lib.hid (show q[t]'hq1 = r[t]'hr1 → q.drop t = r.drop t from fun e => by rw [List.drop_eq_getElem_cons hq1, List.drop_eq_getElem_cons hr1, e, HD.out])
        obtain ⟨x, hx⟩ : ∃ x, q[t]'hq1 = x := ⟨_, rfl⟩
        obtain ⟨y, hy⟩ : ∃ y, r[t]'hr1 = y := ⟨_, rfl⟩
        rw [hx] at k1 G1 G2 EQ; rw [hy] at k2 G1 G2 EQ
        have hti : (((t + 1 : Nat) : Int) - 1) = (t : Int) := by omega
        rw [hti]
        have htr : t < r.length := hr1
        clear hx hy hc1 hc2 HD hti
        by_cases hxy : x < y
        · have e := Lib.hid (Na.cmp_lt (a := l) (b := m) (by rw [← V1.out, ← V2.out]; exact G1.out hxy))
          go_wp2_with fail
          go_quiet (fail)
          go_wp2_with fail
          go_ret
          exact RetB.of (by rw [e.out]; rfl) (HB2.out.trans ((below_drewN' HB.out _).mono HB2.out.size))
        · by_cases hyx : y < x
          · have e := Lib.hid (Na.cmp_gt (a := l) (b := m) (by rw [← V1.out, ← V2.out]; exact G2.out hyx))
            go_wp2_with fail
            go_quiet (fail)
            go_wp2_with fail
            go_quiet (fail)
            go_wp2_with fail
            go_ret
            exact RetB.of (by rw [e.out]; rfl) (HB2.out.trans ((below_drewN' (below_drewN' HB.out _) _).mono HB2.out.size))
          · obtain rfl : x = y := by omega
            have EQ2 := Lib.hid (EQ.out rfl)
            clear EQ G1 G2
            go_wp2_with fail
            go_quiet (fail)
            go_wp2_with fail
            go_quiet (fail)
            go_wp2_with fail
            go_roundw
            case rel => exact ⟨t, by omega, rfl, EQ2, Lib.hid (below_drewN' HB.out _)⟩
            case measure => simp [intOf]
  · by_cases hlk : q.length < r.length
    · have e := Lib.hid (Na.cmp_lt (hlt hlk))
      have b0 : ((q.length : Int) != r.length) = true := by simp; omega
      clear hlt hgt he v1 v2
      go_enter Tryz.func85, Tryz.ntmps85
      go_wp2_with (first | (go_at_call 83; (with_reducible refine (H1.out).mono ?_); rintro e w1 ⟨a1, c1, rfl, hs1, hz1, hr1, hb1⟩) | (go_at_call 83; (with_reducible refine (H2.out w1 hb1).mono ?_); rintro e w2 ⟨a2, c2, rfl, hs2, hz2, hr2, hb2⟩))
      go_ret
      exact RetB.of (by rw [e.out]; rfl) (hb1.trans (hb2.mono hb1.size))
    · have e := Lib.hid (Na.cmp_gt (hgt (by omega)))
      have b0 : ((q.length : Int) != r.length) = true := by simp; omega
      clear hlt hgt he v1 v2
      go_enter Tryz.func85, Tryz.ntmps85
      go_wp2_with (first | (go_at_call 83; (with_reducible refine (H1.out).mono ?_); rintro e w1 ⟨a1, c1, rfl, hs1, hz1, hr1, hb1⟩) | (go_at_call 83; (with_reducible refine (H2.out w1 hb1).mono ?_); rintro e w2 ⟨a2, c2, rfl, hs2, hz2, hr2, hb2⟩))
      go_ret
      exact RetB.of (by rw [e.out]; rfl) (hb1.trans (hb2.mono hb1.size))
end Go.Proofs.YtiglekomfgfilaaGreatDoor
