/- Shr: limbs are left. -/
import Derived.Test.YtlhahbniigjkkaaGreatDoorZ8
import Derived.Deep.QuietTactic
import Derived.BigQuiet
import Derived.Outline
import Derived.Test.YtlhahbniigjkkaaGreatDoorZ7
import Derived.Test.YtlhahbniigjkkaaGreatDoorZ1
import Derived.Test.YtlhahbniigjkkaaGreatDoorZ2
namespace Go.Proofs.YtlhahbniigjkkaaGreatDoor
set_option linter.all false
open Go.RowKit

def shrLoop (m s g : Nat) (X : List Nat) (w : World) (iv : Value) (wr : World) : Prop := ∃ (i : Nat) (o : List Nat), i ≤ m ∧ iv = .int .i64 i ∧ Hid (Blk wr g o) ∧ Hid (o.length = m) ∧ Hid (Na.OK o) ∧ Hid (o.drop i = X.drop i) ∧
  Hid (Na.val (o.take i) + Na.B ^ i * (Na.val (X.drop i) / 2 ^ s) = Na.val X / 2 ^ s) ∧ Hid (Below w.heap.size w wr)

theorem rt_pos (l : List Nat) : 0 < Na.rt l ↔ Na.val l ≠ 0 := by
  rw [Na.rt, List.length_pos_iff, ne_eq, ne_eq, Na.cut_nil_iff]

theorem Na.shr_step (X : List Nat) (i s x y : Nat) (hs : s < 32) (hi : i < X.length) (hx : X[i] = x) (hxl : x < 4294967296) (hy : ∃ r, Na.val (X.drop (i + 1)) = y + Na.B * r) (P V : Nat)
    (inv : P + Na.B ^ i * (Na.val (X.drop i) / 2 ^ s) = V) : P + Na.B ^ i * ((x + y * 4294967296) / 2 ^ s % 4294967296) + Na.B ^ (i + 1) * (Na.val (X.drop (i + 1)) / 2 ^ s) = V := by
  obtain ⟨r, hr⟩ := hy
  have h1 := Na.shr_head x y (Na.val (X.drop (i + 1))) r s hs hxl hr
  have h2 : Na.val (X.drop i) = x + Na.B * Na.val (X.drop (i + 1)) := by rw [List.drop_eq_getElem_cons hi, hx]; rfl
  rw [h2, h1] at inv
  rw [← inv, Nat.mul_add, Nat.pow_succ, Nat.mul_assoc (Na.B ^ i) Na.B, Nat.add_assoc]

theorem shrLoop.drew {m s g : Nat} {X : List Nat} {w : World} {iv : Value} {wr : World} (h : shrLoop m s g X w iv wr) (n : Nat) : shrLoop m s g X w iv (wr.drewN n) := by
  obtain ⟨i, o, h1, h2, h3, h4, h5, h6, h7, h8⟩ := h
  exact ⟨i, o, h1, h2, Lib.hid (show _ = _ from h3.out), h4, h5, h6, h7, Lib.hid (below_drewN' h8.out n)⟩
theorem Na.shr_set (X o : List Nat) (i v V s : Nat) (hi : i < o.length) (hd : o.drop i = X.drop i) (h : Na.val (o.take i) + Na.B ^ i * v + Na.B ^ (i + 1) * (Na.val (X.drop (i + 1)) / 2 ^ s) = V) :
    (o.set i v).drop (i + 1) = X.drop (i + 1) ∧ Na.val ((o.set i v).take (i + 1)) + Na.B ^ (i + 1) * (Na.val (X.drop (i + 1)) / 2 ^ s) = V := by
  constructor
  · rw [List.drop_set, if_pos (by omega)]
    have := congrArg (List.drop 1) hd
    rwa [List.drop_drop, List.drop_drop] at this
  · rw [Na.val_set_take o i v hi, h]
theorem Na.drop_get {X o : List Nat} {i j : Nat} (hd : o.drop i = X.drop i) (hj : i ≤ j) (ho : j < o.length) (hx : j < X.length) : o[j] = X[j] := by
  have h1 : (o.drop i)[j - i]? = (X.drop i)[j - i]? := by rw [hd]
  rw [List.getElem?_drop, List.getElem?_drop, show i + (j - i) = j by omega, List.getElem?_eq_getElem ho, List.getElem?_eq_getElem hx] at h1
  exact Option.some.inj h1

set_option maxHeartbeats 2000000 in
theorem na_shr_main (a : Option Addr) (c : Nat) (l : List Nat) (n : Nat) (w : World) (h : Sl w a c l) (hn : l.length ≤ 1000000) (hi : n ≤ 9223372036854775807) (hb : Na.big l = false) (hp : n / 32 < (Na.cut l).length) :
    Calls Tryz.prog 41 #[.slice a l.length c, .int .i64 n] w (GivesS (Na.shr l n) w) := by
  have hB : Below w.heap.size w (w.alloc (Obj.cells #[Value.slice a l.length c] 56)) := (Below.refl _ _).alloc (Nat.le_refl _) _
  have H1 := Lib.hid (na_over1_any h hn false hb)
  have hl1 : (Na.cut l).length ≤ 256 := Nat.le_of_not_lt (of_decide_eq_false hb)
  have H4 := na_cut_any a c l _ (h.on hB) hn
  have S1 := h.cut
  have hv := Na.val_cut (a := l)
  obtain ⟨q, hq⟩ : ∃ q, q = Na.cut l := ⟨_, rfl⟩
  rw [← hq] at H4 hl1 S1 hp hv
  obtain ⟨p, hpp⟩ : ∃ p, p = n / 32 := ⟨_, rfl⟩
  obtain ⟨s, hss⟩ : ∃ s, s = n % 32 := ⟨_, rfl⟩
  have hpi : (n : Int) / 32 = (p : Int) := by omega
  have hsi : (n : Int) % 32 = (s : Int) := by omega
  have hs32 : s < 32 := by omega
  have hnps : n = 32 * p + s := by omega
  rw [← hpp] at hp
  have hqtd := Na.val_take_drop q p (by omega)
  have hlo := Na.val_lt (q.take p) (Na.ok_take S1.ok p)
  rw [List.length_take, Nat.min_eq_left (by omega)] at hlo
  obtain ⟨hdiv, hmod⟩ := Na.shr_lost (Na.val (q.take p)) (Na.val (q.drop p)) p s hlo
  rw [← hqtd, ← hnps, hv] at hdiv hmod
  have e2 := Lib.hid (show Na.shr l n = (Na.limbs (Na.val (q.drop p) / 2 ^ s), decide (Na.val (q.take p) ≠ 0 ∨ Na.val (q.drop p) % 2 ^ s ≠ 0), 0) by
    rw [Na.shr, if_neg (by omega), hb, if_neg (by simp), Int.toNat_natCast, hdiv]
    congr 2
    exact decide_eq_decide.2 hmod)
  have H5 := na_right_any a c (q.take p) _ ((S1.on hB).take p) (by rw [List.length_take]; omega)
  rw [List.length_take, Nat.min_eq_left (by omega)] at H5
  obtain ⟨m, hqm⟩ : ∃ m, q.length = p + m := ⟨q.length - p, by omega⟩
  have hm0 : 0 < m := by omega
  rw [hqm] at H4 hl1
  obtain ⟨b, o, rfl, hbl, hcell⟩ := S1.plain (by omega)
  have hcap : p + m ≤ c := by have := S1.cap; omega
  obtain ⟨X, hX⟩ : ∃ X, X = q.drop p := ⟨_, rfl⟩
  have hXl : X.length = m := by rw [hX, List.length_drop]; omega
  have hXok : Na.OK X := by rw [hX]; exact Na.ok_drop S1.ok p
  have HCX := Lib.hid (show ∀ j v, (u32s X)[j]? = some v → w.cell? ⟨b, o + p + j, none⟩ = some v by
    intro j v hv
    have hj : j < X.length := by have := (List.getElem?_eq_some_iff.1 hv).1; rwa [u32s_len] at this
    rw [u32s_get X j hj] at hv
    have e := hcell (p + j) (by omega)
    rw [Nat.add_assoc, e, ← Option.some.inj hv]
    congr 3
    simp [hX])
  rw [← hX] at e2
  obtain ⟨r0, hr0⟩ : ∃ r, r = Na.rt (q.take p) := ⟨_, rfl⟩
  have hr1 : decide (Na.val (q.take p) ≠ 0 ∨ Na.val X % 2 ^ s ≠ 0) = (decide (0 < r0) || decide (Na.val X % 2 ^ s ≠ 0)) := by
    rw [hr0]; simp only [Bool.decide_or, rt_pos]
  rw [← hr0] at H5
  rw [hr1] at e2
  have H4' := Lib.hid H4; have H5' := Lib.hid H5
  have HXL := Lib.hid hXl; have HXO := Lib.hid hXok
  have hmin : min (p : Int) ((p : Int) + (m : Int)) = (p : Int) := by omega
  have hcp : ¬ c = p := by omega
  have hpm : ((p + m : Nat) : Int) = (p : Int) + (m : Int) := by simp
  clear hb hv hq hqtd hlo hdiv hmod H4 H5 hpp hss hnps hX hXl hXok hr0 hr1 hqm S1 hcell
  go_enter Tryz.func41, Tryz.ntmps41
  go_wp2_with (first | (go_at_call 87; (with_reducible refine (H1.out).mono ?_); rintro e w' ⟨rfl, rfl⟩) | (go_at_call 88; (with_reducible refine (H4'.out).mono ?_); rintro e w' ⟨rfl, rfl⟩) | (go_at_call 89; (with_reducible refine (H5'.out).mono ?_); rintro e w' ⟨rfl, rfl⟩) | (at_make; refine mk_u32 rfl _ _ rfl _ _ m rfl rfl (by omega) (by omega) (by omega) ?_))
  intro w1 hK hgrow
  have HB1 := Lib.hid (hgrow.out _ _ hB (by simp [World.size_alloc]))
  have hK' := Lib.hid (show Blk w1 (w.heap.size + 1) (List.replicate m 0) by have := hK.out; simpa [World.size_alloc] using this)
  clear hgrow hB hK
  go_wp2_with (first | (refine wpList_copy_splice rfl _ _ 56 56 rfl 65 Tryz.underlying56 (by kernel_rfl) _ _ _ _ _ _ rfl rfl (w.heap.size + 1) 0 (u32s (List.replicate m 0)) 65 hK'.out (u32s X) (by rw [u32s_len, HXL.out]; show _ = min _ _; omega) (fun h0 => ⟨rfl, _, rfl, fun j v hv => (by rw [add_own]; exact (HB1.out.cell (p := ⟨b, o + p + j, none⟩) hbl).trans (HCX.out j v hv))⟩) (by simp [u32s_len, HXL.out]) (u32s_one _) w.heap.size w HB1.out (by omega) ?_))
  intro w2 hg2 hB2
  have HG2 := Lib.hid (show Blk w2 (w.heap.size + 1) X by have := hg2.out; rwa [splice_all _ _ (by simp [u32s_len, HXL.out])] at this)
  have HB2 := Lib.hid hB2
  clear hg2 hB2 hK' HB1 HCX H1 H4' H5' h
  go_wp2_with fail
  have hx0 : 0 < X.length := by have := HXL.out; omega
  have cx := HG2.out.cell 0 hx0
  have hx0l : X[0]'hx0 < 4294967296 := HXO.out _ (List.getElem_mem hx0)
  obtain ⟨x0, hx0e⟩ : ∃ x, X[0]'hx0 = x := ⟨_, rfl⟩
  rw [hx0e] at cx hx0l
  obtain ⟨M, hM⟩ : ∃ M, M = 2 ^ s := ⟨_, rfl⟩
  have hM1 : 1 ≤ M := by rw [hM]; exact Nat.pow_pos (by decide)
  have hM2 : M ≤ 2147483648 := by rw [hM]; exact Nat.pow_le_pow_right (by decide) (show s ≤ 31 by omega)
  have hMi : ((2 : Int) ^ s) = (M : Int) := by rw [hM]; simp
  have HM := Lib.hid hM; have HX0 := Lib.hid hx0e; clear hM hx0e
  clear hmin hcp hpm hpi hm0
  have hand := Na.and_mask x0 s hx0l hs32
  obtain ⟨z0, hz0⟩ : ∃ z, z = x0 % 2 ^ s := ⟨_, rfl⟩
  rw [← hz0, ← HM.out, show ((M - 1 : Nat) : Int) = (M : Int) - 1 by omega] at hand
  have hvz : Na.val X % 2 ^ s = z0 := by
    rw [hz0, ← HX0.out]
    have e1 : Na.val X = X[0] + Na.B * Na.val (X.drop 1) := by
      conv => lhs; rw [← List.drop_zero (l := X), List.drop_eq_getElem_cons hx0]
      rfl
    rw [e1, show Na.B = 2 ^ s * 2 ^ (32 - s) by rw [← Nat.pow_add, show s + (32 - s) = 32 by omega], Nat.mul_assoc, Nat.add_mul_mod_self_left]
  rw [hvz] at e2
  have hdz : decide (z0 ≠ 0) = ((z0 : Int) != 0) := by
    rw [Bool.eq_iff_iff]; simp
  rw [hdz] at e2
  have HAtS := Lib.hid (show shrLoop m s (w.heap.size + 1) X w (.int .i64 ((0 : Nat) : Int)) w2 from ⟨0, X, Nat.zero_le _, rfl, HG2, HXL, HXO, Lib.hid rfl, Lib.hid (by simp [Na.val]), HB2⟩)
  clear hz0 hvz hdz HG2 HB2
  by_cases hr : 0 < r0
  all_goals
    first
    | (have hd : decide (0 < r0) = true := decide_eq_true hr
       rw [hd, Bool.true_or] at e2
       simp only [hd]
       clear hMi hand cx
       go_quiet (fail)
       clear hd
       have hMi : ((2 : Int) ^ s) = (M : Int) := by rw [HM.out]; simp
       go_wp2_with fail)
    | (have hd : decide (0 < r0) = false := decide_eq_false hr
       rw [hd, Bool.false_or] at e2
       simp only [hd]
       go_quiet (fail)
       clear hd hand cx
       go_wp2_with fail)
    go_loopw [67] (shrLoop m s (w.heap.size + 1) X w) (fun i _ => m - (intOf i).toNat)
    case atStart => exact HAtS.out.drew _
    case round =>
      clear HAtS
      obtain ⟨i, o2, hi, rfl, HBl, HOl, HOk, HDr, HInv, HBe⟩ := hrel
      by_cases hlt : i < m
      · have ho1 : i < o2.length := by have := HOl.out; omega
        have hx1 : i < X.length := by have := HXL.out; omega
        have co := HBl.out.cell i ho1
        have fo := HBl.out.frozen i
        have hxl : X[i]'hx1 < 4294967296 := HXO.out _ (List.getElem_mem hx1)
        obtain ⟨x, hxe⟩ : ∃ x, X[i]'hx1 = x := ⟨_, rfl⟩
        rw [Na.drop_get HDr.out (Nat.le_refl _) ho1 hx1] at co
        rw [hxe] at co hxl
        by_cases hlt2 : i + 1 < m
        · have ho2 : i + 1 < o2.length := by have := HOl.out; omega
          have hx2 : i + 1 < X.length := by have := HXL.out; omega
          have co2 := HBl.out.cell (i + 1) ho2
          have hyl : X[i + 1]'hx2 < 4294967296 := HXO.out _ (List.getElem_mem hx2)
          have HR := Lib.hid (show ∃ r, Na.val (X.drop (i + 1)) = X[i + 1] + Na.B * r from ⟨Na.val (X.drop (i + 1 + 1)), by rw [List.drop_eq_getElem_cons hx2]; rfl⟩)
          obtain ⟨y, hye⟩ : ∃ x, X[i + 1]'hx2 = x := ⟨_, rfl⟩
          rw [Na.drop_get HDr.out (Nat.le_succ _) ho2 hx2] at co2
          rw [hye] at co2 hyl HR
          have HS := Lib.hid (Na.shr_set X o2 i _ _ s ho1 HDr.out (Na.shr_step X i s x y hs32 hx1 hxe hxl HR.out _ _ HInv.out))
          have hor := Na.or_shift x y 32 (by omega) (by omega)
          have e32 : IntKind.u64.wrap ((y : Int) * 2 ^ 32) = (y : Int) * 4294967296 := by rw [show ((y : Int) * 2 ^ 32) = ((y * 4294967296 : Nat) : Int) by simp, Na.wrap_u64 _ (by omega)]; simp
          rw [e32] at hor
          have e33 : x + y * 2 ^ 32 = x + y * 4294967296 := rfl
          rw [e33] at hor
          have hs3 : x + y * 4294967296 < 18446744073709551616 := by omega
          have hor' : bits BinOp.or IntKind.u64 (x : Int) ((y : Int) * 4294967296) = ((x + y * 4294967296 : Nat) : Int) := hor
          obtain ⟨t, ht⟩ : ∃ t, t = x + y * 4294967296 := ⟨_, rfl⟩
          rw [← ht] at HS hor' hs3
          clear ht hor e32 e33 hxe hye
          go_wp2_with fail
          go_roundw
          case rel =>
            have hq : (t : Int) / (M : Int) % 4294967296 = ((t / 2 ^ s % 4294967296 : Nat) : Int) := by rw [← HM.out]; simp
            rw [hq]
            exact ⟨i + 1, o2.set i (t / 2 ^ s % 4294967296), by omega, by go_num, Lib.hid (HBl.out.set i _), Lib.hid (by rw [List.length_set]; exact HOl.out), Lib.hid (Na.ok_set HOk.out _ _ (Nat.mod_lt _ (by decide))), Lib.hid HS.out.1, Lib.hid HS.out.2, Lib.hid (by have hbe := HBe.out; (repeat (first | exact Below.refl _ _ | assumption | refine Below.setCell ?_ (by first | omega | (simp <;> omega)) _ | refine Below.alloc ?_ (by first | omega | (simp <;> omega)) _ | refine Below.drew ?_ | refine below_drewN' ?_ _)))⟩
          case measure => simp [intOf]; omega
        · have HS := Lib.hid (Na.shr_set X o2 i _ _ s ho1 HDr.out (Na.shr_step X i s x 0 hs32 hx1 hxe hxl ⟨0, by rw [List.drop_of_length_le (by have := HXL.out; omega)]; rfl⟩ _ _ HInv.out))
          obtain ⟨t, ht⟩ : ∃ t, t = x + 0 * 4294967296 := ⟨_, rfl⟩
          rw [← ht] at HS
          obtain rfl : t = x := by omega
          clear ht hxe
          go_wp2_with fail
          go_roundw
          case rel =>
            have hq : (t : Int) / (M : Int) % 4294967296 = ((t / 2 ^ s % 4294967296 : Nat) : Int) := by rw [← HM.out]; simp
            rw [hq]
            exact ⟨i + 1, o2.set i (t / 2 ^ s % 4294967296), by omega, by go_num, Lib.hid (HBl.out.set i _), Lib.hid (by rw [List.length_set]; exact HOl.out), Lib.hid (Na.ok_set HOk.out _ _ (Nat.mod_lt _ (by decide))), Lib.hid HS.out.1, Lib.hid HS.out.2, Lib.hid (by have hbe := HBe.out; (repeat (first | exact Below.refl _ _ | assumption | refine Below.setCell ?_ (by first | omega | (simp <;> omega)) _ | refine Below.alloc ?_ (by first | omega | (simp <;> omega)) _ | refine Below.drew ?_ | refine below_drewN' ?_ _)))⟩
          case measure => simp [intOf]; omega
      · obtain rfl : i = m := by omega
        have hv : Na.val o2 = Na.val X / 2 ^ s := by
          have := HInv.out
          rw [List.take_of_length_le (by have := HOl.out; omega), List.drop_of_length_le (by have := HXL.out; omega)] at this
          simpa [Na.val] using this
        have hcut : Na.cut o2 = Na.limbs (Na.val X / 2 ^ s) := by rw [Na.cut, hv]
        have hs3 := HBl.out.sl HOk.out (c := i) (by have := HOl.out; omega)
        have hc := na_cut_any (some ⟨w.heap.size + 1, 0, none⟩) i o2 wr hs3 (by have := HOl.out; omega)
        have hs4 := hs3.cut
        rw [HOl.out, hcut] at hc
        rw [hcut] at hs4
        have HC := Lib.hid hc; have HS4 := Lib.hid hs4
        clear hc hs4 hs3 hcut hv
        go_wp2_with (first | (go_at_call 88; (with_reducible refine (HC.out).mono ?_); rintro e w' ⟨rfl, rfl⟩))
        first
        | refine bodyPost_ret (v := .tuple #[.slice (some ⟨w.heap.size + 1, 0, none⟩) (Na.limbs (Na.val X / 2 ^ s)).length i, .bool true, .int .i64 0]) (by simp [results, Tryz.results41, go_sem]) rfl (by rw [e2.out]; exact ⟨_, _, rfl, HS4.out, HBl.out.own (by omega), HBe.out⟩)
        | refine bodyPost_ret (v := .tuple #[.slice (some ⟨w.heap.size + 1, 0, none⟩) (Na.limbs (Na.val X / 2 ^ s)).length i, .bool ((z0 : Int) != 0), .int .i64 0]) (by simp [results, Tryz.results41, go_sem]) rfl (by rw [e2.out]; exact ⟨_, _, rfl, HS4.out, HBl.out.own (by omega), HBe.out⟩)

theorem na_shr_any (a : Option Addr) (c : Nat) (l : List Nat) (n : Int) (w : World) (h : Sl w a c l) (hn : l.length ≤ 1000000) (hi : -9223372036854775808 ≤ n ∧ n ≤ 9223372036854775807) :
    Calls Tryz.prog 41 #[.slice a l.length c, .int .i64 n] w (GivesS (Na.shr l n) w) := by
  by_cases h0 : n < 0
  · exact na_shr_arg a c l n w h hn hi h0
  · cases hb : Na.big l with
    | true => exact na_shr_big a c l n w h hn hi (by omega) hb
    | false =>
      obtain ⟨n', rfl⟩ : ∃ x : Nat, n = x := ⟨n.toNat, by omega⟩
      by_cases hp : n' / 32 < (Na.cut l).length
      · exact na_shr_main a c l n' w h hn (by omega) hb hp
      · exact na_shr_all a c l n' w h hn (by omega) hb (by omega)
end Go.Proofs.YtlhahbniigjkkaaGreatDoor

/- Plain Lean: a number's digits are read as the number. -/
namespace Go.Proofs.YtlhahbniigjkkaaGreatDoor.Na
set_option linter.all false
open Go

theorem dig_byte (r : Nat) (h : r < 10) : isD (UInt8.ofNat (48 + r)) = true ∧ (UInt8.ofNat (48 + r)).toNat - 48 = r ∧ (r ≠ 0 → UInt8.ofNat (48 + r) ≠ 48) := by
  have e : (UInt8.ofNat (48 + r)).toNat = 48 + r := by rw [UInt8.toNat_ofNat']; exact Nat.mod_eq_of_lt (by omega)
  refine ⟨by simp only [isD, e, Bool.and_eq_true, decide_eq_true_eq]; omega, by rw [e]; omega, fun h0 e2 => ?_⟩
  have := congrArg UInt8.toNat e2
  rw [e] at this
  have h48 : (48 : UInt8).toNat = 48 := rfl
  omega
theorem num_snoc (t : List UInt8) (c : UInt8) : num (t ++ [c]) = 10 * num t + (c.toNat - 48) := by rw [num, List.foldl_append]; rfl
theorem dec_spec (n : Nat) : (Lib.decDigits n).all isD = true ∧ num (Lib.decDigits n) = n ∧ 0 < (Lib.decDigits n).length ∧ (n ≠ 0 → (Lib.decDigits n)[0]? ≠ some 48) ∧ (n = 0 → (Lib.decDigits n).length = 1) := by
  induction n using Nat.strongRecOn with
  | _ n ih =>
    by_cases h : n < 10
    · rw [Lib.decDigits, dif_pos h]
      obtain ⟨h1, h2, h3⟩ := dig_byte n h
      obtain ⟨c, hc⟩ : ∃ c, c = UInt8.ofNat (48 + n) := ⟨_, rfl⟩
      rw [← hc] at h1 h2 h3 ⊢
      refine ⟨by simp [h1], by simp [num, h2], by simp, fun h0 e => h3 h0 ?_, fun _ => rfl⟩
      simpa using e
    · obtain ⟨i1, i2, i3, i4, _⟩ := ih (n / 10) (by omega)
      obtain ⟨h1, h2, _⟩ := dig_byte (n % 10) (by omega)
      rw [Lib.decDigits, dif_neg h]
      obtain ⟨c, hc⟩ : ∃ c, c = UInt8.ofNat (48 + n % 10) := ⟨_, rfl⟩
      rw [← hc] at h1 h2 ⊢
      refine ⟨by rw [List.all_append, i1]; simp [h1], by rw [num_snoc, i2, h2]; omega, by simp, fun _ => ?_, fun h0 => by omega⟩
      rw [List.getElem?_append_left i3]
      exact i4 (by omega)
theorem bitLen_half {y : Nat} (h : y ≠ 0) : bitLen y = bitLen (y / 2) + 1 := by
  rw [bitLen, if_neg h, bitLen]
  by_cases h1 : y / 2 = 0
  · have : y = 1 := by omega
    subst this; rfl
  · rw [if_neg h1, Nat.log2_def y, if_pos (by omega)]
theorem bitLen_pos' {y : Nat} (h : y ≠ 0) : 0 < bitLen y := by rw [bitLen, if_neg h]; exact Nat.succ_pos _
theorem bitLen_le' {n k : Nat} (h : n < 2 ^ k) : bitLen n ≤ k := by
  by_cases h0 : n = 0
  · subst h0; exact Nat.zero_le _
  · rw [bitLen, if_neg h0]
    exact (Nat.log2_lt h0).2 h
theorem val_drop_at (q : List Nat) (m : Nat) (h : m < q.length) : val (q.drop m) = q[m] + B * val (q.drop (m + 1)) := by
  rw [List.drop_eq_getElem_cons h]; rfl
/-- What was written is read again. -/
theorem parse_dec {n : Nat} (h : n < B ^ 256) : parse (Lib.decDigits n) = (limbs n, 0) := by
  obtain ⟨h1, h2, h3, _⟩ := dec_spec n
  rw [parse, if_neg, h2, fits, if_neg]
  · have := limbs_len_le _ _ h; omega
  · rintro (e | e)
    · rw [e] at h3; simp at h3
    · rw [h1] at e; cases e
end Go.Proofs.YtlhahbniigjkkaaGreatDoor.Na

namespace Go.Proofs.YtlhahbniigjkkaaGreatDoor
set_option linter.all false
open Go.RowKit

theorem r7_digit_any (c : UInt8) (w : World) : Calls Tryz.prog 63 #[.int .u8 c.toNat] w (Ret0 (.bool (Dc.isDig c)) w) := by
  have h1 : (decide (48 ≤ (c.toNat : Int)) && decide ((c.toNat : Int) ≤ 57)) = Dc.isDig c := rfl
  have H1 := Lib.hid h1; clear h1
  by_cases h : 48 ≤ (c.toNat : Int)
  · go_enter Tryz.func63, Tryz.ntmps63
    go_wp2
    go_ret
    exact Ret0.of (by rw [← H1.out]; simp [h])
  · go_enter Tryz.func63, Tryz.ntmps63
    go_wp2
    go_ret
    exact Ret0.of (by rw [← H1.out, decide_eq_false (by omega)]; rfl)

set_option maxHeartbeats 400000 in
theorem r7_right_any (n : Bool) (s : ByteArray) (x : Int) (w : World) (hs : s.size ≤ 9223372036854775807) :
    Calls Tryz.prog 65 #[.agg #[.bool n, .string s, .int .i64 x]] w (RetB (.bool (Dc.right s.data.toList x)) w) := by
  have hb1 : Below w.heap.size w (w.alloc (Obj.cells #[Value.bool n, Value.string s, Value.int IntKind.i64 x] 25)) := (Below.refl _ _).alloc (Nat.le_refl _) _
  by_cases h0 : s.size = 0
  · have H0 := Lib.hid h0
    replace h0 : s.size ≤ 0 := by omega
    go_enter Tryz.func65, Tryz.ntmps65
    go_wp2_with fail
    go_ret
    exact RetB.of (congrArg Value.bool (Dc.right_nil _ _ (by simpa using H0.out)).symm) hb1
  · replace h0 : 0 < s.size := by omega
    by_cases hall : s.size ≤ 1100 ∧ -100000 ≤ x ∧ x ≤ 100000 ∧ ¬ (s[0].toNat : Int) = 48 ∧ ¬ (s[s.size - 1].toNat : Int) = 48
    · obtain ⟨n2, n3, n4, n0, n1⟩ := hall
      have b0 : ((s[0].toNat : Int) == 48) = false := by simpa using n0
      have b1 : ((s[s.size - 1].toNat : Int) == 48) = false := by simpa using n1
      go_enter Tryz.func65, Tryz.ntmps65
      go_wp2_with fail
      go_loop [4] (fun i => ∃ k : Nat, k ≤ s.size ∧ i = .int .i64 k ∧ (s.data.toList.take k).all Dc.isDig = true) (fun i => s.size - (intOf i).toNat)
      case atStart => exact ⟨0, Nat.zero_le _, rfl, rfl⟩
      case round =>
        obtain ⟨k, hk, rfl, hall⟩ := hrel
        have HA := Lib.hid hall; clear hall
        by_cases hlt : k < s.size
        · have hsn := Lib.hid (all_take_snoc s k hlt Dc.isDig)
          go_wp2_with (go_at_call 63; refine (r7_digit_any _ _).mono ?_; rintro e w' ⟨rfl, rfl⟩)
          · have hd : (!Dc.isDig s[k]) = true := by assumption
            go_ret
            exact RetB.of (congrArg Value.bool (Dc.right_bytes_nodig s x k hlt (by simpa using hd)).symm) hb1
          · have hd : (!Dc.isDig s[k]) = false := by assumption
            go_round
            case rel => exact ⟨k + 1, by omega, by go_num, by rw [hsn.out, HA.out]; simpa using hd⟩
            case measure => simp [intOf]; omega
        · go_wp2
          go_ret
          exact RetB.of (congrArg Value.bool (Dc.right_bytes_true s x h0 n2 n3 n4 n0 n1 (by have := HA.out; rwa [List.take_of_length_le (by simp; omega)] at this)).symm) hb1
    · have HN := Lib.hid hall; clear hall
      go_enter Tryz.func65, Tryz.ntmps65
      go_wp2_with fail
      all_goals first
        | (go_ret; exact RetB.of (congrArg Value.bool (Dc.right_bytes_false s x h0 (by first | omega | (simp only [beq_iff_eq] at *; omega))).symm) hb1)
        | (exfalso; have := HN.out; simp only [beq_eq_false_iff_ne, ne_eq] at *; omega)
end Go.Proofs.YtlhahbniigjkkaaGreatDoor

namespace Go.Proofs.YtlhahbniigjkkaaGreatDoor
set_option linter.all false
open Go.RowKit

theorem below_iter (w : World) (s : ByteArray) (pos : Nat) : Below w.heap.size w (w.iter s pos) := (Below.refl _ _).alloc (Nat.le_refl _) _

theorem all_take_snoc_false (s : ByteArray) (k : Nat) (h : k < s.size) (p : UInt8 → Bool) (hp : p s[k] = false) : s.data.toList.all p = false := by
  rw [List.all_eq_false]
  exact ⟨s[k], List.mem_of_getElem? (bs_getElem? s k h), by simp [hp]⟩

set_option maxRecDepth 100000 in
set_option maxHeartbeats 400000 in
theorem d_plain_any (s : ByteArray) (w : World) :
    Calls Tryz.prog 56 #[.string s] w (RetB (.bool (Dc.allDig s.data.toList)) w) := by
  obtain ⟨res, hres⟩ : ∃ b, b = Dc.allDig s.data.toList := ⟨_, rfl⟩
  rw [← hres]; have HR := Lib.hid hres; clear hres
  go_enter Tryz.func56, Tryz.ntmps56
  go_wp2_with fail
  go_loopw [] (fun wr => ∃ pos : Nat, pos ≤ s.size ∧ wr = w.iter s pos ∧ (s.data.toList.take pos).all Dc.isDig = true) (fun wr => s.size - wr.iterPos w.heap.size)
  case atStart => exact ⟨0, Nat.zero_le _, rfl, rfl⟩
  case round =>
    obtain ⟨pos, hpos, rfl, hall⟩ := hrel
    have HA := Lib.hid hall; clear hall
    by_cases hp : pos < s.size
    · have hsn := Lib.hid (all_take_snoc s pos hp Dc.isDig)
      have hno : Dc.isDig s[pos] = false → false = res := fun h => by rw [HR.out]; exact (all_take_snoc_false s pos hp _ h).symm
      have HNO := Lib.hid hno; clear hno
      by_cases ha : (s[pos]'hp).toNat < 128
      · have hnx : ∀ ty, (Instr.next (.pointer (some ⟨w.heap.size, 0, none⟩)) true ty).run Tryz.prog (w.iter s pos) = _ := fun ty => run_next_ascii w s pos ty hp ha
        go_wp2
        · go_ret
          exact RetB.of (congrArg Value.bool (HNO.out (by simp [Dc.isDig]; omega))) (below_iter _ _ _)
        · go_roundw
          case rel => exact ⟨pos + 1, by omega, rfl, by rw [hsn.out, HA.out]; simp [Dc.isDig]; omega⟩
          case measure => simp; omega
        · go_ret
          exact RetB.of (congrArg Value.bool (HNO.out (by simp [Dc.isDig]; omega))) (below_iter _ _ _)
      · have hd := decode_high s pos hp (by omega)
        have hnx : ∀ ty, (Instr.next (.pointer (some ⟨w.heap.size, 0, none⟩)) true ty).run Tryz.prog (w.iter s pos) = _ := fun ty => run_next_any w s pos ty hp
        go_wp2
        all_goals go_ret
        all_goals exact RetB.of (congrArg Value.bool (HNO.out (by simp [Dc.isDig]; omega))) (below_iter _ _ _)
    · have hnx : ∀ ty, (Instr.next (.pointer (some ⟨w.heap.size, 0, none⟩)) true ty).run Tryz.prog (w.iter s pos) = _ := fun ty => run_next_end w s pos ty hp
      go_wp2
      go_ret
      exact RetB.of (congrArg Value.bool (by have h := HA.out; rw [List.take_of_length_le (by simp; omega)] at h; rw [HR.out]; exact h.symm)) (below_iter _ _ _)

theorem ba_toList (s : ByteArray) (l : Dc.Bs) (h : s.toList = l) : s.data.toList = l := by rw [← h, ByteArray.toList_eq]

set_option maxHeartbeats 400000 in
theorem d_right_any (n : Bool) (s : ByteArray) (x : Int) (w : World) (hs : s.size ≤ 9223372036854775807) :
    Calls Tryz.prog 21 #[.agg #[.bool n, .string s, .int .i64 x]] w (RetB (.bool (Dc.right s.data.toList x)) w) := by
  obtain ⟨res, hres⟩ : ∃ b, b = Dc.right s.data.toList x := ⟨_, rfl⟩
  rw [← hres]; have HR := Lib.hid hres; clear hres
  have hb1 : Below w.heap.size w (w.alloc (Obj.cells #[Value.bool n, Value.string s, Value.int IntKind.i64 x] 25)) := (Below.refl _ _).alloc (Nat.le_refl _) _
  by_cases h0 : s.size = 0
  · have he := isEmpty_of_zero h0
    have H0 := Lib.hid h0; clear h0
    go_enter Tryz.func21, Tryz.ntmps21
    go_wp2_with fail
    go_ret
    exact RetB.of (congrArg Value.bool (by rw [HR.out, Dc.right_nil _ _ (by simpa using H0.out)])) hb1
  · have h0' : 0 < s.size := by omega
    have he := isEmpty_of_pos h0'
    clear h0
    have hF : (1100 < s.size ∨ x < -100000 ∨ 100000 < x ∨ (s[0].toNat : Int) = 48 ∨ (s[s.size - 1].toNat : Int) = 48) → false = res := fun h => by rw [HR.out]; exact (Dc.right_bytes_false s x h0' h).symm
    have HF := Lib.hid hF; clear hF
    go_enter Tryz.func21, Tryz.ntmps21
    go_wp2_with (first
      | (go_at_call 56; refine (d_plain_any _ _).mono ?_; rintro e w1 ⟨rfl, hb2⟩; obtain ⟨hc, hf⟩ := bcell hb2)
      | (go_at_call 57; refine (Tryz.strings_HasSuffix _ _ _ hs).mono ?_; rintro e w' ⟨rfl, rfl⟩))
    all_goals go_ret
    · have hp : Dc.allDig s.data.toList = true := by assumption
      have hz : (s[0].toNat : Int) = 48 := by assumption
      exact RetB.of (congrArg Value.bool (HF.out (by omega))) (hb1.trans (hb2.mono (by simp)))
    · have hp : Dc.allDig s.data.toList = true := by assumption
      have hz : ¬ (s[0].toNat : Int) = 48 := by assumption
      refine RetB.of (congrArg Value.bool ?_) (hb1.trans (hb2.mono (by simp)))
      have hz' : ((s[0].toNat : Int) != 48) = true := by simpa using hz
      show (((s[0].toNat : Int) != 48) && !(Lib.hasSuffix s.data.toList [48])) = res
      rw [hz', Bool.true_and, Dc.hasSuffix_zero s h0']
      by_cases hl : (s[s.size - 1].toNat : Int) = 48
      · rw [decide_eq_true hl]; exact HF.out (by omega)
      · rw [decide_eq_false hl, HR.out, Dc.right_bytes_true s x h0' (by omega) (by omega) (by omega) hz hl hp]; rfl
    · have hp : ¬ Dc.allDig s.data.toList = true := by assumption
      refine RetB.of (congrArg Value.bool ?_) (hb1.trans (hb2.mono (by simp)))
      rw [HR.out, Dc.right_plain_false s x h0' (by simpa using hp)]
    all_goals exact RetB.of (congrArg Value.bool (HF.out (by omega))) hb1

theorem d_point_any (n : Bool) (s : ByteArray) (x : Int) (w : World) (hs : s.size ≤ 9223372036854775807) :
    Calls Tryz.prog 85 #[.agg #[.bool n, .string s, .int .i64 x]] w (RetB (.int .i64 (Dc.point s.data.toList x)) w) := by
  have hb1 : Below w.heap.size w (w.alloc (Obj.cells #[Value.bool n, Value.string s, Value.int IntKind.i64 x] 25)) := (Below.refl _ _).alloc (Nat.le_refl _) _
  obtain ⟨b, hr⟩ : ∃ b, b = Dc.right s.data.toList x := ⟨_, rfl⟩
  have hp := Dc.point_eq s x
  have HP := Lib.hid hp; clear hp
  have hd := d_right_any n s x (w.alloc (Obj.cells #[Value.bool n, Value.string s, Value.int IntKind.i64 x] 25)) hs
  rw [← hr] at hd
  have hx : b = true → -100000 ≤ x ∧ x ≤ 100000 ∧ s.size ≤ 1100 := fun h => by rw [hr] at h; exact ⟨(Dc.right_exp h).1, (Dc.right_exp h).2, by have := Dc.right_len h; simpa using this⟩
  cases b
  · have HD := Lib.hid hd; have HR := Lib.hid hr; clear hd hr
    go_enter Tryz.func85, Tryz.ntmps85
    go_wp2_with (first | (go_at_call 21; refine (HD.out).mono ?_; rintro e w1 ⟨rfl, hb2⟩; obtain ⟨hc, hf⟩ := bcell hb2))
    go_ret
    exact RetB.of (congrArg (Value.int .i64) (by rw [HP.out, ← HR.out]; rfl)) (hb1.trans (hb2.mono (by simp)))
  · have HD := Lib.hid hd; have HR := Lib.hid hr; clear hd hr
    have hx' := hx rfl; clear hx
    go_enter Tryz.func85, Tryz.ntmps85
    go_wp2_with (first | (go_at_call 21; refine (HD.out).mono ?_; rintro e w1 ⟨rfl, hb2⟩; obtain ⟨hc, hf⟩ := bcell hb2))
    go_ret
    exact RetB.of (congrArg (Value.int .i64) (by rw [HP.out, ← HR.out]; rfl)) (hb1.trans (hb2.mono (by simp)))
theorem r7_point_any (n : Bool) (s : ByteArray) (x : Int) (w : World) (hs : s.size ≤ 9223372036854775807) :
    Calls Tryz.prog 58 #[.agg #[.bool n, .string s, .int .i64 x]] w (RetB (.int .i64 (Dc.point s.data.toList x)) w) := by
  have hb1 : Below w.heap.size w (w.alloc (Obj.cells #[Value.bool n, Value.string s, Value.int IntKind.i64 x] 25)) := (Below.refl _ _).alloc (Nat.le_refl _) _
  obtain ⟨b, hr⟩ : ∃ b, b = Dc.right s.data.toList x := ⟨_, rfl⟩
  have hp := Dc.point_eq s x
  have HP := Lib.hid hp; clear hp
  have hd := r7_right_any n s x (w.alloc (Obj.cells #[Value.bool n, Value.string s, Value.int IntKind.i64 x] 25)) hs
  rw [← hr] at hd
  have hx : b = true → -100000 ≤ x ∧ x ≤ 100000 ∧ s.size ≤ 1100 := fun h => by rw [hr] at h; exact ⟨(Dc.right_exp h).1, (Dc.right_exp h).2, by have := Dc.right_len h; simpa using this⟩
  cases b
  · have HD := Lib.hid hd; have HR := Lib.hid hr; clear hd hr
    go_enter Tryz.func58, Tryz.ntmps58
    go_wp2_with (first | (go_at_call 65; refine (HD.out).mono ?_; rintro e w1 ⟨rfl, hb2⟩; obtain ⟨hc, hf⟩ := bcell hb2))
    go_ret
    exact RetB.of (congrArg (Value.int .i64) (by rw [HP.out, ← HR.out]; rfl)) (hb1.trans (hb2.mono (by simp)))
  · have HD := Lib.hid hd; have HR := Lib.hid hr; clear hd hr
    have hx' := hx rfl; clear hx
    go_enter Tryz.func58, Tryz.ntmps58
    go_wp2_with (first | (go_at_call 65; refine (HD.out).mono ?_; rintro e w1 ⟨rfl, hb2⟩; obtain ⟨hc, hf⟩ := bcell hb2))
    go_ret
    exact RetB.of (congrArg (Value.int .i64) (by rw [HP.out, ← HR.out]; rfl)) (hb1.trans (hb2.mono (by simp)))
end Go.Proofs.YtlhahbniigjkkaaGreatDoor
