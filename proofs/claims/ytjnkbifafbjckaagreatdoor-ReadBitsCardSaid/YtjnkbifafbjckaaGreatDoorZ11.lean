/- gives. -/
import Derived.Test.YtjnkbifafbjckaaGreatDoorZ10
namespace Go.Proofs.YtjnkbifafbjckaaGreatDoor
set_option linter.all false
open Go.RowKit

def givesLoop (N off g : Nat) (O q : List Nat) (w : World) (cv iv : Value) (wr : World) : Prop := ∃ (k c : Nat) (o : List Nat), k ≤ N ∧ iv = .int .i64 k ∧ cv = .int .u32 c ∧ c ≤ 1 ∧ Hid (Blk wr g o) ∧ Hid (o.length = O.length) ∧ Hid (Na.OK o) ∧
  Hid (o.take off = O.take off) ∧ Hid (o.drop (off + k) = O.drop (off + k)) ∧ Hid (Na.val ((o.drop off).take k) + Na.B ^ k * c = Na.val ((O.drop off).take k) + Na.val (q.take k)) ∧ Hid (Onl g w wr)

def GivesR (N off g : Nat) (O q : List Nat) (w : World) (e : Ending) (w' : World) : Prop := e = .returned (.tuple #[]) ∧ Onl g w w' ∧ ∃ o c, Blk w' g o ∧ o.length = O.length ∧ Na.OK o ∧ o.take off = O.take off ∧ o.drop (off + N) = O.drop (off + N) ∧
  Na.val ((o.drop off).take N) + Na.B ^ N * c = Na.val ((O.drop off).take N) + Na.val q

set_option maxHeartbeats 2000000 in
theorem na_gives_any (g gv off N c ca : Nat) (O q : List Nat) (w : World) (hb : Blk w g O) (hok : Na.OK O) (hl : off + N ≤ O.length) (hv : Blk w gv q) (hvk : Na.OK q) (hne : gv ≠ g) (hqN : q.length ≤ N) (hN : off + N ≤ 1000000) :
    Calls Tryz.prog 241 #[.slice (some ⟨g, off, none⟩) N c, .slice (some ⟨gv, 0, none⟩) q.length ca] w (GivesR N off g O q w) := by
  have HB0 := Lib.hid hb; have HO0 := Lib.hid hok; have HL0 := Lib.hid hl; have HV := Lib.hid hv; have HVK := Lib.hid hvk; have HNE := Lib.hid hne
  clear hb hok hl hv hvk hne
  go_enter Tryz.func241, Tryz.ntmps241
  go_wp2_with fail
  go_loopw [4, 9] (givesLoop N off g O q w) (fun _ i _ => N - (intOf i).toNat)
  case atStart => exact ⟨0, 0, O, Nat.zero_le _, rfl, rfl, by omega, HB0, Lib.hid rfl, HO0, Lib.hid rfl, Lib.hid rfl, Lib.hid (by simp [Na.val]), Lib.hid (Onl.refl _ _)⟩
  case round =>
    obtain ⟨k, cc, o, hk, rfl, rfl, hcc, HBl, HOl, HOk, HTk, HDr, HInv, HBe⟩ := hrel
    by_cases hlt : k < N
    · have hO1 : off + k < O.length := by have := HL0.out; omega
      have ho1 : off + k < o.length := by rw [HOl.out]; exact hO1
      have co := HBl.out.cell (off + k) ho1
      have fo := HBl.out.frozen (off + k)
      have hxl : O[off + k]'hO1 < 4294967296 := HO0.out _ (List.getElem_mem hO1)
      have VO := Lib.hid (show Na.val ((O.drop off).take (k + 1)) = Na.val ((O.drop off).take k) + Na.B ^ k * O[off + k]'hO1 by
        rw [Na.val_take_succ _ k (by rw [List.length_drop]; omega), List.getElem_drop])
      obtain ⟨x, hxe⟩ : ∃ x, O[off + k]'hO1 = x := ⟨_, rfl⟩
      rw [Na.drop_get HDr.out (Nat.le_refl _) ho1 hO1] at co
      rw [hxe] at co hxl VO
      clear hxe
      have hod : k < (o.drop off).length := by rw [List.length_drop]; omega
      by_cases hlq : k < q.length
      · have hv2 := HV.out.onl HBe.out HNE.out
        have c1 := hv2.cell k hlq
        have hyl : q[k]'hlq < 4294967296 := HVK.out _ (List.getElem_mem hlq)
        have VQ := Lib.hid (Na.val_take_succ q k hlq)
        obtain ⟨y, hye⟩ : ∃ x, q[k]'hlq = x := ⟨_, rfl⟩
        rw [hye] at c1 hyl VQ
        have HA32 := Lib.hid (add32_any x y cc hxl hyl (by omega) wr)
        have hs := Na.add_step (o.drop off) (O.drop off) q k x y cc hod HInv.out VO.out VQ.out
        rw [← Na.drop_set] at hs
        have HS := Lib.hid hs
        have hcc2 : (x + y + cc) / 4294967296 ≤ 1 := by omega
        have hvl : (x + y + cc) % 4294967296 < 4294967296 := Nat.mod_lt _ (by decide)
        obtain ⟨v, hv⟩ : ∃ v, v = (x + y + cc) % 4294967296 := ⟨_, rfl⟩
        obtain ⟨cn, hcn⟩ : ∃ v, v = (x + y + cc) / 4294967296 := ⟨_, rfl⟩
        rw [← hv, ← hcn] at HS HA32
        rw [← hcn] at hcc2
        rw [← hv] at hvl
        clear hv hcn hye hv2 hs hod
        go_wp2_with (first | (go_at_call 143; (with_reducible refine (HA32.out).mono ?_); rintro e w' ⟨rfl, rfl⟩))
        go_roundw
        case rel => exact ⟨k + 1, cn, o.set (off + k) v, by omega, by go_num, rfl, hcc2, Lib.hid (HBl.out.set _ _), Lib.hid (by rw [List.length_set]; exact HOl.out), Lib.hid (Na.ok_set HOk.out _ _ hvl), Lib.hid (by rw [List.take_set_of_le (by omega)]; exact HTk.out), Lib.hid (Na.drop_set_more HDr.out), HS, Lib.hid (HBe.out.setCell _ _)⟩
        case measure => simp [intOf]; omega
      · have VQ := Lib.hid (Na.take_more q k (by omega))
        have HA32 := Lib.hid (show Calls Tryz.prog 143 #[.int .u32 x, .int .u32 0, .int .u32 cc] wr _ from add32_any x 0 cc hxl (by omega) (by omega) wr)
        have hs := Na.add_step (o.drop off) (O.drop off) q k x 0 cc hod HInv.out VO.out VQ.out
        rw [← Na.drop_set] at hs
        have HS := Lib.hid hs
        have hcc2 : (x + 0 + cc) / 4294967296 ≤ 1 := by omega
        have hvl : (x + 0 + cc) % 4294967296 < 4294967296 := Nat.mod_lt _ (by decide)
        obtain ⟨v, hv⟩ : ∃ v, v = (x + 0 + cc) % 4294967296 := ⟨_, rfl⟩
        obtain ⟨cn, hcn⟩ : ∃ v, v = (x + 0 + cc) / 4294967296 := ⟨_, rfl⟩
        rw [← hv, ← hcn] at HS HA32
        rw [← hcn] at hcc2
        rw [← hv] at hvl
        clear hv hcn hs hod
        go_wp2_with (first | (go_at_call 143; (with_reducible refine (HA32.out).mono ?_); rintro e w' ⟨rfl, rfl⟩))
        go_roundw
        case rel => exact ⟨k + 1, cn, o.set (off + k) v, by omega, by go_num, rfl, hcc2, Lib.hid (HBl.out.set _ _), Lib.hid (by rw [List.length_set]; exact HOl.out), Lib.hid (Na.ok_set HOk.out _ _ hvl), Lib.hid (by rw [List.take_set_of_le (by omega)]; exact HTk.out), Lib.hid (Na.drop_set_more HDr.out), HS, Lib.hid (HBe.out.setCell _ _)⟩
        case measure => simp [intOf]; omega
    · obtain rfl : k = N := by omega
      have HE := Lib.hid (show Na.val ((o.drop off).take k) + Na.B ^ k * cc = Na.val ((O.drop off).take k) + Na.val q by
        have h1 := HInv.out
        rwa [List.take_of_length_le (l := q) (by omega)] at h1)
      go_wp2_with fail
      refine bodyPost_end (results_none rfl _ _ _) rfl ?_
      exact ⟨rfl, HBe.out, o, cc, HBl.out, HOl.out, HOk.out, HTk.out, HDr.out, HE.out⟩
end Go.Proofs.YtjnkbifafbjckaaGreatDoor

/- shift: only the one block turns. -/
namespace Go.Proofs.YtjnkbifafbjckaaGreatDoor
set_option linter.all false
open Go.RowKit

def shiftLoop2 (N s g off : Nat) (O q : List Nat) (w : World) (cv iv : Value) (wr : World) : Prop := ∃ (k c : Nat) (o : List Nat), k ≤ N ∧ iv = .int .i64 k ∧ cv = .int .u64 c ∧ Hid (c < 2 ^ s) ∧ Hid (Blk wr g o) ∧ Hid (o.length = off + N) ∧ Hid (Na.OK o) ∧ Hid (o.take off = O.take off) ∧
  Hid (Na.val ((o.drop off).take k) + Na.B ^ k * c = Na.val (q.take k) * 2 ^ s) ∧ Hid (Onl g w wr)

set_option maxHeartbeats 2000000 in
theorem na_shift_onl (g off N c s ca : Nat) (O q : List Nat) (a : Option Addr) (w : World) (hb : Blk w g O) (hok : Na.OK O) (hl : O.length = off + N) (hs : ∀ wr, Below g w wr → Sl wr a ca q) (hs2 : s < 32) (hq : q.length ≤ 1000000) (hN : off + N ≤ 1000000) :
    Calls Tryz.prog 141 #[.slice (some ⟨g, off, none⟩) N c, .slice a q.length ca, .int .i64 s] w (fun e w' => e = .returned (.tuple #[]) ∧ Onl g w w' ∧ ∃ o', Blk w' g o' ∧ o'.length = off + N ∧ Na.OK o' ∧ o'.take off = O.take off ∧ ∃ cc, Na.val (o'.drop off) + Na.B ^ N * cc = Na.val (q.take N) * 2 ^ s) := by
  have HB0 := Lib.hid hb; have HO0 := Lib.hid hok; have HL0 := Lib.hid hl; have HS := Lib.hid hs
  clear hb hok hl hs
  go_enter Tryz.func141, Tryz.ntmps141
  go_wp2_with fail
  go_loopw [6, 10] (shiftLoop2 N s g off O q w) (fun _ i _ => N - (intOf i).toNat)
  case atStart => exact ⟨0, 0, O, Nat.zero_le _, rfl, rfl, Lib.hid (Nat.pow_pos (by decide)), HB0, HL0, HO0, Lib.hid rfl, Lib.hid (by simp [Na.val]), Lib.hid (Onl.refl _ _)⟩
  case round =>
    clear HB0 HO0 HL0
    obtain ⟨k, cc, o, hk, rfl, rfl, HC, HBl, HOl, HOk, HTk, HInv, HBe⟩ := hrel
    by_cases hlt : k < N
    · have ho1 : off + k < o.length := by have := HOl.out; omega
      have co := HBl.out.cell (off + k) ho1
      have fo := HBl.out.frozen (off + k)
      by_cases hlq : k < q.length
      · obtain ⟨b1, o1, rfl, hb1, hc1⟩ := (HS.out wr HBe.out.below).plain (by omega)
        have c1 := hc1 k hlq
        have hx := (HS.out wr HBe.out.below).lt k hlq
        have VQ := Lib.hid (Na.val_take_succ q k hlq)
        obtain ⟨x, hxe⟩ : ∃ x, q[k]'hlq = x := ⟨_, rfl⟩
        rw [hxe] at c1 hx VQ
        obtain ⟨hl1, hl2⟩ := Na.shift_lt cc x s hs2 HC.out hx
        have hor := Na.or_shift cc x s HC.out hl1
        have HST := Lib.hid (Na.shift_step o q off k cc x s ho1 HInv.out VQ.out)
        obtain ⟨t, ht⟩ : ∃ t, t = cc + x * 2 ^ s := ⟨_, rfl⟩
        rw [← ht] at hl1 hl2 hor HST
        have HL2 := Lib.hid hl2
        clear hc1 hxe ht hl2
        go_wp2_with fail
        go_roundw
        case rel => exact ⟨k + 1, t / 4294967296, o.set (off + k) (t % 4294967296), by omega, by go_num, by first | rfl | (rw [hor]; simp) | go_num, HL2, Lib.hid (by have := HBl.out.set (off + k) (t % 4294967296); first | exact this | (rw [hor]; exact this)), Lib.hid (by rw [List.length_set]; exact HOl.out), Lib.hid (Na.ok_set HOk.out _ _ (by omega)), Lib.hid (by rw [List.take_set_of_le (by omega)]; exact HTk.out), HST, Lib.hid (HBe.out.setCell _ _)⟩
        case measure => simp [intOf]; omega
      · have hl1 : cc < 4294967296 := Nat.lt_of_lt_of_le HC.out (Nat.le_trans (Nat.pow_le_pow_right (by decide) (show s ≤ 32 by omega)) (by decide))
        have HST := Lib.hid (Na.shift_step o q off k cc 0 s ho1 HInv.out (Na.take_more q k (by omega)))
        have e0 : cc + 0 * 2 ^ s = cc := by omega
        rw [e0] at HST
        have HL2 := Lib.hid (show cc / 4294967296 < 2 ^ s by rw [Nat.div_eq_of_lt hl1]; exact Nat.pow_pos (by decide))
        clear e0
        go_wp2_with fail
        go_roundw
        case rel => exact ⟨k + 1, cc / 4294967296, o.set (off + k) (cc % 4294967296), by omega, by go_num, by first | rfl | go_num, HL2, Lib.hid (by have := HBl.out.set (off + k) (cc % 4294967296); first | exact this | (rw [Nat.mod_eq_of_lt hl1] at this ⊢; exact this)), Lib.hid (by rw [List.length_set]; exact HOl.out), Lib.hid (Na.ok_set HOk.out _ _ (by omega)), Lib.hid (by rw [List.take_set_of_le (by omega)]; exact HTk.out), HST, Lib.hid (HBe.out.setCell _ _)⟩
        case measure => simp [intOf]; omega
    · obtain rfl : k = N := by omega
      have HE := Lib.hid (show Na.val (o.drop off) + Na.B ^ k * cc = Na.val (q.take k) * 2 ^ s by
        have := HInv.out; rwa [List.take_of_length_le (by rw [List.length_drop, HOl.out]; omega)] at this)
      go_wp2_with fail
      refine bodyPost_end (results_none rfl _ _ _) rfl ?_
      exact ⟨rfl, HBe.out, o, HBl.out, HOl.out, HOk.out, HTk.out, cc, HE.out⟩
end Go.Proofs.YtjnkbifafbjckaaGreatDoor

/- Plain Lean: a step of long division, in lists. -/
namespace Go.Proofs.YtjnkbifafbjckaaGreatDoor.Na
set_option linter.all false
open Go

theorem val_drop_cons (U : List Nat) (j : Nat) (h : j < U.length) : val (U.drop j) = U[j] + B * val (U.drop (j + 1)) := by
  rw [List.drop_eq_getElem_cons h]; rfl
theorem drop_take_succ (U : List Nat) (j k : Nat) (h : j + k < U.length) : val ((U.drop j).take (k + 1)) = val ((U.drop j).take k) + B ^ k * U[j + k] := by
  rw [val_take_succ _ k (by rw [List.length_drop]; omega), List.getElem_drop]
theorem val_take_lt (U : List Nat) (h : OK U) (j k : Nat) : val ((U.drop j).take k) < B ^ k := by
  have h1 := val_lt ((U.drop j).take k) (ok_take (ok_drop h j) k)
  exact Nat.lt_of_lt_of_le h1 (Nat.pow_le_pow_right (by decide) (by rw [List.length_take]; omega))

/-- The number that a step divides: the divisor's limbs and one more. -/
theorem kn_of (U V : List Nat) (j n : Nat) (hU : OK U) (hV : OK V) (hVl : V.length = n + 2) (hj : j + n + 2 < U.length) (u0 u1 u2 v1 v2 : Nat) (e0 : U[j + n + 2]? = some u0) (e1 : U[j + n + 1]? = some u1) (e2 : U[j + n]? = some u2) (f1 : V[n + 1]? = some v1) (f2 : V[n]? = some v2) (hv : 0 < v1)
    (hlt : val (U.drop (j + 1)) < val V) :
    Kn (val ((U.drop j).take (n + 3))) (val V) (B ^ n) (u0 * B + u1) u2 (val ((U.drop j).take n)) v1 v2 (val (V.take n)) ∧ val (U.drop (j + n + 3)) = 0 := by
  obtain ⟨_, rfl⟩ := List.getElem?_eq_some_iff.1 e0
  obtain ⟨_, rfl⟩ := List.getElem?_eq_some_iff.1 e1
  obtain ⟨_, rfl⟩ := List.getElem?_eq_some_iff.1 e2
  obtain ⟨_, rfl⟩ := List.getElem?_eq_some_iff.1 f1
  obtain ⟨_, rfl⟩ := List.getElem?_eq_some_iff.1 f2
  have hX : val ((U.drop j).take (n + 3)) = ((U[j + n + 2] * B + U[j + n + 1]) * B + U[j + n]) * B ^ n + val ((U.drop j).take n) := by
    rw [drop_take_succ U j (n + 2) hj, drop_take_succ U j (n + 1) (by omega), drop_take_succ U j n (by omega)]
    simp only [show j + (n + 2) = j + n + 2 by omega, show j + (n + 1) = j + n + 1 by omega]
    rw [show B ^ (n + 2) = B ^ n * B * B by rw [Nat.pow_succ, Nat.pow_succ], show B ^ (n + 1) = B ^ n * B by rw [Nat.pow_succ]]
    simp only [Nat.add_mul, Nat.mul_add, Nat.mul_comm, Nat.mul_left_comm, Nat.mul_assoc]
    omega
  have hVe : val V = (V[n + 1] * B + V[n]) * B ^ n + val (V.take n) := by
    have h1 := val_take_succ V (n + 1) (by omega)
    rw [List.take_of_length_le (by omega), val_take_succ V n (by omega)] at h1
    rw [h1, Nat.pow_succ, Nat.add_mul, Nat.mul_assoc (B ^ n) B, Nat.mul_comm (B ^ n) (B * V[n + 1]), Nat.mul_comm (B ^ n) V[n], Nat.mul_comm B V[n + 1]]
    omega
  have hVlt : val V < B ^ (n + 2) := by have := val_lt V hV; rwa [hVl] at this
  have hall : val (U.drop j) < val V * B := by
    rw [val_drop_cons U j (by omega)]
    have h1 : U[j] < B := hU _ (List.getElem_mem _)
    have h2 := Nat.mul_le_mul_left B (show val (U.drop (j + 1)) + 1 ≤ val V from hlt)
    rw [Nat.mul_add, Nat.mul_one] at h2
    rw [Nat.mul_comm (val V)]
    omega
  have hsplit := val_take_drop (U.drop j) (n + 3) (by rw [List.length_drop]; omega)
  rw [List.drop_drop, show j + (n + 3) = j + n + 3 by omega] at hsplit
  have h0 : val (U.drop (j + n + 3)) = 0 := by
    rcases Nat.eq_zero_or_pos (val (U.drop (j + n + 3))) with h | h
    · exact h
    · exfalso
      have h1 := Nat.mul_le_mul_left (B ^ (n + 3)) h
      have h2 : val V * B ≤ B ^ (n + 3) := by rw [Nat.pow_succ B (n + 2)]; exact Nat.mul_le_mul_right B (Nat.le_of_lt hVlt)
      omega
  have hlow := val_take_lt V hV 0 n
  rw [List.drop_zero] at hlow
  have hXe : val (U.drop j) = val ((U.drop j).take (n + 3)) := by rw [h0, Nat.mul_zero, Nat.add_zero] at hsplit; exact hsplit
  exact ⟨⟨hX, hVe, val_take_lt U hU j n, hlow, hU _ (List.getElem_mem _), hV _ (List.getElem_mem _), hv, by rw [← hXe]; exact hall⟩, h0⟩

/-- What is left where a step's limbs are exchanged for their remainder. -/
theorem kn_next (U U' Q : List Nat) (j n X VV r q A : Nat) (hl : U'.length = U.length) (hj : j + n + 2 < U.length) (hjQ : j < Q.length) (ht : U'.take j = U.take j) (hd : U'.drop (j + n + 3) = U.drop (j + n + 3)) (h0 : val (U.drop (j + n + 3)) = 0)
    (hX : val ((U.drop j).take (n + 3)) = X) (hr : val ((U'.drop j).take (n + 3)) = r) (he : X = VV * q + r) (inv : val U + VV * (B ^ (j + 1) * val (Q.drop (j + 1))) = A) :
    val U' + VV * (B ^ j * val ((Q.set j q).drop j)) = A ∧ val (U'.drop j) = r := by
  have s1 := val_take_drop (U.drop j) (n + 3) (by rw [List.length_drop]; omega)
  have s2 := val_take_drop (U'.drop j) (n + 3) (by rw [List.length_drop]; omega)
  rw [List.drop_drop, show j + (n + 3) = j + n + 3 by omega, h0, Nat.mul_zero, Nat.add_zero, hX] at s1
  rw [List.drop_drop, show j + (n + 3) = j + n + 3 by omega, hd, h0, Nat.mul_zero, Nat.add_zero, hr] at s2
  refine ⟨?_, s2⟩
  have t1 := val_take_drop U j (by omega)
  have t2 := val_take_drop U' j (by omega)
  rw [s1] at t1
  rw [s2, ht] at t2
  have hQ : val ((Q.set j q).drop j) = q + B * val (Q.drop (j + 1)) := by
    rw [val_drop_cons _ j (by rw [List.length_set]; exact hjQ), List.getElem_set_self, List.drop_set, if_pos (by omega)]
  rw [hQ, t2, ← inv, t1, he]
  simp only [Nat.mul_add, Nat.pow_succ]
  rw [Nat.mul_assoc (B ^ j) B, Nat.mul_left_comm (B ^ j) VV q]
  omega
/-- The last step: quotient and remainder. -/
theorem kn_done (U Q VV a b s : Nat) (hb : VV = b * 2 ^ s) (hlt : U < VV) (h : U + VV * (1 * Q) = a * 2 ^ s) : Q = a / b ∧ U / 2 ^ s = a % b := by
  have hs : 0 < 2 ^ s := Nat.pow_pos (by decide)
  have hb0 : 0 < b := by
    rcases Nat.eq_zero_or_pos b with h | h
    · rw [h, Nat.zero_mul] at hb; omega
    · exact h
  rw [Nat.one_mul, hb] at h
  rw [hb] at hlt
  have h1 : U / 2 ^ s + b * Q = a := by
    have e : (U + b * 2 ^ s * Q) / 2 ^ s = a := by rw [h]; exact Nat.mul_div_cancel _ hs
    rw [Nat.mul_right_comm, Nat.add_mul_div_right _ _ hs] at e
    exact e
  have h2 : U / 2 ^ s < b := by rw [Nat.div_lt_iff_lt_mul hs]; exact hlt
  rw [← h1]
  constructor
  · rw [Nat.add_mul_div_left _ _ hb0, Nat.div_eq_of_lt h2]; omega
  · rw [Nat.add_mul_mod_self_left, Nat.mod_eq_of_lt h2]
theorem kn_first (U : List Nat) (k L N b s : Nat) (hl : k ≤ U.length) (hA : val U = L * 2 ^ s) (hL : L < B ^ (N + k)) (hb : B ^ N ≤ b) : val (U.drop k) < b * 2 ^ s := by
  have h1 := val_take_drop U k hl
  have hp : 0 < B ^ k := Nat.pow_pos (by decide)
  have h2 : B ^ k * val (U.drop k) < B ^ k * (b * 2 ^ s) := by
    have h3 : L * 2 ^ s < B ^ (N + k) * 2 ^ s := Nat.mul_lt_mul_of_pos_right hL (Nat.pow_pos (by decide))
    have h4 : B ^ (N + k) * 2 ^ s ≤ B ^ k * (b * 2 ^ s) := by
      rw [Nat.pow_add, Nat.mul_comm (B ^ N), Nat.mul_assoc]
      exact Nat.mul_le_mul_left _ (Nat.mul_le_mul_right _ hb)
    omega
  exact Nat.lt_of_mul_lt_mul_left h2
end Go.Proofs.YtjnkbifafbjckaaGreatDoor.Na
