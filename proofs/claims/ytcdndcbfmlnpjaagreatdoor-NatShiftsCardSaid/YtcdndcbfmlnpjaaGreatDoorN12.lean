/- shift. -/
import Derived.Test.YtcdndcbfmlnpjaaGreatDoorN11
import Derived.Test.YtcdndcbfmlnpjaaGreatDoorNe
namespace Go.Proofs.YtcdndcbfmlnpjaaGreatDoor
set_option linter.all false
open Go.RowKit

def shiftLoop (N s g off : Nat) (O q : List Nat) (w : World) (cv iv : Value) (wr : World) : Prop := ∃ (k c : Nat) (o : List Nat), k ≤ N ∧ iv = .int .i64 k ∧ cv = .int .u64 c ∧ Hid (c < 2 ^ s) ∧ Hid (Blk wr g o) ∧ Hid (o.length = off + N) ∧ Hid (Na.OK o) ∧ Hid (o.take off = O.take off) ∧
  Hid (Na.val ((o.drop off).take k) + Na.B ^ k * c = Na.val (q.take k) * 2 ^ s) ∧ Hid (Below g w wr)

set_option maxHeartbeats 2000000 in
theorem na_shift_any (g off N c s ca : Nat) (O q : List Nat) (a : Option Addr) (w : World) (hb : Blk w g O) (hok : Na.OK O) (hl : O.length = off + N) (hs : ∀ wr, Below g w wr → Sl wr a ca q) (hs2 : s < 32) (hq : q.length ≤ 1000000) (hN : off + N ≤ 1000000) :
    Calls Tryz.prog 52 #[.slice (some ⟨g, off, none⟩) N c, .slice a q.length ca, .int .i64 s] w (fun e w' => e = .returned (.tuple #[]) ∧ Below g w w' ∧ ∃ o', Blk w' g o' ∧ o'.length = off + N ∧ Na.OK o' ∧ o'.take off = O.take off ∧ ∃ cc, Na.val (o'.drop off) + Na.B ^ N * cc = Na.val (q.take N) * 2 ^ s) := by
  have HB0 := Lib.hid hb; have HO0 := Lib.hid hok; have HL0 := Lib.hid hl; have HS := Lib.hid hs
  clear hb hok hl hs
  go_enter Tryz.func52, Tryz.ntmps52
  go_wp2_with fail
  go_loopw [6, 10] (shiftLoop N s g off O q w) (fun _ i _ => N - (intOf i).toNat)
  case atStart => exact ⟨0, 0, O, Nat.zero_le _, rfl, rfl, Lib.hid (Nat.pow_pos (by decide)), HB0, HL0, HO0, Lib.hid rfl, Lib.hid (by simp [Na.val]), Lib.hid (Below.refl _ _)⟩
  case round =>
    clear HB0 HO0 HL0
    obtain ⟨k, cc, o, hk, rfl, rfl, HC, HBl, HOl, HOk, HTk, HInv, HBe⟩ := hrel
    by_cases hlt : k < N
    · have ho1 : off + k < o.length := by have := HOl.out; omega
      have co := HBl.out.cell (off + k) ho1
      have fo := HBl.out.frozen (off + k)
      by_cases hlq : k < q.length
      · obtain ⟨b1, o1, rfl, hb1, hc1⟩ := (HS.out wr HBe.out).plain (by omega)
        have c1 := hc1 k hlq
        have hx := (HS.out wr HBe.out).lt k hlq
        have VQ := Lib.hid (Na.val_take_succ q k hlq)
        obtain ⟨x, hxe⟩ : ∃ x, q[k]'hlq = x := ⟨_, rfl⟩
        rw [hxe] at c1 hx VQ
        obtain ⟨hl1, hl2⟩ := Na.shift_lt cc x s hs2 HC.out hx
        have hor := Na.or_shift cc x s HC.out hl1
        have HST := Lib.hid (Na.shift_step o q off k cc x s ho1 HInv.out VQ.out)
        obtain ⟨t, ht⟩ : ∃ t, t = cc + x * 2 ^ s := ⟨_, rfl⟩
        rw [← ht] at hl1 hl2 hor HST
        have HL2 := Lib.hid hl2
        clear hc1 hxe ht hl2
        go_wp2_with fail
        go_roundw
        case rel => exact ⟨k + 1, t / 4294967296, o.set (off + k) (t % 4294967296), by omega, by go_num, by first | rfl | (rw [hor]; simp) | go_num, HL2, Lib.hid (by have := HBl.out.set (off + k) (t % 4294967296); first | exact this | (rw [hor]; exact this)), Lib.hid (by rw [List.length_set]; exact HOl.out), Lib.hid (Na.ok_set HOk.out _ _ (by omega)), Lib.hid (by rw [List.take_set_of_le (by omega)]; exact HTk.out), HST, Lib.hid (by have hbe := HBe.out; (repeat (first | exact Below.refl _ _ | assumption | refine Below.setCell ?_ (by first | omega | (simp <;> omega)) _ | refine Below.alloc ?_ (by first | omega | (simp <;> omega)) _ | refine Below.drew ?_ | refine below_drewN' ?_ _)))⟩
        case measure => simp [intOf]; omega
      · have hl1 : cc < 4294967296 := Nat.lt_of_lt_of_le HC.out (Nat.le_trans (Nat.pow_le_pow_right (by decide) (show s ≤ 32 by omega)) (by decide))
        have HST := Lib.hid (Na.shift_step o q off k cc 0 s ho1 HInv.out (Na.take_more q k (by omega)))
        have e0 : cc + 0 * 2 ^ s = cc := by omega
        rw [e0] at HST
        have HL2 := Lib.hid (show cc / 4294967296 < 2 ^ s by rw [Nat.div_eq_of_lt hl1]; exact Nat.pow_pos (by decide))
        clear e0
        go_wp2_with fail
        go_roundw
        case rel => exact ⟨k + 1, cc / 4294967296, o.set (off + k) (cc % 4294967296), by omega, by go_num, by first | rfl | go_num, HL2, Lib.hid (by have := HBl.out.set (off + k) (cc % 4294967296); first | exact this | (rw [Nat.mod_eq_of_lt hl1] at this ⊢; exact this)), Lib.hid (by rw [List.length_set]; exact HOl.out), Lib.hid (Na.ok_set HOk.out _ _ (by omega)), Lib.hid (by rw [List.take_set_of_le (by omega)]; exact HTk.out), HST, Lib.hid (by have hbe := HBe.out; (repeat (first | exact Below.refl _ _ | assumption | refine Below.setCell ?_ (by first | omega | (simp <;> omega)) _ | refine Below.alloc ?_ (by first | omega | (simp <;> omega)) _ | refine Below.drew ?_ | refine below_drewN' ?_ _)))⟩
        case measure => simp [intOf]; omega
    · obtain rfl : k = N := by omega
      have HE := Lib.hid (show Na.val (o.drop off) + Na.B ^ k * cc = Na.val (q.take k) * 2 ^ s by
        have := HInv.out; rwa [List.take_of_length_le (by rw [List.length_drop, HOl.out]; omega)] at this)
      go_wp2_with fail
      refine bodyPost_end (results_none rfl _ _ _) rfl ?_
      exact ⟨rfl, HBe.out, o, HBl.out, HOl.out, HOk.out, HTk.out, cc, HE.out⟩
end Go.Proofs.YtcdndcbfmlnpjaaGreatDoor
