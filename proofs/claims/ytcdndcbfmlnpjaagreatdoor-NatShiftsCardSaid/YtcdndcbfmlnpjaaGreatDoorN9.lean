/- short. -/
import Derived.Test.YtcdndcbfmlnpjaaGreatDoorN8
import Derived.Test.YtcdndcbfmlnpjaaGreatDoorNd
import Derived.BigRegion
namespace Go.Proofs.YtcdndcbfmlnpjaaGreatDoor
set_option linter.all false
open Go.RowKit

def shortLoop (N d n g L : Nat) (w : World) (rv iv : Value) (wr : World) : Prop := ∃ (j r : Nat) (o : List Nat), j ≤ n ∧ iv = .int .i64 j ∧ rv = .int .u64 r ∧ r < d ∧ Hid (Blk wr g o) ∧ Hid (o.length = L) ∧ Hid (Na.OK o) ∧
  Hid (N + d * Na.val (o.take (n - j)) = Na.val (o.take (n - j)) + Na.B ^ (n - j) * r + d * Na.val (o.take n)) ∧ Hid (Below g w wr)

set_option maxHeartbeats 1000000 in
theorem na_short_any (g n c d : Nat) (o : List Nat) (w : World) (hb : Blk w g o) (hok : Na.OK o) (hn : n ≤ o.length) (hn2 : n ≤ 1000000) (hd0 : 0 < d) (hd : d < 4294967296) :
    Calls Tryz.prog 49 #[.slice (some ⟨g, 0, none⟩) n c, .int .u32 d] w (fun e w' => e = .returned (.int .u32 (Na.val (o.take n) % d : Nat)) ∧ Below g w w' ∧ ∃ o', Blk w' g o' ∧ o'.length = o.length ∧ Na.OK o' ∧ Na.val (o'.take n) = Na.val (o.take n) / d) := by
  obtain ⟨N, hN⟩ : ∃ N, N = Na.val (o.take n) := ⟨_, rfl⟩
  obtain ⟨L, hL⟩ : ∃ L, L = o.length := ⟨_, rfl⟩
  rw [← hN, ← hL]
  have HI := Lib.hid (show N + d * Na.val (o.take n) = Na.val (o.take n) + Na.B ^ n * 0 + d * Na.val (o.take n) by rw [hN]; simp)
  have HB0 := Lib.hid hb
  have HO0 := Lib.hid hok
  have HL := Lib.hid hL
  have HNL := Lib.hid (hL ▸ hn)
  clear hN hL hb hok hn
  go_enter Tryz.func49, Tryz.ntmps49
  go_wp2_with fail
  go_loopw [5, 11] (shortLoop N d n g L w) (fun _ i _ => n - (intOf i).toNat)
  case atStart => exact ⟨0, 0, o, Nat.zero_le _, rfl, rfl, hd0, HB0, Lib.hid HL.out.symm, HO0, HI, Lib.hid (Below.refl _ _)⟩
  case round =>
    clear HI HB0 HO0 HL
    obtain ⟨j, r, o2, hj, rfl, rfl, hr, HBl, HOl, HOk, HInv, HBe⟩ := hrel
    by_cases hlt : j < n
    · obtain ⟨t, rfl⟩ : ∃ t, n = j + 1 + t := ⟨n - (j + 1), by omega⟩
      have e1 : j + 1 + t - j = t + 1 := by omega
      have e2 : j + 1 + t - (j + 1) = t := by omega
      have ho1 : t < o2.length := by have := HOl.out; have := HNL.out; omega
      have co := HBl.out.cell t ho1
      have fo := HBl.out.frozen t
      have hz : o2[t] < 4294967296 := HOk.out _ (List.getElem_mem ho1)
      obtain ⟨z, hze⟩ : ∃ x, o2[t]'ho1 = x := ⟨_, rfl⟩
      rw [hze] at co hz
      have HS := Lib.hid (Na.short_step N d o2 (j + 1 + t) t r z (by omega) ho1 hze (by rw [← e1]; exact HInv.out))
      have hs1 := Na.short_lt r z d hr hz
      have hs2 : (r * 4294967296 + z) % d < d := Nat.mod_lt _ hd0
      have hor := Na.or_limb r z (by omega) hz
      have hs3 : r * 4294967296 + z < 18446744073709551616 := by omega
      obtain ⟨s, hs⟩ : ∃ s, s = r * 4294967296 + z := ⟨_, rfl⟩
      rw [← hs] at HS hs1 hs2 hor hs3
      have E2 := Lib.hid e2
      have hor' : bits BinOp.or IntKind.u64 ((r : Int) * 4294967296) (z : Int) = (s : Int) := by rw [← hor]; simp
      have hdz : ((d : Int) == 0) = false := by simp; omega
      obtain ⟨v, hv⟩ : ∃ v, v = s / d := ⟨_, rfl⟩
      obtain ⟨r2, hr2⟩ : ∃ v, v = s % d := ⟨_, rfl⟩
      rw [← hv, ← hr2] at HS
      rw [← hv] at hs1
      rw [← hr2] at hs2
      have hvi : (s : Int) / (d : Int) = (v : Int) := by rw [hv]; simp
      have hri : (s : Int) % (d : Int) = (r2 : Int) := by rw [hr2]; simp
      clear hze hs hor e1 e2 hv hr2
      go_wp2_with fail
      go_region
      go_wp2_with fail
      go_roundw
      case rel => exact ⟨j + 1, r2, o2.set t v, by omega, by go_num, by rw [hri], hs2, Lib.hid (HBl.out.set _ _ : Blk _ _ _), Lib.hid (by rw [List.length_set]; exact HOl.out), Lib.hid (Na.ok_set HOk.out _ _ hs1), Lib.hid (by rw [E2.out]; exact HS.out), Lib.hid (by have hbe := HBe.out; (repeat (first | exact Below.refl _ _ | assumption | refine Below.setCell ?_ (by first | omega | (simp <;> omega)) _ | refine Below.alloc ?_ (by first | omega | (simp <;> omega)) _ | refine Below.drew ?_ | refine below_drewN' ?_ _)))⟩
      case measure => simp [intOf]; omega
    · obtain rfl : j = n := by omega
      have HE := Lib.hid (Na.short_end N d (Na.val (o2.take j)) r hr (by have := HInv.out; simpa [Na.val] using this))
      go_wp2_with fail
      go_ret
      exact ⟨by rw [← HE.out.2]; rfl, HBe.out, o2, HBl.out, HOl.out, HOk.out, HE.out.1⟩
end Go.Proofs.YtcdndcbfmlnpjaaGreatDoor
