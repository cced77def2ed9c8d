/- gives. -/
import Derived.Test.YtcdndcbfmlnpjaaDoorN23
namespace Go.Proofs.YtcdndcbfmlnpjaaDoor
set_option linter.all false
open Go.RowKit

def givesLoop (N off g : Nat) (O q : List Nat) (w : World) (cv iv : Value) (wr : World) : Prop := ∃ (k c : Nat) (o : List Nat), k ≤ N ∧ iv = .int .i64 k ∧ cv = .int .u32 c ∧ c ≤ 1 ∧ Hid (Blk wr g o) ∧ Hid (o.length = O.length) ∧ Hid (Na.OK o) ∧
  Hid (o.take off = O.take off) ∧ Hid (o.drop (off + k) = O.drop (off + k)) ∧ Hid (Na.val ((o.drop off).take k) + Na.B ^ k * c = Na.val ((O.drop off).take k) + Na.val (q.take k)) ∧ Hid (Onl g w wr)

def GivesR (N off g : Nat) (O q : List Nat) (w : World) (e : Ending) (w' : World) : Prop := e = .returned (.tuple #[]) ∧ Onl g w w' ∧ ∃ o c, Blk w' g o ∧ o.length = O.length ∧ Na.OK o ∧ o.take off = O.take off ∧ o.drop (off + N) = O.drop (off + N) ∧
  Na.val ((o.drop off).take N) + Na.B ^ N * c = Na.val ((O.drop off).take N) + Na.val q

set_option maxHeartbeats 2000000 in
theorem na_gives_any (g gv off N c ca : Nat) (O q : List Nat) (w : World) (hb : Blk w g O) (hok : Na.OK O) (hl : off + N ≤ O.length) (hv : Blk w gv q) (hvk : Na.OK q) (hne : gv ≠ g) (hqN : q.length ≤ N) (hN : off + N ≤ 1000000) :
    Calls Tryd.prog 41 #[.slice (some ⟨g, off, none⟩) N c, .slice (some ⟨gv, 0, none⟩) q.length ca] w (GivesR N off g O q w) := by
  have HB0 := Lib.hid hb; have HO0 := Lib.hid hok; have HL0 := Lib.hid hl; have HV := Lib.hid hv; have HVK := Lib.hid hvk; have HNE := Lib.hid hne
  clear hb hok hl hv hvk hne
  go_enter Tryd.func41, Tryd.ntmps41
  go_wp2_with fail
  go_loopw [4, 9] (givesLoop N off g O q w) (fun _ i _ => N - (intOf i).toNat)
  case atStart => exact ⟨0, 0, O, Nat.zero_le _, rfl, rfl, by omega, HB0, Lib.hid rfl, HO0, Lib.hid rfl, Lib.hid rfl, Lib.hid (by simp [Na.val]), Lib.hid (Onl.refl _ _)⟩
  case round =>
    obtain ⟨k, cc, o, hk, rfl, rfl, hcc, HBl, HOl, HOk, HTk, HDr, HInv, HBe⟩ := hrel
    by_cases hlt : k < N
    · have hO1 : off + k < O.length := by have := HL0.out; omega
      have ho1 : off + k < o.length := by rw [HOl.out]; exact hO1
      have co := HBl.out.cell (off + k) ho1
      have fo := HBl.out.frozen (off + k)
      have hxl : O[off + k]'hO1 < 4294967296 := HO0.out _ (List.getElem_mem hO1)
      have VO := Lib.hid (show Na.val ((O.drop off).take (k + 1)) = Na.val ((O.drop off).take k) + Na.B ^ k * O[off + k]'hO1 by
        rw [Na.val_take_succ _ k (by rw [List.length_drop]; omega), List.getElem_drop])
      obtain ⟨x, hxe⟩ : ∃ x, O[off + k]'hO1 = x := ⟨_, rfl⟩
      rw [Na.drop_get HDr.out (Nat.le_refl _) ho1 hO1] at co
      rw [hxe] at co hxl VO
      clear hxe
      have hod : k < (o.drop off).length := by rw [List.length_drop]; omega
      by_cases hlq : k < q.length
      · have hv2 := HV.out.onl HBe.out HNE.out
        have c1 := hv2.cell k hlq
        have hyl : q[k]'hlq < 4294967296 := HVK.out _ (List.getElem_mem hlq)
        have VQ := Lib.hid (Na.val_take_succ q k hlq)
        obtain ⟨y, hye⟩ : ∃ x, q[k]'hlq = x := ⟨_, rfl⟩
        rw [hye] at c1 hyl VQ
        have HA32 := Lib.hid (add32_any x y cc hxl hyl (by omega) wr)
        have hs := Na.add_step (o.drop off) (O.drop off) q k x y cc hod HInv.out VO.out VQ.out
        rw [← Na.drop_set] at hs
        have HS := Lib.hid hs
        have hcc2 : (x + y + cc) / 4294967296 ≤ 1 := by omega
        have hvl : (x + y + cc) % 4294967296 < 4294967296 := Nat.mod_lt _ (by decide)
        obtain ⟨v, hv⟩ : ∃ v, v = (x + y + cc) % 4294967296 := ⟨_, rfl⟩
        obtain ⟨cn, hcn⟩ : ∃ v, v = (x + y + cc) / 4294967296 := ⟨_, rfl⟩
        rw [← hv, ← hcn] at HS HA32
        rw [← hcn] at hcc2
        rw [← hv] at hvl
        clear hv hcn hye hv2 hs hod
        go_wp2_with (first | (go_at_call 26; (with_reducible refine (HA32.out).mono ?_); rintro e w' ⟨rfl, rfl⟩))
        go_roundw
        case rel => exact ⟨k + 1, cn, o.set (off + k) v, by omega, by go_num, rfl, hcc2, Lib.hid (HBl.out.set _ _), Lib.hid (by rw [List.length_set]; exact HOl.out), Lib.hid (Na.ok_set HOk.out _ _ hvl), Lib.hid (by rw [List.take_set_of_le (by omega)]; exact HTk.out), Lib.hid (Na.drop_set_more HDr.out), HS, Lib.hid (HBe.out.setCell _ _)⟩
        case measure => simp [intOf]; omega
      · have VQ := Lib.hid (Na.take_more q k (by omega))
        have HA32 := Lib.hid (show Calls Tryd.prog 26 #[.int .u32 x, .int .u32 0, .int .u32 cc] wr _ from add32_any x 0 cc hxl (by omega) (by omega) wr)
        have hs := Na.add_step (o.drop off) (O.drop off) q k x 0 cc hod HInv.out VO.out VQ.out
        rw [← Na.drop_set] at hs
        have HS := Lib.hid hs
        have hcc2 : (x + 0 + cc) / 4294967296 ≤ 1 := by omega
        have hvl : (x + 0 + cc) % 4294967296 < 4294967296 := Nat.mod_lt _ (by decide)
        obtain ⟨v, hv⟩ : ∃ v, v = (x + 0 + cc) % 4294967296 := ⟨_, rfl⟩
        obtain ⟨cn, hcn⟩ : ∃ v, v = (x + 0 + cc) / 4294967296 := ⟨_, rfl⟩
        rw [← hv, ← hcn] at HS HA32
        rw [← hcn] at hcc2
        rw [← hv] at hvl
        clear hv hcn hs hod
        go_wp2_with (first | (go_at_call 26; (with_reducible refine (HA32.out).mono ?_); rintro e w' ⟨rfl, rfl⟩))
        go_roundw
        case rel => exact ⟨k + 1, cn, o.set (off + k) v, by omega, by go_num, rfl, hcc2, Lib.hid (HBl.out.set _ _), Lib.hid (by rw [List.length_set]; exact HOl.out), Lib.hid (Na.ok_set HOk.out _ _ hvl), Lib.hid (by rw [List.take_set_of_le (by omega)]; exact HTk.out), Lib.hid (Na.drop_set_more HDr.out), HS, Lib.hid (HBe.out.setCell _ _)⟩
        case measure => simp [intOf]; omega
    · obtain rfl : k = N := by omega
      have HE := Lib.hid (show Na.val ((o.drop off).take k) + Na.B ^ k * cc = Na.val ((O.drop off).take k) + Na.val q by
        have h1 := HInv.out
        rwa [List.take_of_length_le (l := q) (by omega)] at h1)
      go_wp2_with fail
      refine bodyPost_end (results_none rfl _ _ _) rfl ?_
      exact ⟨rfl, HBe.out, o, cc, HBl.out, HOl.out, HOk.out, HTk.out, HDr.out, HE.out⟩
end Go.Proofs.YtcdndcbfmlnpjaaDoor
