/- Trim, Of, Value, Len. -/
import Derived.Test.YtcdndcbfmlnpjaaGreatDoorN1
import Derived.Test.YtcdndcbfmlnpjaaGreatDoorShelf
namespace Go.Proofs.YtcdndcbfmlnpjaaGreatDoor
set_option linter.all false
open Go.RowKit

set_option maxHeartbeats 400000 in
theorem na_trim_any (a : Option Addr) (c : Nat) (l : List Nat) (w : World) (h : Sl w a c l) (hn : l.length ≤ 1000000) :
    Calls Tryz.prog 9 #[.slice a l.length c] w (GivesB (Na.cut l) w) := by
  have H1 := Lib.hid (na_right_any a c l w h hn)
  have h2 := (Na.rt_le h.ok).1
  have hr := Lib.hid (show Na.rt l = (Na.cut l).length from rfl)
  obtain ⟨i, hi, hz0, hz1, hz2⟩ := info_parts infoU32
  have HC := Lib.hid h.cut
  go_enter Tryz.func9, Tryz.ntmps9
  go_wp2_with (first | (go_at_call 37; (with_reducible refine (H1.out).mono ?_); rintro e w' ⟨rfl, rfl⟩) | (at_make; refine wpList_make_full _ rfl _ _ 26 rfl w.heap.size 63 i (.int .u32 0) 1 Tryz.underlying26 hi hz0 hz1 .i64 .i64 _ _ (Na.rt l) rfl rfl rfl rfl (by rw [hz2]; omega) (by unfold maxLen; omega) (Nat.le_refl _) ?_))
  intro w1 hown hgrow
  have hB1 : Below w.heap.size w w1 := (Below.refl _ _).grown hgrow (Nat.le_refl _) (fun k e => by cases e)
  have HK := Lib.hid (Blk.made hown)
  clear hown hgrow hz2 hz1 hz0 hi i
  go_wp2_with (first | (refine wpList_copy_splice rfl _ _ 26 26 rfl 63 Tryz.underlying26 (by kernel_rfl) _ _ _ _ _ _ rfl rfl w.heap.size 0 (u32s (List.replicate (Na.rt l) 0)) 63 HK.out (u32s (Na.cut l)) (by rw [u32s_len]; show _ = min _ _; have := hr.out; omega) (fun h0 => ⟨rfl, ((HC.out.on hB1).cells (by rwa [u32s_len] at h0))⟩) (by simp [u32s_len, hr.out]) (u32s_one _) w.heap.size w hB1 (Nat.le_refl _) ?_))
  intro w2 hg2 hB2
  go_wp2_with fail
  go_ret
  refine ⟨w.heap.size, rfl, Nat.le_refl _, ?_, hB2⟩
  have := hg2.out
  rw [splice_all _ _ (by simp [u32s_len, hr.out])] at this
  exact this
end Go.Proofs.YtcdndcbfmlnpjaaGreatDoor
