/- What is cut off the front of a text, by the program: letters, digits. -/
import Derived.Test.YtbbeeglfgnabmaaDoorT55
import Derived.Test.YtbbeeglfgnabmaaDoorTrim
namespace Go.Proofs.YtbbeeglfgnabmaaDoor
set_option linter.all false
open Go.RowKit

theorem ba_id (s : ByteArray) : (⟨s.data.toList.toArray⟩ : ByteArray) = s := by simp
theorem letN_hi (x : Nat) (h : 128 ≤ x) : letN x = false := by unfold letN; simp; omega
theorem digN_hi (x : Nat) (h : 128 ≤ x) : digN x = false := by unfold digN; simp; omega

theorem cut_pieces (q : Nat → Bool) (hq : ∀ x, 128 ≤ x → q x = false) (s R : ByteArray) (hR : R = Lib.trimLeftF q s) : R.data.toList = s.data.toList.dropWhile (fun c => q c.toNat) ∧ R.size ≤ s.size ∧
    (s.extract 0 (s.size - R.size)).data.toList = s.data.toList.takeWhile (fun c => q c.toNat) := by
  have h1 : R.data.toList = s.data.toList.dropWhile (fun c => q c.toNat) := by rw [hR]; exact trimLeft_ascii q hq s
  have h2 := List.takeWhile_append_dropWhile (p := fun c : UInt8 => q c.toNat) (l := s.data.toList)
  have h3 := congrArg List.length h2
  rw [List.length_append, ← h1, bs_length, bs_length] at h3
  refine ⟨h1, by omega, ?_⟩
  rw [Lib.extract_data, List.drop_zero, Nat.sub_zero, show s.size - R.size = (s.data.toList.takeWhile (fun c => q c.toNat)).length by omega]
  exact take_tw _ _

set_option maxHeartbeats 1000000 in
theorem ce_cut_with (q : Nat → Bool) (hq : ∀ x, 128 ≤ x → q x = false) (f : Nat) (ef : ∀ args w, (callFunc f args).run Tryd.prog w = .ok (.enter f args) w) (hf : ∀ x w, Calls Tryd.prog f #[.int .i32 (x : Nat)] w (Ret0 (.bool (q x)) w))
    (s : ByteArray) (w : World) (hs : s.size ≤ 9223372036854775807) :
    Calls Tryd.prog 32 #[.string s, .func (.func f) #[] #[]] w (RetB (.tuple #[.string ⟨(s.data.toList.takeWhile (fun c => q c.toNat)).toArray⟩, .string ⟨(s.data.toList.dropWhile (fun c => q c.toNat)).toArray⟩]) w) := by
  have ht := fun W => Tryd.strings_TrimLeftFunc f #[] ef q s W (fun W' x _ => (hf x W').mono fun e w' ⟨h1, h2⟩ => ⟨h1, 0, by rw [← h2]; rfl⟩)
  obtain ⟨R, hR⟩ : ∃ R, R = Lib.trimLeftF q s := ⟨_, rfl⟩
  rw [← hR] at ht
  obtain ⟨c1, c2, c3⟩ := cut_pieces q hq s R hR
  rw [← c1, ← c3]
  have e1 := ba_id R
  have e2 := ba_id (s.extract 0 (s.size - R.size))
  rw [e1, e2]
  obtain ⟨H, hH⟩ : ∃ H, H = s.extract 0 (s.size - R.size) := ⟨_, rfl⟩
  rw [← hH]
  have hsl : ∀ w : World, (Instr.slice 9 (.string s) none (some (.int .i64 ((s.size : Int) - R.size))) none).run Tryd.prog w = .ok (.string H) w := fun w => by
    rw [run_slice_string_to_if w _ s .i64 _ Tryd.underlying9, if_pos (by omega), hH]
    congr 3; omega
  have HT := Lib.hid ht
  clear ht hR c1 c3 e1 e2 hH hf
  go_enter Tryd.func32, Tryd.ntmps32
  go_wp2_with (go_at_call 46; (with_reducible refine (HT.out _).mono ?_); rintro e w1 ⟨rfl, hb_w1⟩)
  go_ret2
  exact RetB.of rfl (by (repeat (first | exact Below.refl _ _ | assumption | refine Below.setCell ?_ (by first | omega | (simp <;> omega)) _ | refine Below.alloc ?_ (by first | omega | (simp <;> omega)) _ | refine Below.drew ?_ | refine below_drewN' ?_ _)))

theorem ce_cutl_any (s : ByteArray) (w : World) (hs : s.size ≤ 9223372036854775807) :
    Calls Tryd.prog 32 #[.string s, .func (.func 33) #[] #[]] w (RetB (.tuple #[.string ⟨(s.data.toList.takeWhile Ce.isLet).toArray⟩, .string ⟨(s.data.toList.dropWhile Ce.isLet).toArray⟩]) w) :=
  ce_cut_with letN letN_hi 33 (enters_of Tryd.func33 (by kernel_rfl) rfl) (fun x w => ce_letter_any x w) s w hs
theorem ce_cutd_any (s : ByteArray) (w : World) (hs : s.size ≤ 9223372036854775807) :
    Calls Tryd.prog 32 #[.string s, .func (.func 34) #[] #[]] w (RetB (.tuple #[.string ⟨(s.data.toList.takeWhile Dc.isDig).toArray⟩, .string ⟨(s.data.toList.dropWhile Dc.isDig).toArray⟩]) w) :=
  ce_cut_with digN digN_hi 34 (enters_of Tryd.func34 (by kernel_rfl) rfl) (fun x w => ce_digit_any x w) s w hs
end Go.Proofs.YtbbeeglfgnabmaaDoor
