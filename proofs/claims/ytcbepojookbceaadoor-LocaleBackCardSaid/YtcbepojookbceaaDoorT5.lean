import Derived.Test.YtcbepojookbceaaDoorT3
import Derived.Test.YtcbepojookbceaaDoorDec3
import Derived.Shelf.Strings.SlTrimAscii
import Derived.Deep.QuietTactic
import Derived.BigQuiet
namespace Go.Proofs.YtcbepojookbceaaDoor
set_option linter.all false
open Go.RowKit

theorem d_sign_any (n : Bool) (s : ByteArray) (x : Int) (w : World) :
    Calls Tryd.prog 64 #[.agg #[.bool n, .string s, .int .i64 x]] w (RetB (.int .i64 (if s.data.toList = [] then 0 else if n then -1 else 1)) w) := by
  have hb1 : Below w.heap.size w (w.alloc (Obj.cells #[Value.bool n, Value.string s, Value.int IntKind.i64 x] 36)) := (Below.refl _ _).alloc (Nat.le_refl _) _
  obtain ⟨r, hr⟩ : ∃ r : Int, r = if s.data.toList = [] then 0 else if n then -1 else 1 := ⟨_, rfl⟩
  rw [← hr]
  by_cases h0 : s.size = 0
  · have he := isEmpty_of_zero h0
    have hz : s.data.toList = [] := List.length_eq_zero_iff.1 (by simpa using h0)
    rw [if_pos hz] at hr
    have HR := Lib.hid hr; clear hr h0 hz
    go_enter Tryd.func64, Tryd.ntmps64
    go_wp2
    go_ret
    exact RetB.of (congrArg _ HR.out.symm) hb1
  · have he := isEmpty_of_pos (by omega : 0 < s.size)
    have hz : s.data.toList ≠ [] := fun e => h0 (by have := congrArg List.length e; simpa using this)
    rw [if_neg hz] at hr
    have HR := Lib.hid hr; clear hr h0 hz
    cases n
    all_goals (
      go_enter Tryd.func64, Tryd.ntmps64
      go_wp2
      go_ret
      exact RetB.of (congrArg _ HR.out.symm) hb1)

set_option maxHeartbeats 1000000 in
theorem d_up_any (n : Bool) (kept rest : ByteArray) (way : Int) (w : World) (hk : kept.size ≤ 1000000000) (hw : 0 ≤ way ∧ way ≤ 5) :
    Calls Tryd.prog 77 #[.bool n, .string kept, .string rest, .int .i64 way] w (Ret0 (.bool (Dc.up n kept.data.toList rest.data.toList way)) w) := by
  obtain ⟨r, hr⟩ : ∃ r, r = Dc.up n kept.data.toList rest.data.toList way := ⟨_, rfl⟩
  rw [← hr]
  by_cases h0 : rest.size = 0
  · have he := isEmpty_of_zero h0
    have hz : rest.data.toList = [] := List.length_eq_zero_iff.1 (by simpa using h0)
    rw [Dc.up, if_pos hz] at hr
    have HR := Lib.hid hr; clear hr h0 hz
    go_enter Tryd.func77, Tryd.ntmps77
    go_wp2
    go_ret
    exact Ret0.of (congrArg _ HR.out.symm)
  · have he := isEmpty_of_pos (by omega : 0 < rest.size)
    have hz : rest.data.toList ≠ [] := fun e => h0 (by have := congrArg List.length e; simpa using this)
    rw [Dc.up, if_neg hz] at hr
    obtain ⟨h, hh⟩ : ∃ h, h = Dc.half rest.data.toList := ⟨_, rfl⟩
    rw [← hh] at hr
    have hcmp : ∀ w, Calls Tryd.prog 92 #[.string rest, .string ⟨#[53]⟩] w (Ret0 (.int .i64 h) w) := fun w => (Tryd.strings_Compare rest ⟨#[53]⟩ w).mono fun _ _ e => ⟨by rw [e.1, hh]; rfl, e.2.symm⟩
    have HC := Lib.hid hcmp; clear hcmp hh h0 hz
    have hcase : way = 0 ∨ way = 1 ∨ way = 2 ∨ way = 3 ∨ way = 4 ∨ way = 5 := by omega
    clear hw
    rcases hcase with rfl | rfl | rfl | rfl | rfl | rfl
    case inl =>
      have HR := Lib.hid hr; clear hr
      by_cases hk0 : kept.size = 0
      · have hke := isEmpty_of_zero hk0
        have HZ := Lib.hid hk0; clear hk0
        go_enter Tryd.func77, Tryd.ntmps77
        go_wp2_with (go_at_call 92; (with_reducible refine (HC.out _).mono ?_); rintro e w' ⟨rfl, rfl⟩)
        all_goals go_ret
        all_goals refine Ret0.of (congrArg _ (HR.out.trans ?_).symm)
        all_goals rw [if_pos trivial, Dc.odd_nil (by simpa using HZ.out)]
        all_goals simp [*]
      · have hke := isEmpty_of_pos (by omega : 0 < kept.size)
        replace hk0 : 0 < kept.size := by omega
        go_enter Tryd.func77, Tryd.ntmps77
        go_wp2_with (go_at_call 92; (with_reducible refine (HC.out _).mono ?_); rintro e w' ⟨rfl, rfl⟩)
        all_goals go_ret
        all_goals refine Ret0.of (congrArg _ (HR.out.trans ?_).symm)
        all_goals rw [if_pos trivial, Dc.odd_last kept hk0]
        all_goals simp [*, Dc.and_one]
        all_goals (rw [Bool.eq_iff_iff]; simp)
    all_goals (
      have HR := Lib.hid hr; clear hr
      go_enter Tryd.func77, Tryd.ntmps77
      go_wp2_with (go_at_call 92; (with_reducible refine (HC.out _).mono ?_); rintro e w' ⟨rfl, rfl⟩)
      go_ret
      exact Ret0.of (congrArg _ (HR.out.trans (by first | rfl | (cases n <;> rfl))).symm))

theorem trimR9 (s : ByteArray) (w : World) (hs : s.size ≤ 1000000000) : Calls Tryd.prog 76 #[.string s, .string ⟨#[57]⟩] w (Ret0 (.string ⟨(Dc.no9 s.data.toList).toArray⟩) w) :=
  (Tryd.strings_TrimRight_one s 57 (by decide) w (by omega)).mono fun _ _ h => ⟨h.1, h.2.symm⟩

theorem rep0 (k : Nat) (w : World) (hk : k ≤ 1000000000) : Calls Tryd.prog 58 #[.string ⟨#[48]⟩, .int .i64 k] w (RetB (.string ⟨(Lib.repeatL [48] k).toArray⟩) w) :=
  (Tryd.strings_Repeat ⟨#[48]⟩ k w (by omega) (by simp [ByteArray.size]; omega)).mono fun _ _ h => h

set_option maxHeartbeats 1000000 in
theorem d_more_any (s : ByteArray) (w : World) (hs : s.size ≤ 1000000000) (hd : Dc.allDig s.data.toList = true) :
    Calls Tryd.prog 78 #[.string s] w (RetB (.string ⟨(Dc.more s.data.toList).toArray⟩) w) := by
  obtain ⟨T, Z, hT, hZ, hTs, hcase⟩ := Dc.more_parts s hd
  have htr : ∀ w, Calls Tryd.prog 76 #[.string s, .string ⟨#[57]⟩] w (Ret0 (.string T) w) := fun w => by rw [hT]; exact trimR9 s w hs
  have hrep : ∀ w, Calls Tryd.prog 58 #[.string ⟨#[48]⟩, .int .i64 ((s.size : Int) - T.size)] w (RetB (.string Z) w) := fun w => by
    rw [hZ, show (s.size : Int) - T.size = ((s.size - T.size : Nat) : Int) by omega]; exact rep0 _ w (by omega)
  have hzs : Z.size ≤ 1000000000 := by rw [hZ, size_mk, Lib.repeatL_length]; simp; omega
  obtain ⟨r, hr⟩ : ∃ r, r = Dc.more s.data.toList := ⟨_, rfl⟩
  rw [← hr] at hcase ⊢
  have HP := Lib.hid hrep; have HT := Lib.hid htr; clear hr hrep hT hZ htr hd
  rcases hcase with ⟨h0, h2⟩ | ⟨c, hpos, hlast, hc1, hc2, h2⟩
  · have he' : T.toList.isEmpty = true := isEmpty_of_zero h0
    have HR := Lib.hid h2; clear h2 h0
    go_enter Tryd.func78, Tryd.ntmps78
    go_wp2_with (first
      | (go_at_call 76; (with_reducible refine (HT.out _).mono ?_); rintro e w' ⟨rfl, rfl⟩)
      | (go_at_call 58; (with_reducible refine (HP.out _).mono ?_); rintro e w1 ⟨rfl, hb_w1⟩; have hB_w1 : Below (w).heap.size (w) w1 := Below.trans (by (repeat (first | exact Below.refl _ _ | assumption | refine Below.setCell ?_ (by first | omega | (simp <;> omega)) _ | refine Below.alloc ?_ (by first | omega | (simp <;> omega)) _ | refine Below.drew ?_ | refine below_drewN' ?_ _))) (hb_w1.mono (by first | omega | (simp <;> omega))); obtain ⟨hc_w1, hf_w1⟩ := bcell hb_w1; have hz_w1 := hb_w1.size; (try simp only [size_drew', size_drewN', World.size_alloc, World.size_setCell] at hz_w1)))
    go_ret
    exact RetB.of (congrArg _ HR.out) hB_w1
  · have he' : T.toList.isEmpty = false := isEmpty_of_pos hpos
    have HR := Lib.hid h2; clear h2
    have hi : ((T[T.size - 1].toNat : Int)) = c.toNat := by rw [hlast]
    clear hlast
    have hw : IntKind.i64.wrap ((T.size : Int) - 1) = (T.size : Int) - 1 := IntWalk.i64_in _ (by omega)
    have hw2 : IntKind.u8.wrap ((c.toNat : Int) + 1) = (c.toNat : Int) + 1 := IntWalk.u8_in _ (by omega)
    have hn : ((T.size : Int) - 1).toNat = T.size - 1 := by omega
    have hge : 0 ≤ (T.size : Int) - 1 := by omega
    have hlt : (T.size : Int) - 1 < T.size := by omega
    have hle : (T.size : Int) - 1 ≤ T.size := by omega
    have h1l : 1 ≤ (T.size : Int) := by omega
    have hen := Dc.encode_next c hc1 hc2
    have hs1 : ¬ 9223372036854775807 < T.size - 1 + 1 := by omega
    have hs2 : ¬ 9223372036854775807 < T.size - 1 + 1 + Z.size := by omega
    have h1n : T.size - 1 < T.size := by omega
    have h1s : T.size - 1 ≤ T.size := by omega
    go_enter Tryd.func78, Tryd.ntmps78
    go_wp2_with (first
      | (go_at_call 76; (with_reducible refine (HT.out _).mono ?_); rintro e w' ⟨rfl, rfl⟩)
      | (go_at_call 58; (with_reducible refine (HP.out _).mono ?_); rintro e w1 ⟨rfl, hb_w1⟩; have hB_w1 : Below (w).heap.size (w) w1 := Below.trans (by (repeat (first | exact Below.refl _ _ | assumption | refine Below.setCell ?_ (by first | omega | (simp <;> omega)) _ | refine Below.alloc ?_ (by first | omega | (simp <;> omega)) _ | refine Below.drew ?_ | refine below_drewN' ?_ _))) (hb_w1.mono (by first | omega | (simp <;> omega))); obtain ⟨hc_w1, hf_w1⟩ := bcell hb_w1; have hz_w1 := hb_w1.size; (try simp only [size_drew', size_drewN', World.size_alloc, World.size_setCell] at hz_w1)))
    go_quiet (fail)
    go_wp2
    go_ret
    exact RetB.of (congrArg _ HR.out) (by (repeat (first | exact Below.refl _ _ | assumption | refine Below.setCell ?_ (by first | omega | (simp <;> omega)) _ | refine Below.alloc ?_ (by first | omega | (simp <;> omega)) _ | refine Below.drew ?_ | refine below_drewN' ?_ _)))

theorem trimLd (s : ByteArray) (w : World) : Calls Tryd.prog 75 #[.string s, .string ⟨#[48, 49, 50, 51, 52, 53, 54, 55, 56, 57]⟩] w (RetB (.string ⟨(s.data.toList.dropWhile Dc.isDig).toArray⟩) w) :=
  (Any.strings_TrimLeft_laid Tryd.lays161 (by kernel_rfl) s ⟨#[48, 49, 50, 51, 52, 53, 54, 55, 56, 57]⟩ w (by decide) (Go.Proofs.ascii_of_all (by decide))).mono fun _ _ h => ⟨by rw [h.1]; exact congrArg (fun l : Dc.Bs => Ending.returned (.string ⟨l.toArray⟩)) (Dc.dropWhile_digs _), h.2⟩

set_option maxHeartbeats 400000 in
theorem d_digits_any (s : ByteArray) (w : World) (hs : s.size ≤ 1000000000) :
    Calls Tryd.prog 56 #[.string s] w (RetB (.tuple #[.string ⟨(s.data.toList.takeWhile Dc.isDig).toArray⟩, .string ⟨(s.data.toList.dropWhile Dc.isDig).toArray⟩]) w) := by
  obtain ⟨T, hT⟩ : ∃ T : ByteArray, T = ⟨(s.data.toList.dropWhile Dc.isDig).toArray⟩ := ⟨_, rfl⟩
  have h1 : T.size ≤ s.size := by rw [hT, size_mk]; have := (List.dropWhile_sublist Dc.isDig (l := s.data.toList)).length_le; rwa [bs_length] at this
  have h2 : s.extract 0 (s.size - T.size) = ⟨(s.data.toList.takeWhile Dc.isDig).toArray⟩ := by
    have e2 : (s.extract 0 (s.size - T.size)).data.toList = s.data.toList.takeWhile Dc.isDig := by
      rw [Lib.extract_data, List.drop_zero, Nat.sub_zero]
      refine Dc.take_tw _ _ _ ?_
      have hs' : T.size = (s.data.toList.dropWhile Dc.isDig).length := by rw [hT, size_mk]
      rw [bs_length]; omega
    rw [← e2]
  have h3 : ∀ w, Calls Tryd.prog 75 #[.string s, .string ⟨#[48, 49, 50, 51, 52, 53, 54, 55, 56, 57]⟩] w (RetB (.string T) w) := fun w => by rw [hT]; exact trimLd s w
  rw [← hT]
  have H2 := Lib.hid h2; have H3 := Lib.hid h3; clear h2 h3 hT
  go_enter Tryd.func56, Tryd.ntmps56
  go_wp2_with (go_at_call 75; (with_reducible refine (H3.out _).mono ?_); rintro e w1 ⟨rfl, hb_w1⟩; have hB_w1 : Below (w).heap.size (w) w1 := Below.trans (by (repeat (first | exact Below.refl _ _ | assumption | refine Below.setCell ?_ (by first | omega | (simp <;> omega)) _ | refine Below.alloc ?_ (by first | omega | (simp <;> omega)) _ | refine Below.drew ?_ | refine below_drewN' ?_ _))) (hb_w1.mono (by first | omega | (simp <;> omega))); obtain ⟨hc_w1, hf_w1⟩ := bcell hb_w1; have hz_w1 := hb_w1.size; (try simp only [size_drew', size_drewN', World.size_alloc, World.size_setCell] at hz_w1))
  go_ret2
  exact RetB.of (by rw [← H2.out]; rfl) hB_w1
end Go.Proofs.YtcbepojookbceaaDoor
