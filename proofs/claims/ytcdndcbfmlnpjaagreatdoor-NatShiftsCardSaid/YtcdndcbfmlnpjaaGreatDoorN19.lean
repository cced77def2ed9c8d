/- Parse. -/
import Derived.Test.YtcdndcbfmlnpjaaGreatDoorN18
import Derived.Test.YtcdndcbfmlnpjaaGreatDoorNi
import Derived.Shelf.Strings.SlTrimAscii
namespace Go.Proofs.YtcdndcbfmlnpjaaGreatDoor
set_option linter.all false
open Go.RowKit

theorem trimD (s : ByteArray) (w : World) (hs : s.size ≤ 1000000000) : Calls Tryz.prog 55 #[.string s, .string ⟨#[48, 49, 50, 51, 52, 53, 54, 55, 56, 57]⟩] w (RetB (.string ⟨(Lib.trimS s.data.toList Na.dset).toArray⟩) w) :=
  (Any.strings_Trim_laid Tryz.lays160 (by kernel_rfl) s ⟨#[48, 49, 50, 51, 52, 53, 54, 55, 56, 57]⟩ w (by omega) (by decide) (Go.Proofs.ascii_of_all (by decide))).mono fun _ _ h => ⟨h.1, h.2⟩
theorem trimL0 (s : ByteArray) (w : World) : Calls Tryz.prog 56 #[.string s, .string ⟨#[48]⟩] w (Ret0 (.string ⟨(s.data.toList.dropWhile (· == 48)).toArray⟩) w) :=
  (Tryz.strings_TrimLeft_one s 48 (by decide) w).mono fun _ _ h => ⟨h.1, h.2.symm⟩
theorem na_atoi (s : ByteArray) (w : World) (hd : s.data.toList.all Na.isD = true) (h : 0 < s.size ∧ s.size ≤ 9) : Calls Tryz.prog 57 #[.string s] w (RetB (.tuple #[.int .i64 (Na.num s.data.toList : Nat), .nilIface]) w) :=
  (Tryz.strconv_Atoi_ok s (by omega) _ (Na.atoi_num s.data.toList hd (fun e => by have := congrArg List.length e; rw [bs_length, List.length_nil] at this; omega) (by rw [bs_length]; exact h.2)) w).mono fun e w' he => ⟨he.1, by
    rcases he.2 with e | ⟨t, e⟩
    · rw [e]; exact Below.refl _ _
    · rw [e]; exact Lib.bytesWorld_below _ _ _⟩

set_option maxHeartbeats 1000000 in
theorem na_parse_empty (s : ByteArray) (w : World) (h : s.size = 0) : Calls Tryz.prog 33 #[.string s] w (GivesE (Na.parse s.data.toList) w) := by
  have e0 : s.data.toList = [] := List.eq_nil_of_length_eq_zero (by rw [bs_length]; exact h)
  have e := Lib.hid (gives_nil 3 (show Na.parse s.data.toList = ([], 3) from if_pos (Or.inl e0)) (Below.refl w.heap.size w))
  have h1 : s.toList.isEmpty = true := isEmpty_of_zero h
  have h2 : s.toList = [] := List.isEmpty_iff.1 h1
  clear e0 h
  go_enter Tryz.func33, Tryz.ntmps33
  go_wp2
  refine bodyPost_ret (v := .tuple #[.slice none 0 0, .int .i64 3]) (by simp [results, Tryz.results33, go_sem]) rfl e.out

set_option maxHeartbeats 1000000 in
theorem na_parse_form (s : ByteArray) (w : World) (h : 0 < s.size) (hs : s.size ≤ 1000000000) (hd : s.data.toList.all Na.isD = false) : Calls Tryz.prog 33 #[.string s] w (GivesE (Na.parse s.data.toList) w) := by
  have e := Lib.hid (fun w' (hb : Below w.heap.size w w') => gives_nil 3 (show Na.parse s.data.toList = ([], 3) from if_pos (Or.inr hd)) hb)
  have h1 : s.toList.isEmpty = false := isEmpty_of_pos h
  have hc := trimD s w hs
  obtain ⟨T, hT⟩ : ∃ T : ByteArray, T = ⟨(Lib.trimS s.data.toList Na.dset).toArray⟩ := ⟨_, rfl⟩
  have hTn : ¬ Lib.trimS s.data.toList Na.dset = [] := fun e => by rw [Na.trim_digits, hd] at e; cases e
  have hT0 : 0 < T.size := by rw [hT, size_mk]; exact List.length_pos_iff.2 hTn
  rw [← hT] at hc
  have HC := Lib.hid hc
  have h2 : T.toList.isEmpty = false := isEmpty_of_pos hT0
  clear hc hT hTn hd
  go_enter Tryz.func33, Tryz.ntmps33
  go_wp2_with (go_at_call 55; (with_reducible refine (HC.out).mono ?_); rintro e w1 ⟨rfl, hb_w1⟩; have hB_w1 : Below (w).heap.size (w) w1 := Below.trans (by (repeat (first | exact Below.refl _ _ | assumption | refine Below.setCell ?_ (by first | omega | (simp <;> omega)) _ | refine Below.alloc ?_ (by first | omega | (simp <;> omega)) _ | refine Below.drew ?_ | refine below_drewN' ?_ _))) (hb_w1.mono (by first | omega | (simp <;> omega))); obtain ⟨hc_w1, hf_w1⟩ := bcell hb_w1; have hz_w1 := hb_w1.size; (try simp only [size_drew', size_drewN', World.size_alloc, World.size_setCell] at hz_w1))
  refine bodyPost_ret (v := .tuple #[.slice none 0 0, .int .i64 3]) (by simp [results, Tryz.results33, go_sem]) rfl (e.out _ hB_w1)

set_option maxHeartbeats 1000000 in
theorem na_parse_long (s : ByteArray) (w : World) (h : 0 < s.size) (hs : s.size ≤ 1000000000) (hd : s.data.toList.all Na.isD = true) (hl : 3000 < (s.data.toList.dropWhile (· == 48)).length) : Calls Tryz.prog 33 #[.string s] w (GivesE (Na.parse s.data.toList) w) := by
  have hne : ¬ (s.data.toList = [] ∨ s.data.toList.all Na.isD = false) := by
    rw [hd]; rintro (e | e)
    · have := congrArg List.length e; rw [bs_length, List.length_nil] at this; omega
    · cases e
  have e := Lib.hid (fun w' (hb : Below w.heap.size w w') => gives_nil 2 (show Na.parse s.data.toList = ([], 2) from (if_neg hne).trans (Na.num_long _ hd hl)) hb)
  have h1 : s.toList.isEmpty = false := isEmpty_of_pos h
  have hc := trimD s w hs
  rw [(Na.trim_digits _).2 hd] at hc
  have HC := Lib.hid (show Calls Tryz.prog 55 #[.string s, .string ⟨#[48, 49, 50, 51, 52, 53, 54, 55, 56, 57]⟩] w (RetB (.string ⟨#[]⟩) w) from hc)
  obtain ⟨T, hT⟩ : ∃ T : ByteArray, T = ⟨(s.data.toList.dropWhile (· == 48)).toArray⟩ := ⟨_, rfl⟩
  have hTs : 3000 < T.size := by rw [hT, size_mk]; exact hl
  have HL := Lib.hid (fun w => trimL0 s w)
  rw [← hT] at HL
  clear hc hT hd hl hne
  go_enter Tryz.func33, Tryz.ntmps33
  go_wp2_with (first | (go_at_call 55; (with_reducible refine (HC.out).mono ?_); rintro e w1 ⟨rfl, hb_w1⟩; have hB_w1 : Below (w).heap.size (w) w1 := Below.trans (by (repeat (first | exact Below.refl _ _ | assumption | refine Below.setCell ?_ (by first | omega | (simp <;> omega)) _ | refine Below.alloc ?_ (by first | omega | (simp <;> omega)) _ | refine Below.drew ?_ | refine below_drewN' ?_ _))) (hb_w1.mono (by first | omega | (simp <;> omega))); obtain ⟨hc_w1, hf_w1⟩ := bcell hb_w1; have hz_w1 := hb_w1.size; (try simp only [size_drew', size_drewN', World.size_alloc, World.size_setCell] at hz_w1)) | (go_at_call 56; (with_reducible refine (HL.out _).mono ?_); rintro e w' ⟨rfl, rfl⟩))
  refine bodyPost_ret (v := .tuple #[.slice none 0 0, .int .i64 2]) (by simp [results, Tryz.results33, go_sem]) rfl (e.out _ hB_w1)
end Go.Proofs.YtcdndcbfmlnpjaaGreatDoor
