import Derived.Test.YtcbepojookbceaaDoorT1
import Derived.Test.YtcbepojookbceaaDoorShelf
namespace Go.Proofs.YtcbepojookbceaaDoor
set_option linter.all false
open Go.RowKit

theorem below_iter (w : World) (s : ByteArray) (pos : Nat) : Below w.heap.size w (w.iter s pos) := (Below.refl _ _).alloc (Nat.le_refl _) _

theorem all_take_snoc_false (s : ByteArray) (k : Nat) (h : k < s.size) (p : UInt8 → Bool) (hp : p s[k] = false) : s.data.toList.all p = false := by
  rw [List.all_eq_false]
  exact ⟨s[k], List.mem_of_getElem? (bs_getElem? s k h), by simp [hp]⟩

set_option maxRecDepth 100000 in
set_option maxHeartbeats 400000 in
theorem d_plain_any (s : ByteArray) (w : World) :
    Calls Tryd.prog 62 #[.string s] w (RetB (.bool (Dc.allDig s.data.toList)) w) := by
  obtain ⟨res, hres⟩ : ∃ b, b = Dc.allDig s.data.toList := ⟨_, rfl⟩
  rw [← hres]; have HR := Lib.hid hres; clear hres
  go_enter Tryd.func62, Tryd.ntmps62
  go_wp2_with fail
  go_loopw [] (fun wr => ∃ pos : Nat, pos ≤ s.size ∧ wr = w.iter s pos ∧ (s.data.toList.take pos).all Dc.isDig = true) (fun wr => s.size - wr.iterPos w.heap.size)
  case atStart => exact ⟨0, Nat.zero_le _, rfl, rfl⟩
  case round =>
    obtain ⟨pos, hpos, rfl, hall⟩ := hrel
    have HA := Lib.hid hall; clear hall
    by_cases hp : pos < s.size
    · have hsn := Lib.hid (all_take_snoc s pos hp Dc.isDig)
      have hno : Dc.isDig s[pos] = false → false = res := fun h => by rw [HR.out]; exact (all_take_snoc_false s pos hp _ h).symm
      have HNO := Lib.hid hno; clear hno
      by_cases ha : (s[pos]'hp).toNat < 128
      · have hnx : ∀ ty, (Instr.next (.pointer (some ⟨w.heap.size, 0, none⟩)) true ty).run Tryd.prog (w.iter s pos) = _ := fun ty => run_next_ascii w s pos ty hp ha
        go_wp2
        · go_ret
          exact RetB.of (congrArg Value.bool (HNO.out (by simp [Dc.isDig]; omega))) (below_iter _ _ _)
        · go_roundw
          case rel => exact ⟨pos + 1, by omega, rfl, by rw [hsn.out, HA.out]; simp [Dc.isDig]; omega⟩
          case measure => simp; omega
        · go_ret
          exact RetB.of (congrArg Value.bool (HNO.out (by simp [Dc.isDig]; omega))) (below_iter _ _ _)
      · have hd := decode_high s pos hp (by omega)
        have hnx : ∀ ty, (Instr.next (.pointer (some ⟨w.heap.size, 0, none⟩)) true ty).run Tryd.prog (w.iter s pos) = _ := fun ty => run_next_any w s pos ty hp
        go_wp2
        all_goals go_ret
        all_goals exact RetB.of (congrArg Value.bool (HNO.out (by simp [Dc.isDig]; omega))) (below_iter _ _ _)
    · have hnx : ∀ ty, (Instr.next (.pointer (some ⟨w.heap.size, 0, none⟩)) true ty).run Tryd.prog (w.iter s pos) = _ := fun ty => run_next_end w s pos ty hp
      go_wp2
      go_ret
      exact RetB.of (congrArg Value.bool (by have h := HA.out; rw [List.take_of_length_le (by simp; omega)] at h; rw [HR.out]; exact h.symm)) (below_iter _ _ _)

theorem ba_toList (s : ByteArray) (l : Dc.Bs) (h : s.toList = l) : s.data.toList = l := by rw [← h, ByteArray.toList_eq]

set_option maxHeartbeats 400000 in
theorem d_right_any (n : Bool) (s : ByteArray) (x : Int) (w : World) (hs : s.size ≤ 9223372036854775807) :
    Calls Tryd.prog 39 #[.agg #[.bool n, .string s, .int .i64 x]] w (RetB (.bool (Dc.right s.data.toList x)) w) := by
  obtain ⟨res, hres⟩ : ∃ b, b = Dc.right s.data.toList x := ⟨_, rfl⟩
  rw [← hres]; have HR := Lib.hid hres; clear hres
  have hb1 : Below w.heap.size w (w.alloc (Obj.cells #[Value.bool n, Value.string s, Value.int IntKind.i64 x] 36)) := (Below.refl _ _).alloc (Nat.le_refl _) _
  by_cases h0 : s.size = 0
  · have he := isEmpty_of_zero h0
    have H0 := Lib.hid h0; clear h0
    go_enter Tryd.func39, Tryd.ntmps39
    go_wp2_with fail
    go_ret
    exact RetB.of (congrArg Value.bool (by rw [HR.out, Dc.right_nil _ _ (by simpa using H0.out)])) hb1
  · have h0' : 0 < s.size := by omega
    have he := isEmpty_of_pos h0'
    clear h0
    have hF : (1100 < s.size ∨ x < -100000 ∨ 100000 < x ∨ (s[0].toNat : Int) = 48 ∨ (s[s.size - 1].toNat : Int) = 48) → false = res := fun h => by rw [HR.out]; exact (Dc.right_bytes_false s x h0' h).symm
    have HF := Lib.hid hF; clear hF
    go_enter Tryd.func39, Tryd.ntmps39
    go_wp2_with (first
      | (go_at_call 62; refine (d_plain_any _ _).mono ?_; rintro e w1 ⟨rfl, hb2⟩; obtain ⟨hc, hf⟩ := bcell hb2)
      | (go_at_call 63; refine (Tryd.strings_HasSuffix _ _ _ hs).mono ?_; rintro e w' ⟨rfl, rfl⟩))
    all_goals go_ret
    · have hp : Dc.allDig s.data.toList = true := by assumption
      have hz : (s[0].toNat : Int) = 48 := by assumption
      exact RetB.of (congrArg Value.bool (HF.out (by omega))) (hb1.trans (hb2.mono (by simp)))
    · have hp : Dc.allDig s.data.toList = true := by assumption
      have hz : ¬ (s[0].toNat : Int) = 48 := by assumption
      refine RetB.of (congrArg Value.bool ?_) (hb1.trans (hb2.mono (by simp)))
      have hz' : ((s[0].toNat : Int) != 48) = true := by simpa using hz
      show (((s[0].toNat : Int) != 48) && !(Lib.hasSuffix s.data.toList [48])) = res
      rw [hz', Bool.true_and, Dc.hasSuffix_zero s h0']
      by_cases hl : (s[s.size - 1].toNat : Int) = 48
      · rw [decide_eq_true hl]; exact HF.out (by omega)
      · rw [decide_eq_false hl, HR.out, Dc.right_bytes_true s x h0' (by omega) (by omega) (by omega) hz hl hp]; rfl
    · have hp : ¬ Dc.allDig s.data.toList = true := by assumption
      refine RetB.of (congrArg Value.bool ?_) (hb1.trans (hb2.mono (by simp)))
      rw [HR.out, Dc.right_plain_false s x h0' (by simpa using hp)]
    all_goals exact RetB.of (congrArg Value.bool (HF.out (by omega))) hb1

theorem d_point_any (n : Bool) (s : ByteArray) (x : Int) (w : World) (hs : s.size ≤ 9223372036854775807) :
    Calls Tryd.prog 53 #[.agg #[.bool n, .string s, .int .i64 x]] w (RetB (.int .i64 (Dc.point s.data.toList x)) w) := by
  have hb1 : Below w.heap.size w (w.alloc (Obj.cells #[Value.bool n, Value.string s, Value.int IntKind.i64 x] 36)) := (Below.refl _ _).alloc (Nat.le_refl _) _
  obtain ⟨b, hr⟩ : ∃ b, b = Dc.right s.data.toList x := ⟨_, rfl⟩
  have hp := Dc.point_eq s x
  have HP := Lib.hid hp; clear hp
  have hd := d_right_any n s x (w.alloc (Obj.cells #[Value.bool n, Value.string s, Value.int IntKind.i64 x] 36)) hs
  rw [← hr] at hd
  have hx : b = true → -100000 ≤ x ∧ x ≤ 100000 ∧ s.size ≤ 1100 := fun h => by rw [hr] at h; exact ⟨(Dc.right_exp h).1, (Dc.right_exp h).2, by have := Dc.right_len h; simpa using this⟩
  cases b
  · have HD := Lib.hid hd; have HR := Lib.hid hr; clear hd hr
    go_enter Tryd.func53, Tryd.ntmps53
    go_wp2_with (first | (go_at_call 39; refine (HD.out).mono ?_; rintro e w1 ⟨rfl, hb2⟩; obtain ⟨hc, hf⟩ := bcell hb2))
    go_ret
    exact RetB.of (congrArg (Value.int .i64) (by rw [HP.out, ← HR.out]; rfl)) (hb1.trans (hb2.mono (by simp)))
  · have HD := Lib.hid hd; have HR := Lib.hid hr; clear hd hr
    have hx' := hx rfl; clear hx
    go_enter Tryd.func53, Tryd.ntmps53
    go_wp2_with (first | (go_at_call 39; refine (HD.out).mono ?_; rintro e w1 ⟨rfl, hb2⟩; obtain ⟨hc, hf⟩ := bcell hb2))
    go_ret
    exact RetB.of (congrArg (Value.int .i64) (by rw [HP.out, ← HR.out]; rfl)) (hb1.trans (hb2.mono (by simp)))
theorem r7_point_any (n : Bool) (s : ByteArray) (x : Int) (w : World) (hs : s.size ≤ 9223372036854775807) :
    Calls Tryd.prog 24 #[.agg #[.bool n, .string s, .int .i64 x]] w (RetB (.int .i64 (Dc.point s.data.toList x)) w) := by
  have hb1 : Below w.heap.size w (w.alloc (Obj.cells #[Value.bool n, Value.string s, Value.int IntKind.i64 x] 36)) := (Below.refl _ _).alloc (Nat.le_refl _) _
  obtain ⟨b, hr⟩ : ∃ b, b = Dc.right s.data.toList x := ⟨_, rfl⟩
  have hp := Dc.point_eq s x
  have HP := Lib.hid hp; clear hp
  have hd := r7_right_any n s x (w.alloc (Obj.cells #[Value.bool n, Value.string s, Value.int IntKind.i64 x] 36)) hs
  rw [← hr] at hd
  have hx : b = true → -100000 ≤ x ∧ x ≤ 100000 ∧ s.size ≤ 1100 := fun h => by rw [hr] at h; exact ⟨(Dc.right_exp h).1, (Dc.right_exp h).2, by have := Dc.right_len h; simpa using this⟩
  cases b
  · have HD := Lib.hid hd; have HR := Lib.hid hr; clear hd hr
    go_enter Tryd.func24, Tryd.ntmps24
    go_wp2_with (first | (go_at_call 23; refine (HD.out).mono ?_; rintro e w1 ⟨rfl, hb2⟩; obtain ⟨hc, hf⟩ := bcell hb2))
    go_ret
    exact RetB.of (congrArg (Value.int .i64) (by rw [HP.out, ← HR.out]; rfl)) (hb1.trans (hb2.mono (by simp)))
  · have HD := Lib.hid hd; have HR := Lib.hid hr; clear hd hr
    have hx' := hx rfl; clear hx
    go_enter Tryd.func24, Tryd.ntmps24
    go_wp2_with (first | (go_at_call 23; refine (HD.out).mono ?_; rintro e w1 ⟨rfl, hb2⟩; obtain ⟨hc, hf⟩ := bcell hb2))
    go_ret
    exact RetB.of (congrArg (Value.int .i64) (by rw [HP.out, ← HR.out]; rfl)) (hb1.trans (hb2.mono (by simp)))
end Go.Proofs.YtcbepojookbceaaDoor
