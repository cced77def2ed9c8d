/- over, fits, Add32, Sub32. -/
import Derived.Test.YtcdndcbfmlnpjaaGreatDoorN4
namespace Go.Proofs.YtcdndcbfmlnpjaaGreatDoor
set_option linter.all false
open Go.RowKit

/-- One of the slices that over is handed. -/
structure Arg where
  a : Option Addr
  c : Nat
  l : List Nat
def Args (w : World) (g : Nat) (L : List Arg) : Prop := ∀ k (h : k < L.length), w.cell? ⟨g, k, none⟩ = some (.slice L[k].a L[k].l.length L[k].c) ∧ Sl w L[k].a L[k].c L[k].l ∧ L[k].l.length ≤ 1000000

set_option maxHeartbeats 400000 in
theorem na_over_any (L : List Arg) (g : Nat) (w : World) (h : Args w g L) (hl : L.length ≤ 2) :
    Calls Tryz.prog 40 #[.slice (some ⟨g, 0, none⟩) L.length L.length] w (Ret0 (.bool (L.any fun x => Na.big x.l)) w) := by
  have HA := Lib.hid h; clear h
  go_enter Tryz.func40, Tryz.ntmps40
  go_wp2_with fail
  go_loop [7] (fun i => ∃ k : Nat, k ≤ L.length ∧ i = .int .i64 k ∧ ((L.take k).any fun x => Na.big x.l) = false) (fun i => L.length - (intOf i).toNat)
  case atStart => exact ⟨0, Nat.zero_le _, rfl, rfl⟩
  case round =>
    obtain ⟨k, hk, rfl, hb⟩ := hrel
    have HB := Lib.hid hb; clear hb
    by_cases hlt : k < L.length
    · obtain ⟨c1, s1, n1⟩ := HA.out k hlt
      have HT := Lib.hid (show ((L.take (k + 1)).any fun x => Na.big x.l) = Na.big L[k].l by rw [List.take_succ_eq_append_getElem hlt, List.any_append, HB.out]; simp)
      have HX := Lib.hid (show Na.big L[k].l = true → (L.any fun x => Na.big x.l) = true from fun e => List.any_eq_true.2 ⟨L[k], List.getElem_mem hlt, e⟩)
      obtain ⟨x, hx⟩ : ∃ x, L[k] = x := ⟨_, rfl⟩
      rw [hx] at c1 s1 n1 HT HX
      clear hx
      have H1 := Lib.hid (na_right_any x.a x.c x.l w s1 n1)
      by_cases hbig : 256 < Na.rt x.l
      · have e := Lib.hid (HX.out (decide_eq_true hbig))
        clear HX HT
        go_wp2_with (first | (go_at_call 37; (with_reducible refine (H1.out).mono ?_); rintro e w' ⟨rfl, rfl⟩))
        go_ret
        exact Ret0.of (by rw [e.out]; rfl)
      · have e := Lib.hid (HT.out.trans (decide_eq_false hbig))
        clear HX HT
        replace hbig : Na.rt x.l ≤ 256 := by omega
        go_wp2_with (first | (go_at_call 37; (with_reducible refine (H1.out).mono ?_); rintro e w' ⟨rfl, rfl⟩))
        go_round
        case rel => exact ⟨k + 1, by omega, by go_num, e.out⟩
        case measure => simp [intOf]; omega
    · have e := Lib.hid (show (L.any fun x => Na.big x.l) = false by have := HB.out; rwa [List.take_of_length_le (by omega)] at this)
      go_wp2_with fail
      go_ret
      exact Ret0.of (by rw [e.out]; rfl)

/-- fits: the answer, or too big. -/
def FitsR (a : Option Addr) (l : List Nat) (w : World) (e : Ending) (w' : World) : Prop := w = w' ∧ ∃ a' c', e = .returned (.tuple #[.slice a' (Na.fits (Na.val l)).1.length c', .int .i64 (Na.fits (Na.val l)).2]) ∧ Sl w a' c' (Na.fits (Na.val l)).1 ∧ (a' = a ∨ (Na.fits (Na.val l)).1 = [])

theorem na_fits_any (a : Option Addr) (c : Nat) (l : List Nat) (w : World) (h : Sl w a c l) (hn : l.length ≤ 1000000) :
    Calls Tryz.prog 42 #[.slice a l.length c] w (FitsR a l w) := by
  have H1 := Lib.hid (na_cut_any a c l w h hn)
  have hc := Lib.hid h.cut
  by_cases h2 : 256 < (Na.cut l).length
  · have e1 := Lib.hid (show Na.fits (Na.val l) = ([], 2) from if_pos h2)
    go_enter Tryz.func42, Tryz.ntmps42
    go_wp2_with (first | (go_at_call 38; (with_reducible refine (H1.out).mono ?_); rintro e w' ⟨rfl, rfl⟩))
    refine bodyPost_ret (v := .tuple #[.slice none 0 0, .int .i64 2]) (by simp [results, Tryz.results42, go_sem]) rfl ⟨rfl, none, 0, ?_, ?_, Or.inr ?_⟩ <;> rw [e1.out]
    · rfl
    · exact Sl.nil _ _ _
  · have e1 := Lib.hid (show Na.fits (Na.val l) = (Na.cut l, 0) from if_neg h2)
    replace h2 : (Na.cut l).length ≤ 256 := by omega
    go_enter Tryz.func42, Tryz.ntmps42
    go_wp2_with (first | (go_at_call 38; (with_reducible refine (H1.out).mono ?_); rintro e w' ⟨rfl, rfl⟩))
    refine bodyPost_ret (v := .tuple #[.slice a (Na.cut l).length c, .int .i64 0]) (by simp [results, Tryz.results42, go_sem]) rfl ⟨rfl, a, c, ?_, ?_, Or.inl rfl⟩ <;> rw [e1.out]
    exact hc.out

theorem add32_any (x y c : Nat) (hx : x < 4294967296) (hy : y < 4294967296) (hc : c < 4294967296) (w : World) :
    Calls Tryz.prog 41 #[.int .u32 x, .int .u32 y, .int .u32 c] w (Ret0 (.tuple #[.int .u32 ((x + y + c) % 4294967296 : Nat), .int .u32 ((x + y + c) / 4294967296 : Nat)]) w) := by
  go_enter Tryz.func41, Tryz.ntmps41
  go_wp2
  refine bodyPost_ret (v := .tuple #[.int .u32 ((x + y + c) % 4294967296 : Nat), .int .u32 ((x + y + c) / 4294967296 : Nat)]) (by simp [results, Tryz.results41, go_sem]) rfl ⟨rfl, rfl⟩
theorem sub32_any (x y c : Nat) (hx : x < 4294967296) (hy : y < 4294967296) (hc : c ≤ 1) (w : World) :
    Calls Tryz.prog 46 #[.int .u32 x, .int .u32 y, .int .u32 c] w (Ret0 (.tuple #[.int .u32 ((x + 4294967296 - y - c) % 4294967296 : Nat), .int .u32 (if x < y + c then 1 else 0 : Nat)]) w) := by
  have hb := Na.sub32_borrow x y c hx hy hc
  have hd : (((x : Int) - y - c) % 4294967296) = ((x + 4294967296 - y - c) % 4294967296 : Nat) := by omega
  obtain ⟨z, hz⟩ : ∃ z : Nat, z = if x < y + c then 1 else 0 := ⟨_, rfl⟩
  obtain ⟨v, hv⟩ : ∃ v : Nat, v = (x + 4294967296 - y - c) % 4294967296 := ⟨_, rfl⟩
  rw [← hz] at hb ⊢
  rw [← hv] at hd ⊢
  have HB := Lib.hid hb; have HD := Lib.hid hd
  clear hb hd hz hv
  have hs : IntKind.u32.signed = false := rfl
  go_enter Tryz.func46, Tryz.ntmps46
  go_wp2
  refine bodyPost_ret (v := .tuple #[.int .u32 v, .int .u32 z]) (by simp [results, Tryz.results46, go_sem]; exact ⟨HD.out, HB.out⟩) rfl ⟨rfl, rfl⟩
end Go.Proofs.YtcdndcbfmlnpjaaGreatDoor
