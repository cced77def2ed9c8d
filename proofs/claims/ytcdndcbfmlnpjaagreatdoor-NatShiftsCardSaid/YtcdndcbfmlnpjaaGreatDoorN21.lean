/- same (the statements' own helper). -/
import Derived.Test.YtcdndcbfmlnpjaaGreatDoorN20
namespace Go.Proofs.YtcdndcbfmlnpjaaGreatDoor
set_option linter.all false
open Go.RowKit

def sameLoop (l m : List Nat) (w : World) (iv : Value) (wr : World) : Prop := ∃ k : Nat, k ≤ l.length ∧ iv = .int .i64 k ∧ Hid (l.take k = m.take k) ∧ Hid (Below w.heap.size w wr)

set_option maxHeartbeats 1000000 in
theorem l1_same_any (a : Option Addr) (c : Nat) (l : List Nat) (b : Option Addr) (d : Nat) (m : List Nat) (w : World) (h : Sl w a c l) (h' : Sl w b d m) (hn : l.length ≤ 1000000) (hm : m.length ≤ 1000000) :
    Calls Tryz.prog 8 #[.slice a l.length c, .slice b m.length d] w (RetB (.bool (decide (l = m))) w) := by
  by_cases hl : l.length = m.length
  · have HL := Lib.hid hl
    have HS := Lib.hid h; have HS' := Lib.hid h'
    obtain ⟨n, hne⟩ : ∃ n, l.length = n := ⟨_, rfl⟩
    rw [← hl, hne]
    rw [hne] at hn
    have HN := Lib.hid hne
    clear hl hne h h' hm
    go_enter Tryz.func8, Tryz.ntmps8
    go_wp2_with fail
    go_loopw [5] (sameLoop l m w) (fun i _ => n - (intOf i).toNat)
    case atStart => exact ⟨0, Nat.zero_le _, rfl, Lib.hid (by simp), Lib.hid (Below.refl _ _)⟩
    case round =>
      obtain ⟨k, hk, rfl, HT, HB⟩ := hrel
      have hk' : k ≤ n := by rw [← HN.out]; exact hk
      clear hk
      by_cases hlt : k < n
      · have h1 : k < l.length := by rw [HN.out]; exact hlt
        have h2 : k < m.length := by rw [← HL.out, HN.out]; exact hlt
        obtain ⟨b1, o1, rfl, hb1, hc1⟩ := (HS.out.on HB.out).plain (by omega)
        obtain ⟨b2, o2, rfl, hb2, hc2⟩ := (HS'.out.on HB.out).plain (by omega)
        have c1 := hc1 k h1
        have c2 := hc2 k h2
        have EQ := Lib.hid (show l[k] = m[k] → l.take (k + 1) = m.take (k + 1) from fun e => by rw [List.take_succ_eq_append_getElem h1, List.take_succ_eq_append_getElem h2, HT.out, e])
        have NE := Lib.hid (show l[k] ≠ m[k] → decide (l = m) = false from fun e => decide_eq_false fun e' => e (by simp only [e']))
        obtain ⟨x, hx⟩ : ∃ x, l[k]'h1 = x := ⟨_, rfl⟩
        obtain ⟨y, hy⟩ : ∃ y, m[k]'h2 = y := ⟨_, rfl⟩
        rw [hx, hy] at EQ NE
        rw [hx] at c1; rw [hy] at c2
        clear hx hy hc1 hc2
        by_cases hxy : x = y
        · subst hxy
          have EQ2 := Lib.hid (EQ.out rfl)
          clear EQ NE
          go_wp2_with fail
          go_quiet (fail)
          go_wp2_with fail
          go_roundw
          case rel => exact ⟨k + 1, by rw [HN.out]; omega, by go_num, EQ2, Lib.hid (below_drewN' HB.out _)⟩
          case measure => simp [intOf]; omega
        · have e := Lib.hid (NE.out hxy)
          have hxb : ((x : Int) != (y : Int)) = true := by simp; omega
          clear EQ NE
          go_wp2_with fail
          go_quiet (fail)
          go_wp2_with fail
          go_ret
          exact RetB.of (by rw [e.out]; rfl) (below_drewN' HB.out _)
      · obtain rfl : k = n := by omega
        have e := Lib.hid (show decide (l = m) = true from decide_eq_true (by
          have := HT.out
          rwa [List.take_of_length_le (by rw [HN.out]; exact Nat.le_refl _), List.take_of_length_le (by rw [← HL.out, HN.out]; exact Nat.le_refl _)] at this))
        go_wp2_with fail
        go_ret
        exact RetB.of (by rw [e.out]; rfl) HB.out
  · have e := Lib.hid (show decide (l = m) = false from decide_eq_false fun e => hl (by rw [e]))
    have hne : ((l.length : Int) != (m.length : Int)) = true := by simp; omega
    clear hl
    go_enter Tryz.func8, Tryz.ntmps8
    go_wp2_with fail
    go_ret
    exact RetB.of (by rw [e.out]; rfl) (Below.refl _ _)

end Go.Proofs.YtcdndcbfmlnpjaaGreatDoor
