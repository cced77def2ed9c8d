/- same, equal (the statements' own helpers). -/
import Derived.Test.YtcdndcbfmlnpjaaDoorN20
namespace Go.Proofs.YtcdndcbfmlnpjaaDoor
set_option linter.all false
open Go.RowKit

def sameLoop (l m : List Nat) (w : World) (iv : Value) (wr : World) : Prop := ∃ k : Nat, k ≤ l.length ∧ iv = .int .i64 k ∧ Hid (l.take k = m.take k) ∧ Hid (Below w.heap.size w wr)

set_option maxHeartbeats 1000000 in
theorem l1_same_any (a : Option Addr) (c : Nat) (l : List Nat) (b : Option Addr) (d : Nat) (m : List Nat) (w : World) (h : Sl w a c l) (h' : Sl w b d m) (hn : l.length ≤ 1000000) (hm : m.length ≤ 1000000) :
    Calls Tryd.prog 21 #[.slice a l.length c, .slice b m.length d] w (RetB (.bool (decide (l = m))) w) := by
  by_cases hl : l.length = m.length
  · have HL := Lib.hid hl
    have HS := Lib.hid h; have HS' := Lib.hid h'
    obtain ⟨n, hne⟩ : ∃ n, l.length = n := ⟨_, rfl⟩
    rw [← hl, hne]
    rw [hne] at hn
    have HN := Lib.hid hne
    clear hl hne h h' hm
    go_enter Tryd.func21, Tryd.ntmps21
    go_wp2_with fail
    go_loopw [5] (sameLoop l m w) (fun i _ => n - (intOf i).toNat)
    case atStart => exact ⟨0, Nat.zero_le _, rfl, Lib.hid (by simp), Lib.hid (Below.refl _ _)⟩
    case round =>
      obtain ⟨k, hk, rfl, HT, HB⟩ := hrel
      have hk' : k ≤ n := by rw [← HN.out]; exact hk
      clear hk
      by_cases hlt : k < n
      · have h1 : k < l.length := by rw [HN.out]; exact hlt
        have h2 : k < m.length := by rw [← HL.out, HN.out]; exact hlt
        obtain ⟨b1, o1, rfl, hb1, hc1⟩ := (HS.out.on HB.out).plain (by omega)
        obtain ⟨b2, o2, rfl, hb2, hc2⟩ := (HS'.out.on HB.out).plain (by omega)
        have c1 := hc1 k h1
        have c2 := hc2 k h2
        have EQ := Lib.hid (show l[k] = m[k] → l.take (k + 1) = m.take (k + 1) from fun e => by rw [List.take_succ_eq_append_getElem h1, List.take_succ_eq_append_getElem h2, HT.out, e])
        have NE := Lib.hid (show l[k] ≠ m[k] → decide (l = m) = false from fun e => decide_eq_false fun e' => e (by simp only [e']))
        obtain ⟨x, hx⟩ : ∃ x, l[k]'h1 = x := ⟨_, rfl⟩
        obtain ⟨y, hy⟩ : ∃ y, m[k]'h2 = y := ⟨_, rfl⟩
        rw [hx, hy] at EQ NE
        rw [hx] at c1; rw [hy] at c2
        clear hx hy hc1 hc2
        by_cases hxy : x = y
        · subst hxy
          have EQ2 := Lib.hid (EQ.out rfl)
          clear EQ NE
          go_wp2_with fail
          go_quiet (fail)
          go_wp2_with fail
          go_roundw
          case rel => exact ⟨k + 1, by rw [HN.out]; omega, by go_num, EQ2, Lib.hid (below_drewN' HB.out _)⟩
          case measure => simp [intOf]; omega
        · have e := Lib.hid (NE.out hxy)
          have hxb : ((x : Int) != (y : Int)) = true := by simp; omega
          clear EQ NE
          go_wp2_with fail
          go_quiet (fail)
          go_wp2_with fail
          go_ret
          exact RetB.of (by rw [e.out]; rfl) (below_drewN' HB.out _)
      · obtain rfl : k = n := by omega
        have e := Lib.hid (show decide (l = m) = true from decide_eq_true (by
          have := HT.out
          rwa [List.take_of_length_le (by rw [HN.out]; exact Nat.le_refl _), List.take_of_length_le (by rw [← HL.out, HN.out]; exact Nat.le_refl _)] at this))
        go_wp2_with fail
        go_ret
        exact RetB.of (by rw [e.out]; rfl) HB.out
  · have e := Lib.hid (show decide (l = m) = false from decide_eq_false fun e => hl (by rw [e]))
    have hne : ((l.length : Int) != (m.length : Int)) = true := by simp; omega
    clear hl
    go_enter Tryd.func21, Tryd.ntmps21
    go_wp2_with fail
    go_ret
    exact RetB.of (by rw [e.out]; rfl) (Below.refl _ _)

/-- Do two lists have one length, and mean one number? -/
def Na.eqv (l m : List Nat) : Bool := decide (l.length = m.length) && decide (Na.val l = Na.val m)
theorem Na.eqv_limbs (x y : Nat) (h : x = y) : Na.eqv (Na.limbs x) (Na.limbs y) = true := by subst h; simp [Na.eqv]

set_option maxHeartbeats 400000 in
theorem l1_equal_any (a : Option Addr) (c : Nat) (l : List Nat) (b : Option Addr) (d : Nat) (m : List Nat) (w : World) (h : Sl w a c l) (h' : Sl w b d m) (hn : l.length ≤ 1000000) (hm : m.length ≤ 1000000) :
    Calls Tryd.prog 10 #[.slice a l.length c, .slice b m.length d] w (RetB (.bool (Na.eqv l m)) w) := by
  have H1 := na_cmp_any a c l b d m w h h' hn hm
  obtain ⟨z, hz⟩ : ∃ z, z = Na.cmp l m := ⟨_, rfl⟩
  have hz0 : decide (Na.val l = Na.val m) = (z == 0) := by
    rw [hz, Na.cmp, Bool.eq_iff_iff]
    simp only [decide_eq_true_eq, beq_iff_eq]
    split
    · constructor <;> intro h <;> omega
    · split
      · constructor <;> intro h <;> omega
      · constructor
        · intro _; rfl
        · intro _; omega
  rw [← hz] at H1
  have e := Lib.hid (show Na.eqv l m = (decide (l.length = m.length) && (z == 0)) by rw [Na.eqv, hz0])
  have H1' := Lib.hid H1
  clear H1 hz hz0
  by_cases hl : l.length = m.length
  · have hb : ((l.length : Int) == (m.length : Int)) = true := by simp [hl]
    have e2 := Lib.hid (show Na.eqv l m = (z == 0) by rw [e.out, hl]; simp)
    clear hl
    go_enter Tryd.func10, Tryd.ntmps10
    go_wp2_with (go_at_call 15; (with_reducible refine (H1'.out).mono ?_); rintro e w1 ⟨rfl, hb_w1⟩; have hB_w1 : Below (w).heap.size (w) w1 := Below.trans (by (repeat (first | exact Below.refl _ _ | assumption | refine Below.setCell ?_ (by first | omega | (simp <;> omega)) _ | refine Below.alloc ?_ (by first | omega | (simp <;> omega)) _ | refine Below.drew ?_ | refine below_drewN' ?_ _))) (hb_w1.mono (by first | omega | (simp <;> omega))); obtain ⟨hc_w1, hf_w1⟩ := bcell hb_w1; have hz_w1 := hb_w1.size; (try simp only [size_drew', size_drewN', World.size_alloc, World.size_setCell] at hz_w1))
    go_ret
    exact RetB.of (by rw [e2.out]; rfl) hB_w1
  · have hb : ((l.length : Int) == (m.length : Int)) = false := by simp; omega
    have e2 := Lib.hid (show Na.eqv l m = false by rw [e.out, decide_eq_false hl]; rfl)
    clear hl
    go_enter Tryd.func10, Tryd.ntmps10
    go_wp2_with fail
    go_ret
    exact RetB.of (by rw [e2.out]; rfl) (Below.refl _ _)
end Go.Proofs.YtcdndcbfmlnpjaaDoor
