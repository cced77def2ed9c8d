/- Patterns in the document: the first section that may not be there. (Printed by gen/mkd8.py.) -/
import Derived.Test.YticodcecillciaaDoorZ13
import Derived.Test.YticodcecillciaaDoorZ10
import Derived.StillTailTactics
namespace Go.Proofs.YticodcecillciaaDoor
set_option linter.all false
open Go.RowKit

/-- No text of a pattern's is too long. -/
def Txt (m : Nat) (l : List Pa.Sec) : Prop := ∀ k (h : k < l.length) j (hj : j < l[k].items.length), l[k].items[j].text.size ≤ m
theorem wrong_hit {l : List Pa.Sec} {k : Nat} (hk : k < l.length) (h : Pa.bad l k = true) (hn : ∀ i, i < k → Pa.bad l i = false) : Pa.wrong l = k := by
  unfold Pa.wrong; rw [find_range hk h hn]
theorem wrong_not {l : List Pa.Sec} (hn : ∀ i, i < l.length → Pa.bad l i = false) : Pa.wrong l = -1 := by
  unfold Pa.wrong; rw [find_range_none hn]

set_option maxRecDepth 100000 in
set_option maxHeartbeats 8000000 in
theorem r_wrong_any (l : List Pa.Sec) (v : Value) (B : Nat) (w : World) (h : SecsAt w B v l) (hB : B ≤ w.heap.size) (hl : l.length ≤ 1000) (hit : ∀ k (h : k < l.length), l[k].items.length ≤ 1000000) (ht : Txt 1000000000 l) :
    Calls Tryd.prog 30 #[v] w (RetB (.int .i64 (Pa.wrong l)) w) := by
  obtain ⟨r, hr⟩ : ∃ r, r = Pa.wrong l := ⟨_, rfl⟩
  rw [← hr]
  by_cases h0 : 0 < l.length
  · obtain ⟨b, o, c, rfl, hc, hb, hh⟩ := h.get h0
    obtain ⟨n, hn⟩ : ∃ n, n = l.length := ⟨_, rfl⟩
    rw [← hn] at hl ⊢
    have hbw : b < w.heap.size := by omega
    have HH := Lib.hid hh; have HN := Lib.hid hn; have HR := Lib.hid hr; have HIT := Lib.hid hit; have HT := Lib.hid ht; have HBB := Lib.hid hB
    clear hh hn hr hit ht h h0 hc hb
    go_enter Tryd.func30, Tryd.ntmps30
    go_wp2_with fail
    go_loopw [3] (fun i wr => ∃ k : Nat, k ≤ n ∧ i = .int .i64 (k : Int) ∧ Hid (∀ i, i < k → Pa.bad l i = false) ∧ Below w.heap.size w wr) (fun i _ => n - (intOf i).toNat)
    case atStart => exact ⟨0, Nat.zero_le _, rfl, Lib.hid (fun i h => absurd h (Nat.not_lt_zero _)), Below.refl _ _⟩
    case round =>
      obtain ⟨k, hk, rfl, HP, hbr⟩ := hrel
      have hzr := hbr.size
      by_cases hlt : k < n
      · have hkl : k < l.length := by rw [← HN.out]; exact hlt
        obtain ⟨vi, hi, d0, d1, d2⟩ := HH.out k hkl
        replace d0 := (hbr.cell (p := ⟨b, o + k * 3, none⟩) hbw).trans d0
        replace d1 := (hbr.cell (p := ⟨b, o + k * 3 + 1, none⟩) hbw).trans d1
        replace d2 := (hbr.cell (p := ⟨b, o + k * 3 + 2, none⟩) hbw).trans d2
        have hsh := r_shape_any vi l[k] B wr (hi.below hbr HBB.out) (Nat.le_trans HBB.out hzr) (HIT.out k hkl) (fun j hj => HT.out k hkl j hj)
        obtain ⟨ai, ci, rfl, _⟩ := hi.form
        rw [Pa.dShape_eq] at hsh
        unfold secV at hsh
        have hbad : Pa.bad l k = (if Pa.shape l[k] = 0 then true else if Pa.shape l[k] = 1 then false else if Pa.shape l[k] = 6 then decide (k < 3) && decide (1 < n) else decide (k = 3)) := by
          unfold Pa.bad
          rw [getElem!_pos l k hkl, ← HN.out]
        have hnx : Pa.bad l k = false → ∀ i, i < k + 1 → Pa.bad l i = false := fun hf i hi => by
          by_cases e : i = k
          · subst e; exact hf
          · exact HP.out i (by omega)
        have hyes : Pa.bad l k = true → r = k := fun hb => by rw [HR.out]; exact wrong_hit hkl hb HP.out
        have i1 : (k : Int) < (n : Int) := by omega
        have i2 : (n : Int) ≤ 1000 := by omega
        have i3 : (0 : Int) ≤ (k : Int) := by omega
        generalize Pa.shape l[k] = S at hsh hbad
        have HS := Lib.hid hsh; have HNX := Lib.hid hnx; have HY := Lib.hid hyes; have HBAD := Lib.hid hbad
        clear hsh hnx hyes hbad hi
        by_cases s0 : S = 0
        · subst s0
          have hrk : r = k := HY.out (by rw [HBAD.out]; simp; try omega)
          subst hrk
          clear HY HNX HBAD HR HP
          go_wp2_with (go_at_call 10; (with_reducible refine (HS.out).mono ?_); rintro e w1 ⟨rfl, hb_w1⟩)
          all_goals first | (go_ret; exact RetB.of rfl (hbr.trans (hb_w1.mono hzr))) | (exfalso; simp_all; done) | (exfalso; simp_all; omega)
        have t0 : (S == 0) = false := beq_eq_false_iff_ne.2 s0
        by_cases s1 : S = 1
        · subst s1
          by_cases k3 : (k : Int) = 3
          · have k3' : ((k : Int) == 3) = true := by rw [k3]; rfl
            clear k3
            have hn := HNX.out (by rw [HBAD.out]; simp; try omega)
            have HN2 := Lib.hid hn
            clear HY HNX HBAD hn
            go_wp2_with (go_at_call 10; (with_reducible refine (HS.out).mono ?_); rintro e w1 ⟨rfl, hb_w1⟩)
            go_roundw
            case rel => exact ⟨k + 1, by omega, by go_num, HN2, hbr.trans (hb_w1.mono hzr)⟩
            case measure => simp [intOf]; omega
          · have k3' : ((k : Int) == 3) = false := beq_eq_false_iff_ne.2 k3
            have hn := HNX.out (by rw [HBAD.out]; simp; try omega)
            have HN2 := Lib.hid hn
            clear HY HNX HBAD hn
            go_wp2_with (go_at_call 10; (with_reducible refine (HS.out).mono ?_); rintro e w1 ⟨rfl, hb_w1⟩)
            go_roundw
            case rel => exact ⟨k + 1, by omega, by go_num, HN2, hbr.trans (hb_w1.mono hzr)⟩
            case measure => simp [intOf]; omega
        have t1 : (S == 1) = false := beq_eq_false_iff_ne.2 s1
        by_cases s6 : S = 6
        · subst s6
          by_cases k3 : (k : Int) < 3
          · have k3' : ((k : Int) == 3) = false := beq_eq_false_iff_ne.2 (by omega)
            by_cases n1 : (1 : Int) < (n : Int)
            · have k4 : k < 3 ∧ 1 < n := by omega
              have hrk : r = k := HY.out (by rw [HBAD.out]; simp; try omega)
              subst hrk
              clear HY HNX HBAD HR HP
              go_wp2_with (go_at_call 10; (with_reducible refine (HS.out).mono ?_); rintro e w1 ⟨rfl, hb_w1⟩)
              all_goals first | (go_ret; exact RetB.of rfl (hbr.trans (hb_w1.mono hzr))) | (exfalso; simp_all; done) | (exfalso; simp_all; omega)
            · have k4 : ¬ 1 < n := by omega
              have hn := HNX.out (by rw [HBAD.out]; simp; try omega)
              have HN2 := Lib.hid hn
              clear HY HNX HBAD hn
              go_wp2_with (go_at_call 10; (with_reducible refine (HS.out).mono ?_); rintro e w1 ⟨rfl, hb_w1⟩)
              go_roundw
              case rel => exact ⟨k + 1, by omega, by go_num, HN2, hbr.trans (hb_w1.mono hzr)⟩
              case measure => simp [intOf]; omega
          · have k4 : ¬ k < 3 := by omega
            by_cases k5 : (k : Int) = 3
            · have k3' : ((k : Int) == 3) = true := by rw [k5]; rfl
              clear k5
              have hn := HNX.out (by rw [HBAD.out]; simp; try omega)
              have HN2 := Lib.hid hn
              clear HY HNX HBAD hn
              go_wp2_with (go_at_call 10; (with_reducible refine (HS.out).mono ?_); rintro e w1 ⟨rfl, hb_w1⟩)
              go_roundw
              case rel => exact ⟨k + 1, by omega, by go_num, HN2, hbr.trans (hb_w1.mono hzr)⟩
              case measure => simp [intOf]; omega
            · have k3' : ((k : Int) == 3) = false := beq_eq_false_iff_ne.2 k5
              have hn := HNX.out (by rw [HBAD.out]; simp; try omega)
              have HN2 := Lib.hid hn
              clear HY HNX HBAD hn
              go_wp2_with (go_at_call 10; (with_reducible refine (HS.out).mono ?_); rintro e w1 ⟨rfl, hb_w1⟩)
              go_roundw
              case rel => exact ⟨k + 1, by omega, by go_num, HN2, hbr.trans (hb_w1.mono hzr)⟩
              case measure => simp [intOf]; omega
        have t6 : (S == 6) = false := beq_eq_false_iff_ne.2 s6
        by_cases k5 : (k : Int) = 3
        · have k3' : ((k : Int) == 3) = true := by rw [k5]; rfl
          have u1 : (S != 1) = true := bne_iff_ne.2 s1
          have u6 : (S != 6) = true := bne_iff_ne.2 s6
          have k4 : k = 3 := by omega
          have hrk : r = k := HY.out (by rw [HBAD.out, if_neg s0, if_neg s1, if_neg s6, decide_eq_true k4])
          subst hrk
          clear k4 k5 HY HNX HBAD HR HP
          go_wp2_with (go_at_call 10; (with_reducible refine (HS.out).mono ?_); rintro e w1 ⟨rfl, hb_w1⟩)
          all_goals first | (go_ret; exact RetB.of rfl (hbr.trans (hb_w1.mono hzr))) | (exfalso; simp_all; done) | (exfalso; simp_all; omega)
        · have k3' : ((k : Int) == 3) = false := beq_eq_false_iff_ne.2 k5
          have k4 : ¬ k = 3 := by omega
          have hn := HNX.out (by rw [HBAD.out, if_neg s0, if_neg s1, if_neg s6, decide_eq_false k4])
          have HN2 := Lib.hid hn
          clear HY HNX HBAD hn
          go_wp2_with (go_at_call 10; (with_reducible refine (HS.out).mono ?_); rintro e w1 ⟨rfl, hb_w1⟩)
          go_roundw
          case rel => exact ⟨k + 1, by omega, by go_num, HN2, hbr.trans (hb_w1.mono hzr)⟩
          case measure => simp [intOf]; omega
      · have hkk : k = n := by omega
        subst hkk
        have hrk : r = -1 := by rw [HR.out]; exact wrong_not fun i hi => HP.out i (by rw [HN.out]; exact hi)
        subst hrk
        clear HR HP
        go_wp2
        go_ret
        exact RetB.of rfl hbr
  · have e1 : l = [] := List.length_eq_zero_iff.1 (by omega)
    subst e1
    obtain ⟨a, c, rfl, _⟩ := h.form
    obtain rfl : r = -1 := hr
    clear h h0 hit ht
    simp only [List.length_nil]
    go_enter Tryd.func30, Tryd.ntmps30
    go_wp2_with fail
    go_loopw [3] (fun i wr => i = .int .i64 0 ∧ Below w.heap.size w wr) (fun _ _ => 0)
    case atStart => exact ⟨rfl, Below.refl _ _⟩
    case round =>
      obtain ⟨rfl, hbw⟩ := hrel
      go_wp2
      go_ret
      exact RetB.of rfl hbw
end Go.Proofs.YticodcecillciaaDoor

/- Patterns in the document, and in the program: is a pattern right? -/
namespace Go.Proofs.YticodcecillciaaDoor
set_option linter.all false
open Go.RowKit

theorem total_take (l : List Pa.Sec) (k : Nat) (h : k < l.length) : Pa.total (l.take (k + 1)) = Pa.total (l.take k) + l[k].items.length := by
  unfold Pa.total
  rw [List.take_succ_eq_append_getElem h, List.map_append, List.sum_append]
  simp only [List.map_cons, List.map_nil, List.sum_cons, List.sum_nil, Nat.add_zero]
theorem total_le (l : List Pa.Sec) (k : Nat) : Pa.total (l.take k) ≤ Pa.total l := by
  have : Pa.total l = Pa.total (l.take k) + Pa.total (l.drop k) := by
    unfold Pa.total
    conv => lhs; rw [← List.take_append_drop k l]
    rw [List.map_append, List.sum_append]
  omega
theorem total_item (l : List Pa.Sec) (k : Nat) (h : k < l.length) : l[k].items.length ≤ Pa.total l := by
  have := total_take l k h
  have := total_le l (k + 1)
  omega
theorem right_len {l : List Pa.Sec} (h : l.length < 1 ∨ 4 < l.length) : Pa.right l = false := by
  unfold Pa.right
  rcases h with h | h
  · rw [decide_eq_false (by omega)]; rfl
  · rw [decide_eq_false (show ¬ l.length ≤ 4 by omega)]; simp
theorem right_total {l : List Pa.Sec} (h : 100 < Pa.total l) : Pa.right l = false := by
  unfold Pa.right
  rw [decide_eq_false (show ¬ Pa.total l ≤ 100 by omega)]; simp
theorem right_end {l : List Pa.Sec} (h1 : 1 ≤ l.length) (h2 : l.length ≤ 4) (h3 : Pa.total l ≤ 100) : Pa.right l = decide (Pa.wrong l < 0) := by
  unfold Pa.right
  rw [decide_eq_true h1, decide_eq_true h2, decide_eq_true h3]; rfl

set_option maxRecDepth 100000 in
set_option maxHeartbeats 8000000 in
theorem r_right_any (l : List Pa.Sec) (v : Value) (B : Nat) (w : World) (h : SecsAt w B v l) (hB : B ≤ w.heap.size) (hl : l.length ≤ 1000) (hit : ∀ k (h : k < l.length), l[k].items.length ≤ 1000000) (ht : Txt 1000000000 l) :
    Calls Tryd.prog 12 #[v] w (RetB (.bool (Pa.right l)) w) := by
  by_cases h0 : 0 < l.length
  · by_cases h4 : l.length ≤ 4
    · have hwr := fun (W : World) (hW : Below w.heap.size w W) => r_wrong_any l v B W (h.below hW hB) (Nat.le_trans hB hW.size) hl hit ht
      obtain ⟨b, o, c, rfl, hc, hb, hh⟩ := h.get h0
      obtain ⟨n, hn⟩ : ∃ n, n = l.length := ⟨_, rfl⟩
      rw [← hn] at hl h0 h4 hwr ⊢
      obtain ⟨r, hr⟩ : ∃ r, r = Pa.right l := ⟨_, rfl⟩
      rw [← hr]
      obtain ⟨W0, hW0⟩ : ∃ W0, W0 = Pa.wrong l := ⟨_, rfl⟩
      rw [← hW0] at hwr
      have hbw : b < w.heap.size := by omega
      have n1 : ¬ (n : Int) < 1 := by omega
      have n4 : ¬ (4 : Int) < (n : Int) := by omega
      have HH := Lib.hid hh; have HN := Lib.hid hn; have HR := Lib.hid hr; have HIT := Lib.hid hit; have HW := Lib.hid hwr; have HW0 := Lib.hid hW0
      clear hh hn hr hit ht h h0 hc hb hwr hW0
      go_enter Tryd.func12, Tryd.ntmps12
      go_wp2_with fail
      go_loopw [3, 4] (fun t i wr => ∃ k : Nat, k ≤ n ∧ i = .int .i64 (k : Int) ∧ t = .int .i64 (Pa.total (l.take k) : Nat) ∧ Pa.total (l.take k) ≤ 100 * k ∧ Below w.heap.size w wr) (fun _ i _ => n - (intOf i).toNat)
      case atStart => exact ⟨0, Nat.zero_le _, rfl, rfl, by simp [Pa.total], Below.refl _ _⟩
      case round =>
        obtain ⟨k, hk, rfl, rfl, htk, hbr⟩ := hrel
        have hzr := hbr.size
        by_cases hlt : k < n
        · have hkl : k < l.length := by rw [← HN.out]; exact hlt
          obtain ⟨vi, hi, d0, _⟩ := HH.out k hkl
          replace d0 := (hbr.cell (p := ⟨b, o + k * 3, none⟩) hbw).trans d0
          obtain ⟨ai, ci, rfl, _⟩ := hi.form
          have htt := total_take l k hkl
          have htl := total_item l k hkl
          obtain ⟨T, hT⟩ : ∃ T, T = Pa.total (l.take k) := ⟨_, rfl⟩
          rw [← hT] at htk htt ⊢
          obtain ⟨m, hm⟩ : ∃ m, m = l[k].items.length := ⟨_, rfl⟩
          rw [← hm] at d0 htt htl
          have i1 : (k : Int) < (n : Int) := by omega
          have i2 : (T : Int) ≤ 400 := by omega
          clear hi
          by_cases hm1 : m ≤ 100
          · have j1 : ¬ (100 : Int) < (m : Int) := by omega
            have j2 : (m : Int) ≤ 100 := by omega
            have HTT := Lib.hid htt
            clear htt htl hT hm
            go_wp2_with fail
            go_roundw
            case rel => exact ⟨k + 1, by omega, by go_num, by rw [HTT.out]; go_num, by rw [HTT.out]; omega, by (repeat (first | exact Below.refl _ _ | assumption | refine Below.setCell ?_ (by first | omega | (simp <;> omega)) _ | refine Below.alloc ?_ (by first | omega | (simp <;> omega)) _ | refine Below.drew ?_ | refine below_drewN' ?_ _))⟩
            case measure => simp [intOf]; omega
          · have j1 : (100 : Int) < (m : Int) := by omega
            have hrf : r = false := by rw [HR.out]; exact right_total (by omega)
            subst hrf
            clear htt htl hT hm HR
            go_wp2_with fail
            go_ret
            exact RetB.of rfl (by (repeat (first | exact Below.refl _ _ | assumption | refine Below.setCell ?_ (by first | omega | (simp <;> omega)) _ | refine Below.alloc ?_ (by first | omega | (simp <;> omega)) _ | refine Below.drew ?_ | refine below_drewN' ?_ _)))
        · have hkk : k = n := by omega
          subst hkk
          rw [List.take_of_length_le (by rw [← HN.out]; exact Nat.le_refl _)] at htk ⊢
          have hr := HR.out
          obtain ⟨T, hT⟩ : ∃ T, T = Pa.total l := ⟨_, rfl⟩
          rw [← hT] at htk ⊢
          by_cases h100 : T ≤ 100
          · have j1 : (T : Int) ≤ 100 := by omega
            have hre : r = decide (W0 < 0) := by rw [hr, HW0.out]; exact right_end (by rw [← HN.out]; omega) (by rw [← HN.out]; omega) (by omega)
            have HRE := Lib.hid hre
            clear hre hr HR hT
            go_wp2_with (go_at_call 30; (with_reducible refine (HW.out _ (by (repeat (first | exact Below.refl _ _ | assumption | refine Below.setCell ?_ (by first | omega | (simp <;> omega)) _ | refine Below.alloc ?_ (by first | omega | (simp <;> omega)) _ | refine Below.drew ?_ | refine below_drewN' ?_ _)))).mono ?_); rintro e w1 ⟨rfl, hb_w1⟩)
            go_ret
            exact RetB.of (by rw [HRE.out]; rfl) (hbr.trans (hb_w1.mono hzr))
          · have j1 : ¬ (T : Int) ≤ 100 := by omega
            have hrf : r = false := by rw [hr]; exact right_total (by omega)
            subst hrf
            clear hr HR hT
            go_wp2_with fail
            go_ret
            exact RetB.of rfl (by (repeat (first | exact Below.refl _ _ | assumption | refine Below.setCell ?_ (by first | omega | (simp <;> omega)) _ | refine Below.alloc ?_ (by first | omega | (simp <;> omega)) _ | refine Below.drew ?_ | refine below_drewN' ?_ _)))
    · rw [right_len (.inr (by omega))]
      obtain ⟨a, c, rfl, _⟩ := h.form
      have n1 : ¬ (l.length : Int) < 1 := by omega
      have n4 : (4 : Int) < (l.length : Int) := by omega
      clear h hit ht
      generalize l.length = n at *
      go_enter Tryd.func12, Tryd.ntmps12
      go_wp2_with fail
      go_ret
      exact RetB.of rfl (by (repeat (first | exact Below.refl _ _ | assumption | refine Below.setCell ?_ (by first | omega | (simp <;> omega)) _ | refine Below.alloc ?_ (by first | omega | (simp <;> omega)) _ | refine Below.drew ?_ | refine below_drewN' ?_ _)))
  · have e1 : l = [] := List.length_eq_zero_iff.1 (by omega)
    subst e1
    obtain ⟨a, c, rfl, _⟩ := h.form
    rw [show Pa.right [] = false from rfl]
    clear h h0 hit ht
    simp only [List.length_nil]
    go_enter Tryd.func12, Tryd.ntmps12
    go_wp2_with fail
    go_ret
    exact RetB.of rfl (by (repeat (first | exact Below.refl _ _ | assumption | refine Below.setCell ?_ (by first | omega | (simp <;> omega)) _ | refine Below.alloc ?_ (by first | omega | (simp <;> omega)) _ | refine Below.drew ?_ | refine below_drewN' ?_ _)))
end Go.Proofs.YticodcecillciaaDoor

/- Patterns in the program: the steps of the reader, both ways of each: a comma, a rune, a new section. -/
namespace Go.Proofs.YticodcecillciaaDoor
set_option linter.all false
open Go.RowKit

theorem rd_comma_any (y : Lay) (s : ByteArray) (st : Pa.St) (base p : Nat) (w : World) (h : RdAt w base y s st) (hb : base ≤ w.heap.size) (hf : Fit s st) (hp : st.pos = p + 1) (ho : st.opn = true → 0 < p) :
    Calls Tryd.prog 56 #[.pointer (some ⟨y.R, 0, none⟩), .int .i64 (p : Int)] w (PutR w base y.R s (Pa.comma s p st)) := by
  have hps := hf.pos
  unfold Pa.comma
  simp only
  cases hopn : st.opn with
  | false =>
    rw [if_pos (.inl rfl)]
    exact rd_comma_shut y s st base p w h hps hf.size hopn hb
  | true =>
    have hp0 := ho hopn
    obtain ⟨q, rfl⟩ : ∃ q, p = q + 1 := ⟨p - 1, by omega⟩
    by_cases hd : st.pos < s.size ∧ Pa.isDigit (Pa.ch s st.pos) = true
    · have e : (decide (st.pos < s.size) && Pa.isDigit (Pa.ch s st.pos)) = true := by rw [hd.2, decide_eq_true hd.1]; rfl
      rw [e, Nat.add_sub_cancel]
      by_cases h44 : Pa.ch s q = 44
      · rw [if_pos (.inr ⟨rfl, h44⟩)]
        exact rd_comma_twice y s st base q w h hf.size hopn hb hd.1 hd.2 (by omega) h44
      · rw [if_neg (by simp [h44]), if_pos rfl]
        have := rd_comma_group y s st base q w h hf.size hopn hb hf.some hf.four hd.1 hd.2 (by omega) h44
        rw [hopn] at this
        exact this
    · have e : (decide (st.pos < s.size) && Pa.isDigit (Pa.ch s st.pos)) = false := by
        rw [Bool.and_eq_false_iff, decide_eq_false_iff_not]
        by_cases h1 : st.pos < s.size
        · right; exact Bool.eq_false_iff.2 fun h2 => hd ⟨h1, h2⟩
        · exact .inl h1
      rw [e, if_neg (by simp), if_neg (by simp)]
      have := rd_comma_scale y s st base ((q + 1 : Nat) : Int) w h hps hf.size hopn hb hf.some hf.four hd hf.scale
      rw [hopn] at this
      exact this

/-- The library's tables for runes are laid, below what is the call's own. -/
def U8b (base : Nat) (w : World) : Prop := Lib.Utf8Tabs 0 1 w ∧ 0 < base ∧ 1 < base
theorem U8b.on {w w' : World} {base : Nat} (h : U8b base w) (hb : Below base w w') : U8b base w' := by
  obtain ⟨⟨h1, h2⟩, l1, l2⟩ := h
  exact ⟨⟨fun c hc => (hb.cell (p := ⟨0, c, none⟩) l1).trans (h1 c hc), fun i hi => ⟨(hb.cell (p := ⟨1, 2 * i, none⟩) l2).trans (h2 i hi).1, (hb.cell (p := ⟨1, 2 * i + 1, none⟩) l2).trans (h2 i hi).2⟩⟩, l1, l2⟩
theorem U8b.u8 {w : World} {base : Nat} (h : U8b base w) (hb : base ≤ w.heap.size) : U8 w := ⟨h.1, by have := h.2.1; omega, by have := h.2.2; omega⟩
theorem U8.b {w : World} (h : U8 w) : U8b w.heap.size w := h

/-- What a call of rune1 gives, both ways. -/
def RuneR (w : World) (base R : Nat) (s : ByteArray) (r : Pa.M (ByteArray × Pa.St)) (e : Ending) (w' : World) : Prop := match r with
  | .ok x => RuneOk w base R s x.1 x.2 e w'
  | .error (c, p) => RdErr w base c p e w'
theorem rd_rune_any (y : Lay) (s : ByteArray) (st : Pa.St) (base : Nat) (p : Int) (w : World) (h : RdAt w base y s st) (hb : base ≤ w.heap.size) (hp : st.pos ≤ s.size) (hs : s.size ≤ 1000000) (hu : U8 w) :
    Calls Tryd.prog 55 #[.pointer (some ⟨y.R, 0, none⟩), .int .i64 p] w (RuneR w base y.R s (Pa.rune s p st)) := by
  unfold Pa.rune
  simp only
  by_cases hr : (Lib.decodeGo (s.extract st.pos s.size)).2 = 0 ∨ ((Lib.decodeGo (s.extract st.pos s.size)).1 = 65533 ∧ (Lib.decodeGo (s.extract st.pos s.size)).2 = 1)
  · rw [if_pos hr]
    exact rd_rune_err y s st base p w h hb hp hs hu hr
  · rw [if_neg hr]
    have hlt : st.pos < s.size := by
      by_cases e : st.pos < s.size
      · exact e
      · exfalso; rw [Pa.dec_none s _ e] at hr; simp at hr
    exact rd_rune_ok y s st base p w h hb hp hs hu hr (by rw [Pa.dec_eq s _ hlt]; exact Pa.dec_le s _ hlt)

theorem rd_begin_any (y : Lay) (s : ByteArray) (st : Pa.St) (base : Nat) (w : World) (h : RdAt w base y s st) (hb : base ≤ w.heap.size) (h4 : st.secs.length ≤ 4) (hbl : st.begins.length ≤ 4) (hp : st.pos ≤ 1000000) :
    Calls Tryd.prog 36 #[.pointer (some ⟨y.R, 0, none⟩)] w (PutR w base y.R s (Pa.beg st)) := by
  unfold Pa.beg
  by_cases e : st.secs.length = 4
  · rw [if_pos e]
    exact rd_begin_err y s st base w h e hp
  · rw [if_neg e]
    exact rd_begin_ok y s st base w h hb (by omega) hbl hp
end Go.Proofs.YticodcecillciaaDoor

/- Patterns in the program: one step of the reader: a semicolon, a comma, what stands for itself. (Printed by gen/mkp29.py.) -/
namespace Go.Proofs.YticodcecillciaaDoor
set_option linter.all false
open Go.RowKit


theorem rd_other_at (y : Lay) (s : ByteArray) (st : Pa.St) (base p : Nat) (w : World) (h : RdAt w base y s st) (hb : base ≤ w.heap.size) (hf : Fit s st) (hp : st.pos = p + 1) (hlt : p < s.size) :
    Calls Tryd.prog 57 #[.pointer (some ⟨y.R, 0, none⟩), .int .u8 ((Pa.ch s p : Nat) : Int), .int .i64 (p : Int)] w (PutR w base y.R s (Pa.other s (Pa.ch s p) p st)) := by
  have := rd_other_any y s st base p s[p] w h hb hf hp
  have e : Pa.ch s p = s[p].toNat := by unfold Pa.ch; rw [dif_pos hlt]
  rw [e]
  exact this


set_option maxRecDepth 100000 in
set_option maxHeartbeats 4000000 in
theorem rd_one_begin (y : Lay) (s : ByteArray) (st : Pa.St) (base : Nat) (w : World) (h : RdAt w base y s st) (hb : base ≤ w.heap.size) (hk : Ok s st) (hp : st.pos < s.size) (hc : Pa.ch s st.pos = 59) :
    Calls Tryd.prog 37 #[.pointer (some ⟨y.R, 0, none⟩)] w (PutR w base y.R s (Pa.beg { st with pos := st.pos + 1 })) := by
  have hss := hk.fit.size
  have hk1 := hk.at (st.pos + 1) (by omega) (by omega)
  have hW := h.pos (st.pos + 1)
  have hb1 : base ≤ (w.setCell ⟨y.R, 1, none⟩ (.int .i64 ((st.pos + 1 : Nat) : Int))).heap.size := by simpa using hb
  have hcall := rd_begin_any y s { st with pos := st.pos + 1 } base _ hW hb1 hk.fit.four hk.fit.begins (by simp only; omega)
  have hix := index_ch s st.pos hp
  generalize hG : (Pa.beg { st with pos := st.pos + 1 }) = G at hcall ⊢
  clear hG
  rw [hc] at hix
  have lowR := h.low
  have r0 := h.rd.get 0 rfl
  have r1 := h.rd.get 1 rfl
  have fr := h.rd.frozen 1
  have hRl := h.rd.lt
  obtain ⟨R, vS, vF, vis⟩ := y
  simp only [] at r0 r1 fr lowR hRl hcall ⊢
  have e9 : ((st.pos : Nat) : Int) < (s.size : Int) := by omega
  obtain ⟨P, hP⟩ : ∃ P : Int, P = (st.pos : Int) := ⟨_, rfl⟩
  obtain ⟨Q, hQ⟩ : ∃ P : Int, P = ((st.pos + 1 : Nat) : Int) := ⟨_, rfl⟩
  rw [← hQ] at hcall
  simp only [← hP] at hcall r1 hix e9
  have e1 : P + 1 = Q := by omega
  have b1 : 0 ≤ P := by omega
  have b2 : P ≤ 1000000 := by omega
  have HC := Lib.hid hcall; have HLR := Lib.hid lowR
  clear hcall hW hb1 hk1 hk h hss hP hQ lowR hp hb hc
  cases G with
  | ok st' =>
    show Calls _ _ _ _ (RdOk w base R s st')
    go_enter Tryd.func37, Tryd.ntmps37
    go_wp2_with (go_at_call 36; (with_reducible refine (HC.out).mono ?_); rintro e w5 ⟨y', rfl, hy, hR', hB'⟩; have HR' := Lib.hid hR'; clear hR')
    (first | go_end0 | refine bodyPost_ret (results_none rfl _ _ _) rfl ?_)
    exact ⟨y', rfl, hy, HR'.out, Below.trans ((Below.refl _ _).setCell (p := ⟨R, 1, none⟩) HLR.out _) hB'⟩
  | error x =>
    obtain ⟨xc, xp⟩ := x
    show Calls _ _ _ _ (RdErr w base xc xp)
    go_enter Tryd.func37, Tryd.ntmps37
    go_wp2_with (go_at_call 36; (with_reducible refine (HC.out).mono ?_); rintro e w5 ⟨rfl, hB'⟩)
    exact ⟨rfl, rfl, Below.trans ((Below.refl _ _).setCell (p := ⟨R, 1, none⟩) HLR.out _) hB'⟩


set_option maxRecDepth 100000 in
set_option maxHeartbeats 4000000 in
theorem rd_one_comma (y : Lay) (s : ByteArray) (st : Pa.St) (base : Nat) (w : World) (h : RdAt w base y s st) (hb : base ≤ w.heap.size) (hk : Ok s st) (hp : st.pos < s.size) (hc : Pa.ch s st.pos = 44) :
    Calls Tryd.prog 37 #[.pointer (some ⟨y.R, 0, none⟩)] w (PutR w base y.R s (Pa.comma s st.pos { st with pos := st.pos + 1 })) := by
  have hss := hk.fit.size
  have hk1 := hk.at (st.pos + 1) (by omega) (by omega)
  have hW := h.pos (st.pos + 1)
  have hb1 : base ≤ (w.setCell ⟨y.R, 1, none⟩ (.int .i64 ((st.pos + 1 : Nat) : Int))).heap.size := by simpa using hb
  have hcall := rd_comma_any y s { st with pos := st.pos + 1 } base st.pos _ hW hb1 hk1.fit rfl hk.op
  have hix := index_ch s st.pos hp
  generalize hG : (Pa.comma s st.pos { st with pos := st.pos + 1 }) = G at hcall ⊢
  clear hG
  rw [hc] at hix
  have lowR := h.low
  have r0 := h.rd.get 0 rfl
  have r1 := h.rd.get 1 rfl
  have fr := h.rd.frozen 1
  have hRl := h.rd.lt
  obtain ⟨R, vS, vF, vis⟩ := y
  simp only [] at r0 r1 fr lowR hRl hcall ⊢
  have e9 : ((st.pos : Nat) : Int) < (s.size : Int) := by omega
  obtain ⟨P, hP⟩ : ∃ P : Int, P = (st.pos : Int) := ⟨_, rfl⟩
  obtain ⟨Q, hQ⟩ : ∃ P : Int, P = ((st.pos + 1 : Nat) : Int) := ⟨_, rfl⟩
  rw [← hQ] at hcall
  simp only [← hP] at hcall r1 hix e9
  have e1 : P + 1 = Q := by omega
  have b1 : 0 ≤ P := by omega
  have b2 : P ≤ 1000000 := by omega
  have HC := Lib.hid hcall; have HLR := Lib.hid lowR
  clear hcall hW hb1 hk1 hk h hss hP hQ lowR hp hb hc
  cases G with
  | ok st' =>
    show Calls _ _ _ _ (RdOk w base R s st')
    go_enter Tryd.func37, Tryd.ntmps37
    go_wp2_with (go_at_call 56; (with_reducible refine (HC.out).mono ?_); rintro e w5 ⟨y', rfl, hy, hR', hB'⟩; have HR' := Lib.hid hR'; clear hR')
    (first | go_end0 | refine bodyPost_ret (results_none rfl _ _ _) rfl ?_)
    exact ⟨y', rfl, hy, HR'.out, Below.trans ((Below.refl _ _).setCell (p := ⟨R, 1, none⟩) HLR.out _) hB'⟩
  | error x =>
    obtain ⟨xc, xp⟩ := x
    show Calls _ _ _ _ (RdErr w base xc xp)
    go_enter Tryd.func37, Tryd.ntmps37
    go_wp2_with (go_at_call 56; (with_reducible refine (HC.out).mono ?_); rintro e w5 ⟨rfl, hB'⟩)
    exact ⟨rfl, rfl, Below.trans ((Below.refl _ _).setCell (p := ⟨R, 1, none⟩) HLR.out _) hB'⟩


set_option maxRecDepth 100000 in
set_option maxHeartbeats 4000000 in
theorem rd_one_other (y : Lay) (s : ByteArray) (st : Pa.St) (base : Nat) (w : World) (h : RdAt w base y s st) (hb : base ≤ w.heap.size) (hk : Ok s st) (hp : st.pos < s.size) (hc : ∀ x ∈ [59, 34, 92, 95, 44, 48, 35, 63], Pa.ch s st.pos ≠ x) :
    Calls Tryd.prog 37 #[.pointer (some ⟨y.R, 0, none⟩)] w (PutR w base y.R s (Pa.other s (Pa.ch s st.pos) st.pos { st with pos := st.pos + 1 })) := by
  have hss := hk.fit.size
  have hk1 := hk.at (st.pos + 1) (by omega) (by omega)
  have hW := h.pos (st.pos + 1)
  have hb1 : base ≤ (w.setCell ⟨y.R, 1, none⟩ (.int .i64 ((st.pos + 1 : Nat) : Int))).heap.size := by simpa using hb
  have hcall := rd_other_at y s { st with pos := st.pos + 1 } base st.pos _ hW hb1 hk1.fit rfl hp
  have hix := index_ch s st.pos hp
  generalize hG : (Pa.other s (Pa.ch s st.pos) st.pos { st with pos := st.pos + 1 }) = G at hcall ⊢
  clear hG
  obtain ⟨C, hC⟩ : ∃ C : Int, C = ((Pa.ch s st.pos : Nat) : Int) := ⟨_, rfl⟩
  have cc := fun x hx => (by have := hc x hx; omega : C ≠ ((x : Nat) : Int))
  rw [← hC] at hix hcall
  have c1 : (C == 59) = false := beq_eq_false_iff_ne.2 (cc 59 (by simp))
  have c2 : (C == 34) = false := beq_eq_false_iff_ne.2 (cc 34 (by simp))
  have c3 : (C == 92) = false := beq_eq_false_iff_ne.2 (cc 92 (by simp))
  have c4 : (C == 95) = false := beq_eq_false_iff_ne.2 (cc 95 (by simp))
  have c5 : (C == 44) = false := beq_eq_false_iff_ne.2 (cc 44 (by simp))
  have c6 : (C == 48) = false := beq_eq_false_iff_ne.2 (cc 48 (by simp))
  have c7 : (C == 35) = false := beq_eq_false_iff_ne.2 (cc 35 (by simp))
  have c8 : (C == 63) = false := beq_eq_false_iff_ne.2 (cc 63 (by simp))
  clear cc hC
  have lowR := h.low
  have r0 := h.rd.get 0 rfl
  have r1 := h.rd.get 1 rfl
  have fr := h.rd.frozen 1
  have hRl := h.rd.lt
  obtain ⟨R, vS, vF, vis⟩ := y
  simp only [] at r0 r1 fr lowR hRl hcall ⊢
  have e9 : ((st.pos : Nat) : Int) < (s.size : Int) := by omega
  obtain ⟨P, hP⟩ : ∃ P : Int, P = (st.pos : Int) := ⟨_, rfl⟩
  obtain ⟨Q, hQ⟩ : ∃ P : Int, P = ((st.pos + 1 : Nat) : Int) := ⟨_, rfl⟩
  rw [← hQ] at hcall
  simp only [← hP] at hcall r1 hix e9
  have e1 : P + 1 = Q := by omega
  have b1 : 0 ≤ P := by omega
  have b2 : P ≤ 1000000 := by omega
  have HC := Lib.hid hcall; have HLR := Lib.hid lowR
  clear hcall hW hb1 hk1 hk h hss hP hQ lowR hp hb hc
  cases G with
  | ok st' =>
    show Calls _ _ _ _ (RdOk w base R s st')
    go_enter Tryd.func37, Tryd.ntmps37
    go_wp2_with (go_at_call 57; (with_reducible refine (HC.out).mono ?_); rintro e w5 ⟨y', rfl, hy, hR', hB'⟩; have HR' := Lib.hid hR'; clear hR')
    (first | go_end0 | refine bodyPost_ret (results_none rfl _ _ _) rfl ?_)
    exact ⟨y', rfl, hy, HR'.out, Below.trans ((Below.refl _ _).setCell (p := ⟨R, 1, none⟩) HLR.out _) hB'⟩
  | error x =>
    obtain ⟨xc, xp⟩ := x
    show Calls _ _ _ _ (RdErr w base xc xp)
    go_enter Tryd.func37, Tryd.ntmps37
    go_wp2_with (go_at_call 57; (with_reducible refine (HC.out).mono ?_); rintro e w5 ⟨rfl, hB'⟩)
    exact ⟨rfl, rfl, Below.trans ((Below.refl _ _).setCell (p := ⟨R, 1, none⟩) HLR.out _) hB'⟩

end Go.Proofs.YticodcecillciaaDoor

/- Patterns in the program: one step of the reader: a stroke, a low stroke, a digit. (Printed by gen/mkp30.py.) -/
namespace Go.Proofs.YticodcecillciaaDoor
set_option linter.all false
open Go.RowKit


set_option maxRecDepth 100000 in
set_option maxHeartbeats 4000000 in
theorem rd_one_stroke (y : Lay) (s : ByteArray) (st : Pa.St) (base : Nat) (w : World) (h : RdAt w base y s st) (hb : base ≤ w.heap.size) (hk : Ok s st) (hp : st.pos < s.size) (hu : U8b base w) (hc : Pa.ch s st.pos = 92) :
    Calls Tryd.prog 37 #[.pointer (some ⟨y.R, 0, none⟩)] w (PutR w base y.R s ((Pa.rune s st.pos { st with pos := st.pos + 1 }).bind fun x => Pa.put 1 x.1 st.pos x.2)) := by
  have hss := hk.fit.size
  have hk1 := hk.at (st.pos + 1) (by omega) (by omega)
  have hW := h.pos (st.pos + 1)
  have hb1 : base ≤ (w.setCell ⟨y.R, 1, none⟩ (.int .i64 ((st.pos + 1 : Nat) : Int))).heap.size := by simpa using hb
  have hu1 : U8 (w.setCell ⟨y.R, 1, none⟩ (.int .i64 ((st.pos + 1 : Nat) : Int))) := (hu.on ((Below.refl base w).setCell (p := ⟨y.R, 1, none⟩) h.low _)).u8 hb1
  have hrune := rd_rune_any y s { st with pos := st.pos + 1 } base st.pos _ hW hb1 (by simp only; omega) hss hu1
  have hix := index_ch s st.pos hp
  have hinv := fun x (e : Pa.rune s st.pos { st with pos := st.pos + 1 } = .ok x) => hk1.rune e
  generalize hG : Pa.rune s st.pos { st with pos := st.pos + 1 } = G at hrune hinv ⊢
  clear hG
  rw [hc] at hix
  have lowR := h.low
  have r0 := h.rd.get 0 rfl
  have r1 := h.rd.get 1 rfl
  have fr := h.rd.frozen 1
  have hRl := h.rd.lt
  obtain ⟨R, vS, vF, vis⟩ := y
  simp only [] at r0 r1 fr lowR hRl hrune ⊢
  have e9 : ((st.pos : Nat) : Int) < (s.size : Int) := by omega
  obtain ⟨P, hP⟩ : ∃ P : Int, P = (st.pos : Int) := ⟨_, rfl⟩
  obtain ⟨Q, hQ⟩ : ∃ P : Int, P = ((st.pos + 1 : Nat) : Int) := ⟨_, rfl⟩
  rw [← hQ] at hrune
  simp only [← hP] at hrune r1 hix e9 ⊢
  have e1 : P + 1 = Q := by omega
  have b1 : 0 ≤ P := by omega
  have b2 : P ≤ 1000000 := by omega
  have HC := Lib.hid hrune; have HLR := Lib.hid lowR
  clear hrune hW hb1 hk1 hk h hss hP hQ lowR hp hc hu hu1
  have hBW : Hid (Below base w (w.setCell ⟨R, 1, none⟩ (.int .i64 Q))) := Lib.hid ((Below.refl _ _).setCell (p := ⟨R, 1, none⟩) HLR.out _)
  have HBB := Lib.hid hb; clear hb
  cases G with
  | ok x =>
    obtain ⟨T, st2⟩ := x
    obtain ⟨k2, _⟩ := hinv _ rfl
    clear hinv
    show Calls _ _ _ _ (PutR w base R s (Pa.put 1 (T) P st2))
    have hput := fun (y2 : Lay) (W : World) (h2 : RdAt W base y2 s st2) (hbW : base ≤ W.heap.size) => rd_put_any y2 s st2 base 1 P (T) W h2 hbW k2.fit
    have HPUT := Lib.hid hput
    clear hput k2
    cases e : Pa.put 1 (T) P st2 with
    | ok st' =>
      rw [e] at HPUT
      clear e
      (try unfold Pa.ba at HPUT)
      show Calls _ _ _ _ (RdOk w base R s st')
      go_enter Tryd.func37, Tryd.ntmps37
      go_wp2_with (first
        | (go_at_call 55; (with_reducible refine (HC.out).mono ?_); rintro e w4 ⟨⟨R4, vS4, vF4, vis4⟩, rfl, hy4, hR4, hB4⟩; (obtain rfl : R4 = R := hy4); have HR4 := Lib.hid hR4; clear hR4)
        | (go_at_call 54; (with_reducible refine (HPUT.out ⟨R4, vS4, vF4, vis4⟩ _ HR4.out (by have := hBW.out.size; have := hB4.size; have := HBB.out; omega)).mono ?_); rintro e w5 ⟨y', rfl, hy, hR', hB'⟩; have HR' := Lib.hid hR'; clear hR'))
      (first | go_end0 | refine bodyPost_ret (results_none rfl _ _ _) rfl ?_)
      exact ⟨y', rfl, hy, HR'.out, (hBW.out.trans hB4).trans hB'⟩
    | error x =>
      obtain ⟨xc, xp⟩ := x
      rw [e] at HPUT
      clear e
      (try unfold Pa.ba at HPUT)
      show Calls _ _ _ _ (RdErr w base xc xp)
      go_enter Tryd.func37, Tryd.ntmps37
      go_wp2_with (first
        | (go_at_call 55; (with_reducible refine (HC.out).mono ?_); rintro e w4 ⟨⟨R4, vS4, vF4, vis4⟩, rfl, hy4, hR4, hB4⟩; (obtain rfl : R4 = R := hy4); have HR4 := Lib.hid hR4; clear hR4)
        | (go_at_call 54; (with_reducible refine (HPUT.out ⟨R4, vS4, vF4, vis4⟩ _ HR4.out (by have := hBW.out.size; have := hB4.size; have := HBB.out; omega)).mono ?_); rintro e w5 ⟨rfl, hB'⟩))
      exact ⟨rfl, rfl, (hBW.out.trans hB4).trans hB'⟩
  | error x =>
    obtain ⟨xc, xp⟩ := x
    clear hinv
    show Calls _ _ _ _ (RdErr w base xc xp)
    go_enter Tryd.func37, Tryd.ntmps37
    go_wp2_with (go_at_call 55; (with_reducible refine (HC.out).mono ?_); rintro e w5 ⟨rfl, hB'⟩)
    exact ⟨rfl, rfl, hBW.out.trans hB'⟩


set_option maxRecDepth 100000 in
set_option maxHeartbeats 4000000 in
theorem rd_one_low (y : Lay) (s : ByteArray) (st : Pa.St) (base : Nat) (w : World) (h : RdAt w base y s st) (hb : base ≤ w.heap.size) (hk : Ok s st) (hp : st.pos < s.size) (hu : U8b base w) (hc : Pa.ch s st.pos = 95) :
    Calls Tryd.prog 37 #[.pointer (some ⟨y.R, 0, none⟩)] w (PutR w base y.R s ((Pa.rune s st.pos { st with pos := st.pos + 1 }).bind fun x => Pa.put 1 (Pa.ba [32]) st.pos x.2)) := by
  have hss := hk.fit.size
  have hk1 := hk.at (st.pos + 1) (by omega) (by omega)
  have hW := h.pos (st.pos + 1)
  have hb1 : base ≤ (w.setCell ⟨y.R, 1, none⟩ (.int .i64 ((st.pos + 1 : Nat) : Int))).heap.size := by simpa using hb
  have hu1 : U8 (w.setCell ⟨y.R, 1, none⟩ (.int .i64 ((st.pos + 1 : Nat) : Int))) := (hu.on ((Below.refl base w).setCell (p := ⟨y.R, 1, none⟩) h.low _)).u8 hb1
  have hrune := rd_rune_any y s { st with pos := st.pos + 1 } base st.pos _ hW hb1 (by simp only; omega) hss hu1
  have hix := index_ch s st.pos hp
  have hinv := fun x (e : Pa.rune s st.pos { st with pos := st.pos + 1 } = .ok x) => hk1.rune e
  generalize hG : Pa.rune s st.pos { st with pos := st.pos + 1 } = G at hrune hinv ⊢
  clear hG
  rw [hc] at hix
  have lowR := h.low
  have r0 := h.rd.get 0 rfl
  have r1 := h.rd.get 1 rfl
  have fr := h.rd.frozen 1
  have hRl := h.rd.lt
  obtain ⟨R, vS, vF, vis⟩ := y
  simp only [] at r0 r1 fr lowR hRl hrune ⊢
  have e9 : ((st.pos : Nat) : Int) < (s.size : Int) := by omega
  obtain ⟨P, hP⟩ : ∃ P : Int, P = (st.pos : Int) := ⟨_, rfl⟩
  obtain ⟨Q, hQ⟩ : ∃ P : Int, P = ((st.pos + 1 : Nat) : Int) := ⟨_, rfl⟩
  rw [← hQ] at hrune
  simp only [← hP] at hrune r1 hix e9 ⊢
  have e1 : P + 1 = Q := by omega
  have b1 : 0 ≤ P := by omega
  have b2 : P ≤ 1000000 := by omega
  have HC := Lib.hid hrune; have HLR := Lib.hid lowR
  clear hrune hW hb1 hk1 hk h hss hP hQ lowR hp hc hu hu1
  have hBW : Hid (Below base w (w.setCell ⟨R, 1, none⟩ (.int .i64 Q))) := Lib.hid ((Below.refl _ _).setCell (p := ⟨R, 1, none⟩) HLR.out _)
  have HBB := Lib.hid hb; clear hb
  cases G with
  | ok x =>
    obtain ⟨T, st2⟩ := x
    obtain ⟨k2, _⟩ := hinv _ rfl
    clear hinv
    show Calls _ _ _ _ (PutR w base R s (Pa.put 1 (Pa.ba [32]) P st2))
    have hput := fun (y2 : Lay) (W : World) (h2 : RdAt W base y2 s st2) (hbW : base ≤ W.heap.size) => rd_put_any y2 s st2 base 1 P (Pa.ba [32]) W h2 hbW k2.fit
    have HPUT := Lib.hid hput
    clear hput k2
    cases e : Pa.put 1 (Pa.ba [32]) P st2 with
    | ok st' =>
      rw [e] at HPUT
      clear e
      (try unfold Pa.ba at HPUT)
      show Calls _ _ _ _ (RdOk w base R s st')
      go_enter Tryd.func37, Tryd.ntmps37
      go_wp2_with (first
        | (go_at_call 55; (with_reducible refine (HC.out).mono ?_); rintro e w4 ⟨⟨R4, vS4, vF4, vis4⟩, rfl, hy4, hR4, hB4⟩; (obtain rfl : R4 = R := hy4); have HR4 := Lib.hid hR4; clear hR4)
        | (go_at_call 54; (with_reducible refine (HPUT.out ⟨R4, vS4, vF4, vis4⟩ _ HR4.out (by have := hBW.out.size; have := hB4.size; have := HBB.out; omega)).mono ?_); rintro e w5 ⟨y', rfl, hy, hR', hB'⟩; have HR' := Lib.hid hR'; clear hR'))
      (first | go_end0 | refine bodyPost_ret (results_none rfl _ _ _) rfl ?_)
      exact ⟨y', rfl, hy, HR'.out, (hBW.out.trans hB4).trans hB'⟩
    | error x =>
      obtain ⟨xc, xp⟩ := x
      rw [e] at HPUT
      clear e
      (try unfold Pa.ba at HPUT)
      show Calls _ _ _ _ (RdErr w base xc xp)
      go_enter Tryd.func37, Tryd.ntmps37
      go_wp2_with (first
        | (go_at_call 55; (with_reducible refine (HC.out).mono ?_); rintro e w4 ⟨⟨R4, vS4, vF4, vis4⟩, rfl, hy4, hR4, hB4⟩; (obtain rfl : R4 = R := hy4); have HR4 := Lib.hid hR4; clear hR4)
        | (go_at_call 54; (with_reducible refine (HPUT.out ⟨R4, vS4, vF4, vis4⟩ _ HR4.out (by have := hBW.out.size; have := hB4.size; have := HBB.out; omega)).mono ?_); rintro e w5 ⟨rfl, hB'⟩))
      exact ⟨rfl, rfl, (hBW.out.trans hB4).trans hB'⟩
  | error x =>
    obtain ⟨xc, xp⟩ := x
    clear hinv
    show Calls _ _ _ _ (RdErr w base xc xp)
    go_enter Tryd.func37, Tryd.ntmps37
    go_wp2_with (go_at_call 55; (with_reducible refine (HC.out).mono ?_); rintro e w5 ⟨rfl, hB'⟩)
    exact ⟨rfl, rfl, hBW.out.trans hB'⟩


set_option maxRecDepth 100000 in
set_option maxHeartbeats 4000000 in
theorem rd_one_digit48 (y : Lay) (s : ByteArray) (st : Pa.St) (base : Nat) (w : World) (h : RdAt w base y s st) (hb : base ≤ w.heap.size) (hk : Ok s st) (hp : st.pos < s.size) (hc : Pa.ch s st.pos = 48) :
    Calls Tryd.prog 37 #[.pointer (some ⟨y.R, 0, none⟩)] w (PutR w base y.R s (Pa.put 2 (s.extract st.pos (st.pos + 1)) st.pos { st with pos := st.pos + 1 })) := by
  have hss := hk.fit.size
  have hk1 := hk.at (st.pos + 1) (by omega) (by omega)
  have hput := fun (nq : Nat) => rd_put_any y s { st with pos := st.pos + 1 } base 2 st.pos (s.extract st.pos (st.pos + 1)) ((w.setCell ⟨y.R, 1, none⟩ (.int .i64 ((st.pos + 1 : Nat) : Int))).drew) ((h.pos (st.pos + 1)).on ((Below.refl _ _).drew)) (by simpa using hb) hk1.fit
  have hix := index_ch s st.pos hp
  have hsl2 : ∀ W : World, (Instr.slice 9 (.string s) (some (.int .i64 ((st.pos : Nat) : Int))) (some (.int .i64 ((st.pos + 1 : Nat) : Int))) none).run Tryd.prog W = .ok (.string (s.extract st.pos (st.pos + 1))) W := fun W => by
    rw [run_slice_string_if W _ s .i64 .i64 _ _ Tryd.underlying9, if_pos (by omega), if_pos (by omega), Int.toNat_natCast, Int.toNat_natCast]
  have hT2 : s.extract ((st.pos : Nat) : Int).toNat (((st.pos + 1 : Nat) : Int)).toNat = s.extract st.pos (st.pos + 1) := by rw [Int.toNat_natCast, Int.toNat_natCast]
  generalize s.extract st.pos (st.pos + 1) = T2 at hsl2 hput hT2 ⊢
  generalize hG : Pa.put 2 T2 ((st.pos : Nat) : Int) { st with pos := st.pos + 1 } = G at hput ⊢
  clear hG
  rw [hc] at hix
  have lowR := h.low
  have r0 := h.rd.get 0 rfl
  have r1 := h.rd.get 1 rfl
  have fr := h.rd.frozen 1
  have hRl := h.rd.lt
  obtain ⟨R, vS, vF, vis⟩ := y
  simp only [] at r0 r1 fr lowR hRl hput ⊢
  have e9 : ((st.pos : Nat) : Int) < (s.size : Int) := by omega
  obtain ⟨P, hP⟩ : ∃ P : Int, P = (st.pos : Int) := ⟨_, rfl⟩
  obtain ⟨Q, hQ⟩ : ∃ P : Int, P = ((st.pos + 1 : Nat) : Int) := ⟨_, rfl⟩
  rw [← hQ] at hput hsl2 hT2
  simp only [← hP] at hput r1 hix e9 hsl2 hT2
  have e1 : P + 1 = Q := by omega
  have b1 : 0 ≤ P := by omega
  have b2 : P ≤ 1000000 := by omega
  have z0 : 0 ≤ Q := by omega
  have z1 : Q ≤ (s.size : Int) := by omega
  have z2 : P ≤ Q := by omega
  have z3 : IntKind.i64.wrap P = P := IntWalk.i64_in _ (by omega)
  have z4 : IntKind.i64.wrap Q = Q := IntWalk.i64_in _ (by omega)
  have HPUT := Lib.hid hput; have HLR := Lib.hid lowR
  clear hput hk1 hk h hss hP hQ lowR hp hb hc
  cases G with
  | ok st' =>
    show Calls _ _ _ _ (RdOk w base R s st')
    go_enter Tryd.func37, Tryd.ntmps37
    go_wp2_with fail
    refine wp_region_still_tail 12 (by kernel_rfl) (by kernel_rfl) ?_
    simp only [List.take_succ_cons, List.take_zero, List.drop_succ_cons, List.drop_zero]
    change wpStill _ _ (World.drew _) _ _ _
    repeat still_step
    try refine wpStill_nil ?_
    change wpList _ _ _ _ _ (World.drew _)
    go_wp2_with (go_at_call 54; (with_reducible refine (HPUT.out 0).mono ?_); rintro e w5 ⟨y', rfl, hy, hR', hB'⟩; have HR' := Lib.hid hR'; clear hR')
    (first | go_end0 | refine bodyPost_ret (results_none rfl _ _ _) rfl ?_)
    exact ⟨y', rfl, hy, HR'.out, Below.trans ((Below.refl _ _).setCell (p := ⟨R, 1, none⟩) HLR.out _).drew hB'⟩
  | error x =>
    obtain ⟨xc, xp⟩ := x
    show Calls _ _ _ _ (RdErr w base xc xp)
    go_enter Tryd.func37, Tryd.ntmps37
    go_wp2_with fail
    refine wp_region_still_tail 12 (by kernel_rfl) (by kernel_rfl) ?_
    simp only [List.take_succ_cons, List.take_zero, List.drop_succ_cons, List.drop_zero]
    change wpStill _ _ (World.drew _) _ _ _
    repeat still_step
    try refine wpStill_nil ?_
    change wpList _ _ _ _ _ (World.drew _)
    go_wp2_with (go_at_call 54; (with_reducible refine (HPUT.out 0).mono ?_); rintro e w5 ⟨rfl, hB'⟩)
    exact ⟨rfl, rfl, Below.trans ((Below.refl _ _).setCell (p := ⟨R, 1, none⟩) HLR.out _).drew hB'⟩


set_option maxRecDepth 100000 in
set_option maxHeartbeats 4000000 in
theorem rd_one_digit35 (y : Lay) (s : ByteArray) (st : Pa.St) (base : Nat) (w : World) (h : RdAt w base y s st) (hb : base ≤ w.heap.size) (hk : Ok s st) (hp : st.pos < s.size) (hc : Pa.ch s st.pos = 35) :
    Calls Tryd.prog 37 #[.pointer (some ⟨y.R, 0, none⟩)] w (PutR w base y.R s (Pa.put 2 (s.extract st.pos (st.pos + 1)) st.pos { st with pos := st.pos + 1 })) := by
  have hss := hk.fit.size
  have hk1 := hk.at (st.pos + 1) (by omega) (by omega)
  have hput := fun (nq : Nat) => rd_put_any y s { st with pos := st.pos + 1 } base 2 st.pos (s.extract st.pos (st.pos + 1)) ((w.setCell ⟨y.R, 1, none⟩ (.int .i64 ((st.pos + 1 : Nat) : Int))).drew) ((h.pos (st.pos + 1)).on ((Below.refl _ _).drew)) (by simpa using hb) hk1.fit
  have hix := index_ch s st.pos hp
  have hsl2 : ∀ W : World, (Instr.slice 9 (.string s) (some (.int .i64 ((st.pos : Nat) : Int))) (some (.int .i64 ((st.pos + 1 : Nat) : Int))) none).run Tryd.prog W = .ok (.string (s.extract st.pos (st.pos + 1))) W := fun W => by
    rw [run_slice_string_if W _ s .i64 .i64 _ _ Tryd.underlying9, if_pos (by omega), if_pos (by omega), Int.toNat_natCast, Int.toNat_natCast]
  have hT2 : s.extract ((st.pos : Nat) : Int).toNat (((st.pos + 1 : Nat) : Int)).toNat = s.extract st.pos (st.pos + 1) := by rw [Int.toNat_natCast, Int.toNat_natCast]
  generalize s.extract st.pos (st.pos + 1) = T2 at hsl2 hput hT2 ⊢
  generalize hG : Pa.put 2 T2 ((st.pos : Nat) : Int) { st with pos := st.pos + 1 } = G at hput ⊢
  clear hG
  rw [hc] at hix
  have lowR := h.low
  have r0 := h.rd.get 0 rfl
  have r1 := h.rd.get 1 rfl
  have fr := h.rd.frozen 1
  have hRl := h.rd.lt
  obtain ⟨R, vS, vF, vis⟩ := y
  simp only [] at r0 r1 fr lowR hRl hput ⊢
  have e9 : ((st.pos : Nat) : Int) < (s.size : Int) := by omega
  obtain ⟨P, hP⟩ : ∃ P : Int, P = (st.pos : Int) := ⟨_, rfl⟩
  obtain ⟨Q, hQ⟩ : ∃ P : Int, P = ((st.pos + 1 : Nat) : Int) := ⟨_, rfl⟩
  rw [← hQ] at hput hsl2 hT2
  simp only [← hP] at hput r1 hix e9 hsl2 hT2
  have e1 : P + 1 = Q := by omega
  have b1 : 0 ≤ P := by omega
  have b2 : P ≤ 1000000 := by omega
  have z0 : 0 ≤ Q := by omega
  have z1 : Q ≤ (s.size : Int) := by omega
  have z2 : P ≤ Q := by omega
  have z3 : IntKind.i64.wrap P = P := IntWalk.i64_in _ (by omega)
  have z4 : IntKind.i64.wrap Q = Q := IntWalk.i64_in _ (by omega)
  have HPUT := Lib.hid hput; have HLR := Lib.hid lowR
  clear hput hk1 hk h hss hP hQ lowR hp hb hc
  cases G with
  | ok st' =>
    show Calls _ _ _ _ (RdOk w base R s st')
    go_enter Tryd.func37, Tryd.ntmps37
    go_wp2_with fail
    refine wp_region_still_tail 12 (by kernel_rfl) (by kernel_rfl) ?_
    simp only [List.take_succ_cons, List.take_zero, List.drop_succ_cons, List.drop_zero]
    change wpStill _ _ (World.drew _) _ _ _
    repeat still_step
    try refine wpStill_nil ?_
    change wpList _ _ _ _ _ (World.drew _)
    go_wp2_with (go_at_call 54; (with_reducible refine (HPUT.out 0).mono ?_); rintro e w5 ⟨y', rfl, hy, hR', hB'⟩; have HR' := Lib.hid hR'; clear hR')
    (first | go_end0 | refine bodyPost_ret (results_none rfl _ _ _) rfl ?_)
    exact ⟨y', rfl, hy, HR'.out, Below.trans ((Below.refl _ _).setCell (p := ⟨R, 1, none⟩) HLR.out _).drew hB'⟩
  | error x =>
    obtain ⟨xc, xp⟩ := x
    show Calls _ _ _ _ (RdErr w base xc xp)
    go_enter Tryd.func37, Tryd.ntmps37
    go_wp2_with fail
    refine wp_region_still_tail 12 (by kernel_rfl) (by kernel_rfl) ?_
    simp only [List.take_succ_cons, List.take_zero, List.drop_succ_cons, List.drop_zero]
    change wpStill _ _ (World.drew _) _ _ _
    repeat still_step
    try refine wpStill_nil ?_
    change wpList _ _ _ _ _ (World.drew _)
    go_wp2_with (go_at_call 54; (with_reducible refine (HPUT.out 0).mono ?_); rintro e w5 ⟨rfl, hB'⟩)
    exact ⟨rfl, rfl, Below.trans ((Below.refl _ _).setCell (p := ⟨R, 1, none⟩) HLR.out _).drew hB'⟩


set_option maxRecDepth 100000 in
set_option maxHeartbeats 4000000 in
theorem rd_one_digit63 (y : Lay) (s : ByteArray) (st : Pa.St) (base : Nat) (w : World) (h : RdAt w base y s st) (hb : base ≤ w.heap.size) (hk : Ok s st) (hp : st.pos < s.size) (hc : Pa.ch s st.pos = 63) :
    Calls Tryd.prog 37 #[.pointer (some ⟨y.R, 0, none⟩)] w (PutR w base y.R s (Pa.put 2 (s.extract st.pos (st.pos + 1)) st.pos { st with pos := st.pos + 1 })) := by
  have hss := hk.fit.size
  have hk1 := hk.at (st.pos + 1) (by omega) (by omega)
  have hput := fun (nq : Nat) => rd_put_any y s { st with pos := st.pos + 1 } base 2 st.pos (s.extract st.pos (st.pos + 1)) ((w.setCell ⟨y.R, 1, none⟩ (.int .i64 ((st.pos + 1 : Nat) : Int))).drew) ((h.pos (st.pos + 1)).on ((Below.refl _ _).drew)) (by simpa using hb) hk1.fit
  have hix := index_ch s st.pos hp
  have hsl2 : ∀ W : World, (Instr.slice 9 (.string s) (some (.int .i64 ((st.pos : Nat) : Int))) (some (.int .i64 ((st.pos + 1 : Nat) : Int))) none).run Tryd.prog W = .ok (.string (s.extract st.pos (st.pos + 1))) W := fun W => by
    rw [run_slice_string_if W _ s .i64 .i64 _ _ Tryd.underlying9, if_pos (by omega), if_pos (by omega), Int.toNat_natCast, Int.toNat_natCast]
  have hT2 : s.extract ((st.pos : Nat) : Int).toNat (((st.pos + 1 : Nat) : Int)).toNat = s.extract st.pos (st.pos + 1) := by rw [Int.toNat_natCast, Int.toNat_natCast]
  generalize s.extract st.pos (st.pos + 1) = T2 at hsl2 hput hT2 ⊢
  generalize hG : Pa.put 2 T2 ((st.pos : Nat) : Int) { st with pos := st.pos + 1 } = G at hput ⊢
  clear hG
  rw [hc] at hix
  have lowR := h.low
  have r0 := h.rd.get 0 rfl
  have r1 := h.rd.get 1 rfl
  have fr := h.rd.frozen 1
  have hRl := h.rd.lt
  obtain ⟨R, vS, vF, vis⟩ := y
  simp only [] at r0 r1 fr lowR hRl hput ⊢
  have e9 : ((st.pos : Nat) : Int) < (s.size : Int) := by omega
  obtain ⟨P, hP⟩ : ∃ P : Int, P = (st.pos : Int) := ⟨_, rfl⟩
  obtain ⟨Q, hQ⟩ : ∃ P : Int, P = ((st.pos + 1 : Nat) : Int) := ⟨_, rfl⟩
  rw [← hQ] at hput hsl2 hT2
  simp only [← hP] at hput r1 hix e9 hsl2 hT2
  have e1 : P + 1 = Q := by omega
  have b1 : 0 ≤ P := by omega
  have b2 : P ≤ 1000000 := by omega
  have z0 : 0 ≤ Q := by omega
  have z1 : Q ≤ (s.size : Int) := by omega
  have z2 : P ≤ Q := by omega
  have z3 : IntKind.i64.wrap P = P := IntWalk.i64_in _ (by omega)
  have z4 : IntKind.i64.wrap Q = Q := IntWalk.i64_in _ (by omega)
  have HPUT := Lib.hid hput; have HLR := Lib.hid lowR
  clear hput hk1 hk h hss hP hQ lowR hp hb hc
  cases G with
  | ok st' =>
    show Calls _ _ _ _ (RdOk w base R s st')
    go_enter Tryd.func37, Tryd.ntmps37
    go_wp2_with fail
    refine wp_region_still_tail 12 (by kernel_rfl) (by kernel_rfl) ?_
    simp only [List.take_succ_cons, List.take_zero, List.drop_succ_cons, List.drop_zero]
    change wpStill _ _ (World.drew _) _ _ _
    repeat still_step
    try refine wpStill_nil ?_
    change wpList _ _ _ _ _ (World.drew _)
    go_wp2_with (go_at_call 54; (with_reducible refine (HPUT.out 0).mono ?_); rintro e w5 ⟨y', rfl, hy, hR', hB'⟩; have HR' := Lib.hid hR'; clear hR')
    (first | go_end0 | refine bodyPost_ret (results_none rfl _ _ _) rfl ?_)
    exact ⟨y', rfl, hy, HR'.out, Below.trans ((Below.refl _ _).setCell (p := ⟨R, 1, none⟩) HLR.out _).drew hB'⟩
  | error x =>
    obtain ⟨xc, xp⟩ := x
    show Calls _ _ _ _ (RdErr w base xc xp)
    go_enter Tryd.func37, Tryd.ntmps37
    go_wp2_with fail
    refine wp_region_still_tail 12 (by kernel_rfl) (by kernel_rfl) ?_
    simp only [List.take_succ_cons, List.take_zero, List.drop_succ_cons, List.drop_zero]
    change wpStill _ _ (World.drew _) _ _ _
    repeat still_step
    try refine wpStill_nil ?_
    change wpList _ _ _ _ _ (World.drew _)
    go_wp2_with (go_at_call 54; (with_reducible refine (HPUT.out 0).mono ?_); rintro e w5 ⟨rfl, hB'⟩)
    exact ⟨rfl, rfl, Below.trans ((Below.refl _ _).setCell (p := ⟨R, 1, none⟩) HLR.out _).drew hB'⟩

end Go.Proofs.YticodcecillciaaDoor

/- Patterns in the program: one step of the reader: a quotation mark. (Printed by gen/mkp31.py.) -/
namespace Go.Proofs.YticodcecillciaaDoor
set_option linter.all false
open Go.RowKit

theorem indexByte_str (s : ByteArray) (c : UInt8) (w : World) : Calls Tryd.prog 52 #[.string s, .int .u8 ((c.toNat : Nat) : Int)] w (Ret0 (.int .i64 (Lib.indexByte s.data.toList c)) w) := by
  have h := indexByte_call s.data.toList ((c.toNat : Nat) : Int) w
  rw [Int.toNat_natCast, show (c.toNat).toUInt8 = c by simp, Array.toArray_toList] at h
  exact h

set_option maxRecDepth 100000 in
set_option maxHeartbeats 4000000 in
theorem rd_quote_none (y : Lay) (s : ByteArray) (st : Pa.St) (base : Nat) (w : World) (h : RdAt w base y s st) (hb : base ≤ w.heap.size) (hk : Ok s st) (hp : st.pos < s.size) (hc : Pa.ch s st.pos = 34)
    (hn : Lib.indexByte (s.extract (st.pos + 1) s.size).data.toList 34 < 0) :
    Calls Tryd.prog 37 #[.pointer (some ⟨y.R, 0, none⟩)] w (RdErr w base 12 (st.pos : Int)) := by
  have hss := hk.fit.size
  have hix := index_ch s st.pos hp
  rw [hc] at hix
  have hsl : ∀ W : World, (Instr.slice 9 (.string s) (some (.int .i64 ((st.pos + 1 : Nat) : Int))) none none).run Tryd.prog W = .ok (.string (s.extract (st.pos + 1) s.size)) W := fun W => by
    rw [run_slice_string_from_if W _ s .i64 _ Tryd.underlying9, if_pos (by omega), Int.toNat_natCast]
  have hib := fun W => indexByte_str (s.extract (st.pos + 1) s.size) 34 W
  have lowR := h.low
  have r0 := h.rd.get 0 rfl
  have r1 := h.rd.get 1 rfl
  have fr := h.rd.frozen
  have hRl := h.rd.lt
  obtain ⟨R, vS, vF, vis⟩ := y
  simp only [] at r0 r1 fr lowR hRl ⊢
  have e9 : ((st.pos : Nat) : Int) < (s.size : Int) := by omega
  obtain ⟨P, hP⟩ : ∃ P : Int, P = (st.pos : Int) := ⟨_, rfl⟩
  obtain ⟨Q, hQ⟩ : ∃ P : Int, P = ((st.pos + 1 : Nat) : Int) := ⟨_, rfl⟩
  rw [← hQ] at hsl
  simp only [← hP] at r1 hix e9 ⊢
  have e1 : P + 1 = Q := by omega
  have b1 : 0 ≤ P := by omega
  have b2 : P ≤ 1000000 := by omega
  replace hib : ∀ W, Calls Tryd.prog 52 #[.string (s.extract (st.pos + 1) s.size), .int .u8 34] W (Ret0 (.int .i64 (Lib.indexByte (s.extract (st.pos + 1) s.size).data.toList 34)) W) := hib
  generalize s.extract (st.pos + 1) s.size = T at *
  generalize Lib.indexByte T.data.toList 34 = n at *
  have HC := Lib.hid hib; have HLR := Lib.hid lowR
  clear hib hk h hss hP hQ lowR hp hb hc
  go_enter Tryd.func37, Tryd.ntmps37
  go_wp2_with fail
  go_quiet (first | (go_at_call 52; with_reducible exact quiet0p (HC.out _)))
  go_wp2_with fail
  go_quiet (fail)
  go_wp2_with fail
  exact ⟨rfl, rfl, below_drewN' ((Below.refl _ _).setCell (p := ⟨R, 1, none⟩) HLR.out _) _⟩

theorem valid_call (s : ByteArray) (w : World) (hs : s.size ≤ 1000000000) (hu : U8 w) : Calls Tryd.prog 53 #[.string s] w (RetB (.bool (Lib.validD s.data.toList)) w) :=
  Tryd.utf8_ValidString s w (by omega) hu.1

set_option maxRecDepth 100000 in
set_option maxHeartbeats 4000000 in
theorem rd_quote_bad (y : Lay) (s : ByteArray) (st : Pa.St) (base n : Nat) (w : World) (h : RdAt w base y s st) (hb : base ≤ w.heap.size) (hk : Ok s st) (hp : st.pos < s.size) (hu : U8b base w) (hc : Pa.ch s st.pos = 34)
    (hn : Lib.indexByte (s.extract (st.pos + 1) s.size).data.toList 34 = n) (hns : st.pos + 1 + n < s.size) (hv : Lib.validD (s.extract (st.pos + 1) (st.pos + 1 + n)).data.toList = false) :
    Calls Tryd.prog 37 #[.pointer (some ⟨y.R, 0, none⟩)] w (RdErr w base 12 (st.pos : Int)) := by
  have hss := hk.fit.size
  have hix := index_ch s st.pos hp
  rw [hc] at hix
  have hsl : ∀ W : World, (Instr.slice 9 (.string s) (some (.int .i64 ((st.pos + 1 : Nat) : Int))) none none).run Tryd.prog W = .ok (.string (s.extract (st.pos + 1) s.size)) W := fun W => by
    rw [run_slice_string_from_if W _ s .i64 _ Tryd.underlying9, if_pos (by omega), Int.toNat_natCast]
  have hib := fun W => indexByte_str (s.extract (st.pos + 1) s.size) 34 W
  have lowR := h.low
  have r0 := h.rd.get 0 rfl
  have r1 := h.rd.get 1 rfl
  have fr := h.rd.frozen
  have hRl := h.rd.lt
  have hu1 : ∀ W, Below base (w.setCell ⟨y.R, 1, none⟩ (.int .i64 ((st.pos + 1 : Nat) : Int))) W → U8 W := fun W hW => (hu.on (((Below.refl base w).setCell (p := ⟨y.R, 1, none⟩) h.low _).trans hW)).u8 (by have := hW.size; simp at this; omega)
  have hva := fun W hW => valid_call (s.extract (st.pos + 1) (st.pos + 1 + n)) W (by rw [ByteArray.size_extract]; omega) (hu1 W hW)
  rw [hv] at hva
  have hs2 : ∀ W : World, (Instr.slice 9 (.string s) (some (.int .i64 ((st.pos + 1 : Nat) : Int))) (some (.int .i64 ((st.pos + 1 + n : Nat) : Int))) none).run Tryd.prog W = .ok (.string (s.extract (st.pos + 1) (st.pos + 1 + n))) W := fun W => by
    rw [run_slice_string_if W _ s .i64 .i64 _ _ Tryd.underlying9, if_pos (by omega), if_pos (by omega), Int.toNat_natCast, Int.toNat_natCast]
  obtain ⟨R, vS, vF, vis⟩ := y
  simp only [] at r0 r1 fr lowR hRl ⊢
  have e9 : ((st.pos : Nat) : Int) < (s.size : Int) := by omega
  obtain ⟨P, hP⟩ : ∃ P : Int, P = (st.pos : Int) := ⟨_, rfl⟩
  obtain ⟨Q, hQ⟩ : ∃ P : Int, P = ((st.pos + 1 : Nat) : Int) := ⟨_, rfl⟩
  rw [← hQ] at hsl
  simp only [← hP] at r1 hix e9 ⊢
  have e1 : P + 1 = Q := by omega
  have b1 : 0 ≤ P := by omega
  have b2 : P ≤ 1000000 := by omega
  have q0 := (h.pos (st.pos + 1)).rd.get 0 rfl
  have q1 := (h.pos (st.pos + 1)).rd.get 1 rfl
  simp only [← hQ] at q0 q1
  have cc0 : ∀ n, ((w.setCell ⟨R, 1, none⟩ (.int .i64 Q)).drewN n).drew.cell? ⟨R, 0, none⟩ = some (.string s) := fun _ => q0
  have cc1 : ∀ n, ((w.setCell ⟨R, 1, none⟩ (.int .i64 Q)).drewN n).drew.cell? ⟨R, 1, none⟩ = some (.int .i64 Q) := fun _ => q1
  clear q0 q1
  obtain ⟨Z, hZ⟩ : ∃ P : Int, P = ((st.pos + 1 + n : Nat) : Int) := ⟨_, rfl⟩
  rw [hn] at hib
  replace hib : ∀ W, Calls Tryd.prog 52 #[.string (s.extract (st.pos + 1) s.size), .int .u8 34] W (Ret0 (.int .i64 (n : Int)) W) := hib
  generalize s.extract (st.pos + 1) s.size = T at *
  have hT2 : s.extract Q.toNat Z.toNat = s.extract (st.pos + 1) (st.pos + 1 + n) := by rw [hQ, hZ, Int.toNat_natCast, Int.toNat_natCast]
  generalize s.extract (st.pos + 1) (st.pos + 1 + n) = T2 at *
  simp only [← hQ] at hva
  rw [← hQ, ← hZ] at hs2
  obtain ⟨N, hN⟩ : ∃ N : Int, N = (n : Int) := ⟨_, rfl⟩
  rw [← hN] at hib
  have z1 : Q + N = Z := by omega
  have z2 : 0 ≤ N := by omega
  have z3 : N ≤ 1000000 := by omega
  have z4 : 0 ≤ Z := by omega
  have z5 : Z ≤ 2000000 := by omega
  have z6 : decide (N < 0) = false := decide_eq_false (by omega)
  have z7 : IntKind.i64.wrap Q = Q := IntWalk.i64_in _ (by omega)
  have z8 : IntKind.i64.wrap Z = Z := IntWalk.i64_in _ (by omega)
  have z9 : 0 ≤ Q := by omega
  have y1 : Q ≤ Z := by omega
  have y2 : Z ≤ (s.size : Int) := by omega
  have y3 : s.extract Q.toNat Z.toNat = T2 := hT2
  have HC := Lib.hid hib; have HLR := Lib.hid lowR; have HV := Lib.hid hva; have HB := Lib.hid hb
  clear hib hk h hss hP hQ lowR hp hb hc hn hns hv hu hu1 hZ hN hva
  go_enter Tryd.func37, Tryd.ntmps37
  go_wp2_with fail
  go_quiet (first | (go_at_call 52; with_reducible exact quiet0p (HC.out _)))
  go_wp2_with fail
  refine wp_region_still_tail 18 (by kernel_rfl) (by kernel_rfl) ?_
  simp only [List.take_succ_cons, List.take_zero, List.drop_succ_cons, List.drop_zero]
  change wpStill _ _ (World.drew _) _ _ _
  repeat still_step
  try refine wpStill_nil ?_
  change wpList _ _ _ _ _ (World.drew _)
  go_wp2_with (go_at_call 53; (with_reducible refine (HV.out _ (by (repeat (first | exact Below.refl _ _ | assumption | refine Below.setCell ?_ (by first | omega | (simp <;> omega)) _ | refine Below.alloc ?_ (by first | omega | (simp <;> omega)) _ | refine Below.drew ?_ | refine below_drewN' ?_ _)))).mono ?_); rintro e w1 ⟨rfl, hb_w1⟩; have hB1 : Below base w w1 := Below.trans (((below_drewN' ((Below.refl _ _).setCell (p := ⟨R, 1, none⟩) HLR.out _) _).drew)) (hb_w1.mono (by simpa using HB.out)))
  exact ⟨rfl, rfl, hB1⟩
end Go.Proofs.YticodcecillciaaDoor
