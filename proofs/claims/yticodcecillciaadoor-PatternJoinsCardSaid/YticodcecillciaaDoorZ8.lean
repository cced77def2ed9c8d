/- Patterns in the document: items are counted; the first one of a kind; where the whole digits end. -/
import Derived.Test.YticodcecillciaaDoorZ7
import Derived.Test.YticodcecillciaaDoorZ1
import Derived.RangeFuncNested
import Derived.Test.YticodcecillciaaDoorZ2
import Derived.RangeFuncBox
import Derived.Maps.OwnIn
import Derived.Maps.AppendAt
import Derived.RangeFuncLeaves
import Derived.RangeFuncBound
import Derived.RangeFuncCalls
import Derived.Shelf.Abstract
import Derived.OwnWalkIn
import Derived.TacticsInMore
import Derived.LoopNIn
import Derived.LoopIn
namespace Go.Proofs.YticodcecillciaaDoor
set_option linter.all false
open Go.RowKit

set_option maxRecDepth 100000 in
set_option maxHeartbeats 2000000 in
theorem r_count_any (v : Value) (l : List Pa.It) (K : Int) (B : Nat) (w : World) (h : ItsAt w B v l) (hB : B ≤ w.heap.size) (hl : l.length ≤ 1000000) : Calls Tryd.prog 26 #[v, .int .i64 K] w (RetB (.int .i64 (Pa.cnt K l : Nat)) w) := by
  obtain ⟨r, hr⟩ : ∃ r, r = Pa.cnt K l := ⟨_, rfl⟩
  rw [← hr]
  by_cases h0 : 0 < l.length
  · obtain ⟨b, o, c, rfl, hc, hb, hh⟩ := h.get h0
    obtain ⟨n, hn⟩ : ∃ n, n = l.length := ⟨_, rfl⟩
    rw [← hn] at hl ⊢
    have hbw : b < w.heap.size := by omega
    have HH := Lib.hid hh; have HN := Lib.hid hn; have HR := Lib.hid hr
    clear hh hn hr h h0 hc hb
    go_enter Tryd.func26, Tryd.ntmps26
    go_wp2_with fail
    go_loopw [5, 6] (fun s i wr => ∃ k : Nat, k ≤ n ∧ i = .int .i64 k ∧ s = .int .i64 (Pa.cnt K (l.take k) : Nat) ∧ Below w.heap.size w wr) (fun _ i _ => n - (intOf i).toNat)
    case atStart => exact ⟨0, Nat.zero_le _, rfl, rfl, Below.refl _ _⟩
    case round =>
      obtain ⟨k, hk, rfl, rfl, hbr⟩ := hrel
      have hzr := hbr.size
      by_cases hlt : k < n
      · have hkl : k < l.length := by rw [← HN.out]; exact hlt
        obtain ⟨c0, c1⟩ := HH.out k hkl
        replace c0 := (hbr.cell (p := ⟨b, o + k * 2, none⟩) hbw).trans c0
        clear c1
        have hct := cnt_take K l k hkl
        have hcl : Pa.cnt K (l.take k) ≤ k := Nat.le_trans (cnt_le K _) (by rw [List.length_take]; omega)
        obtain ⟨q, hq⟩ : ∃ q, q = l[k].kind := ⟨_, rfl⟩
        obtain ⟨m, hm⟩ : ∃ m, m = Pa.cnt K (l.take k) := ⟨_, rfl⟩
        rw [← hq] at c0 hct
        rw [← hm] at hct hcl ⊢
        clear hq hm
        have i1 : (k : Int) < (n : Int) := by omega
        by_cases he : q = K
        · subst he
          rw [if_pos rfl] at hct
          have HCT := Lib.hid hct; clear hct
          go_wp2
          go_roundw
          case rel => exact ⟨k + 1, by omega, by go_num, by rw [HCT.out]; go_num, by (repeat (first | exact Below.refl _ _ | assumption | refine Below.setCell ?_ (by first | omega | (simp <;> omega)) _ | refine Below.alloc ?_ (by first | omega | (simp <;> omega)) _ | refine Below.drew ?_ | refine below_drewN' ?_ _))⟩
          case measure => simp [intOf]; omega
        · rw [if_neg he] at hct
          have HCT := Lib.hid hct; clear hct
          have he' : (q == K) = false := beq_eq_false_iff_ne.2 he
          clear he
          go_wp2
          go_roundw
          case rel => exact ⟨k + 1, by omega, by go_num, by rw [HCT.out]; rfl, by (repeat (first | exact Below.refl _ _ | assumption | refine Below.setCell ?_ (by first | omega | (simp <;> omega)) _ | refine Below.alloc ?_ (by first | omega | (simp <;> omega)) _ | refine Below.drew ?_ | refine below_drewN' ?_ _))⟩
          case measure => simp [intOf]; omega
      · have hkk : k = n := by omega
        subst hkk
        rw [List.take_of_length_le (by rw [← HN.out]; exact Nat.le_refl _), ← HR.out]
        go_wp2
        go_ret
        exact RetB.of rfl hbr
  · have e1 : l = [] := List.length_eq_zero_iff.1 (by omega)
    subst e1
    obtain ⟨a, c, rfl, _⟩ := h.form
    obtain rfl : r = 0 := hr
    clear h h0
    simp only [List.length_nil]
    go_enter Tryd.func26, Tryd.ntmps26
    go_wp2_with fail
    go_loopw [5, 6] (fun s i wr => i = .int .i64 0 ∧ s = .int .i64 0 ∧ Below w.heap.size w wr) (fun _ i _ => 0)
    case atStart => exact ⟨rfl, rfl, Below.refl _ _⟩
    case round =>
      obtain ⟨rfl, rfl, hbw⟩ := hrel
      go_wp2
      go_ret
      exact RetB.of rfl hbw

theorem contains_one (K q : Int) : [K].contains q = (q == K) := by rw [Bool.eq_iff_iff]; simp
set_option maxRecDepth 100000 in
set_option maxHeartbeats 2000000 in
theorem r_at_any (v : Value) (l : List Pa.It) (K : Int) (B : Nat) (w : World) (h : ItsAt w B v l) (hB : B ≤ w.heap.size) (hl : l.length ≤ 1000000) : Calls Tryd.prog 41 #[v, .int .i64 K] w (RetB (.int .i64 (Pa.cutAt [K] l : Nat)) w) := by
  obtain ⟨r, hr⟩ : ∃ r, r = Pa.cutAt [K] l := ⟨_, rfl⟩
  rw [← hr]
  by_cases h0 : 0 < l.length
  · obtain ⟨b, o, c, rfl, hc, hb, hh⟩ := h.get h0
    obtain ⟨n, hn⟩ : ∃ n, n = l.length := ⟨_, rfl⟩
    rw [← hn] at hl ⊢
    have hbw : b < w.heap.size := by omega
    have HH := Lib.hid hh; have HN := Lib.hid hn; have HR := Lib.hid hr
    clear hh hn hr h h0 hc hb
    go_enter Tryd.func41, Tryd.ntmps41
    go_wp2_with fail
    go_loopw [5] (fun i wr => ∃ k : Nat, k ≤ n ∧ i = .int .i64 k ∧ Hid (∀ i (hi : i < l.length), i < k → [K].contains l[i].kind = false) ∧ Below w.heap.size w wr) (fun i _ => n - (intOf i).toNat)
    case atStart => exact ⟨0, Nat.zero_le _, rfl, Lib.hid (fun i hi h => absurd h (Nat.not_lt_zero _)), Below.refl _ _⟩
    case round =>
      obtain ⟨k, hk, rfl, HP, hbr⟩ := hrel
      have hzr := hbr.size
      by_cases hlt : k < n
      · have hkl : k < l.length := by rw [← HN.out]; exact hlt
        obtain ⟨c0, c1⟩ := HH.out k hkl
        replace c0 := (hbr.cell (p := ⟨b, o + k * 2, none⟩) hbw).trans c0
        clear c1
        have hit := contains_one K l[k].kind
        obtain ⟨q, hq⟩ : ∃ q, q = l[k].kind := ⟨_, rfl⟩
        rw [← hq] at c0 hit
        have i1 : (k : Int) < (n : Int) := by omega
        by_cases he : q = K
        · subst he
          have hrk : r = k := by
            rw [HR.out]
            exact cutAt_of [q] l k hkl (fun i hi h => HP.out i hi h) (by rw [← hq]; simp)
          subst hrk
          clear hit hq HR HP
          go_wp2
          go_ret
          exact RetB.of rfl hbr
        · have he' : (q == K) = false := beq_eq_false_iff_ne.2 he
          have HIT := Lib.hid (hit.trans he'); have HQ := Lib.hid hq
          clear he hit hq
          go_wp2
          go_roundw
          case rel => exact ⟨k + 1, by omega, by go_num, Lib.hid (fun i hi h => by
            by_cases e : i = k
            · subst e; rw [← HQ.out]; exact HIT.out
            · exact HP.out i hi (by omega)), by (repeat (first | exact Below.refl _ _ | assumption | refine Below.setCell ?_ (by first | omega | (simp <;> omega)) _ | refine Below.alloc ?_ (by first | omega | (simp <;> omega)) _ | refine Below.drew ?_ | refine below_drewN' ?_ _))⟩
          case measure => simp [intOf]; omega
      · have hkk : k = n := by omega
        subst hkk
        have hrk : r = k := by
          rw [HR.out, cutAt_none [K] l (fun i hi => HP.out i hi (by rw [HN.out]; exact hi)), ← HN.out]
        subst hrk
        clear HR HP
        go_wp2
        go_ret
        exact RetB.of rfl hbr
  · have e1 : l = [] := List.length_eq_zero_iff.1 (by omega)
    subst e1
    obtain ⟨a, c, rfl, _⟩ := h.form
    obtain rfl : r = 0 := hr
    clear h h0
    simp only [List.length_nil]
    go_enter Tryd.func41, Tryd.ntmps41
    go_wp2_with fail
    go_loopw [5] (fun i wr => i = .int .i64 0 ∧ Below w.heap.size w wr) (fun _ _ => 0)
    case atStart => exact ⟨rfl, Below.refl _ _⟩
    case round =>
      obtain ⟨rfl, hbw⟩ := hrel
      go_wp2
      go_ret
      exact RetB.of rfl hbw

theorem head_min (l : List Pa.It) : ((Pa.headN l : Nat) : Int) = min ((Pa.cutAt [3] l : Nat) : Int) (min ((Pa.cutAt [5] l : Nat) : Int) ((Pa.cutAt [6] l : Nat) : Int)) := by
  have : Pa.headN l = min (Pa.cutAt [3] l) (min (Pa.cutAt [5] l) (Pa.cutAt [6] l)) := by
    unfold Pa.headN Pa.cutAt
    induction l with
    | nil => rfl
    | cons x l ih =>
      simp only [List.findIdx_cons]
      by_cases h3 : x.kind = 3
      · simp [h3]
      by_cases h5 : x.kind = 5
      · simp [h5]
      by_cases h6 : x.kind = 6
      · simp [h6]
      have e : ∀ ks : List Int, (∀ k ∈ ks, x.kind ≠ k) → ks.contains x.kind = false := fun ks hk => by
        rw [Bool.eq_false_iff]; intro hc
        rw [List.contains_iff_mem] at hc
        exact hk _ hc rfl
      rw [e [3, 5, 6] (by simp [h3, h5, h6]), e [3] (by simp [h3]), e [5] (by simp [h5]), e [6] (by simp [h6])]
      simp only [cond_false]
      rw [ih]
      omega
  rw [this]; omega
set_option maxRecDepth 100000 in
set_option maxHeartbeats 2000000 in
theorem r_end_any (v : Value) (l : List Pa.It) (B : Nat) (w : World) (h : ItsAt w B v l) (hB : B ≤ w.heap.size) (hl : l.length ≤ 1000000) : Calls Tryd.prog 33 #[v] w (RetB (.int .i64 (Pa.headN l : Nat)) w) := by
  have hc := fun (K : Int) (W : World) (hW : Below w.heap.size w W) => r_at_any v l K B W (h.below hW hB) (Nat.le_trans hB hW.size) hl
  have hm := head_min l
  have HC := Lib.hid hc
  obtain ⟨x, hx⟩ : ∃ x : Int, x = ((Pa.headN l : Nat) : Int) := ⟨_, rfl⟩
  have h3 := HC.out 3; have h5 := HC.out 5; have h6 := HC.out 6
  obtain ⟨a3, e3⟩ : ∃ x : Int, x = ((Pa.cutAt [3] l : Nat) : Int) := ⟨_, rfl⟩
  obtain ⟨a5, e5⟩ : ∃ x : Int, x = ((Pa.cutAt [5] l : Nat) : Int) := ⟨_, rfl⟩
  obtain ⟨a6, e6⟩ : ∃ x : Int, x = ((Pa.cutAt [6] l : Nat) : Int) := ⟨_, rfl⟩
  rw [← hx] at hm ⊢
  rw [← e3] at hm h3
  rw [← e5] at hm h5
  rw [← e6] at hm h6
  have H3 := Lib.hid h3; have H5 := Lib.hid h5; have H6 := Lib.hid h6; have HM := Lib.hid hm
  clear HC hc h3 h5 h6 hm hx e3 e5 e6 h
  go_enter Tryd.func33, Tryd.ntmps33
  go_wp2_with (first
    | (go_at_call 41; (with_reducible refine (H3.out _ (by (repeat (first | exact Below.refl _ _ | assumption | refine Below.setCell ?_ (by first | omega | (simp <;> omega)) _ | refine Below.alloc ?_ (by first | omega | (simp <;> omega)) _ | refine Below.drew ?_ | refine below_drewN' ?_ _)))).mono ?_); rintro e w1 ⟨rfl, hb_w1⟩; have hB1 : Below w.heap.size w w1 := Below.trans (by (repeat (first | exact Below.refl _ _ | assumption | refine Below.setCell ?_ (by first | omega | (simp <;> omega)) _ | refine Below.alloc ?_ (by first | omega | (simp <;> omega)) _ | refine Below.drew ?_ | refine below_drewN' ?_ _))) hb_w1)
    | (go_at_call 41; (with_reducible refine (H5.out _ (by (repeat (first | exact Below.refl _ _ | assumption | refine Below.setCell ?_ (by first | omega | (simp <;> omega)) _ | refine Below.alloc ?_ (by first | omega | (simp <;> omega)) _ | refine Below.drew ?_ | refine below_drewN' ?_ _)))).mono ?_); rintro e w2 ⟨rfl, hb_w2⟩; have hB2 : Below w.heap.size w w2 := Below.trans (by (repeat (first | exact Below.refl _ _ | assumption | refine Below.setCell ?_ (by first | omega | (simp <;> omega)) _ | refine Below.alloc ?_ (by first | omega | (simp <;> omega)) _ | refine Below.drew ?_ | refine below_drewN' ?_ _))) (hb_w2.mono hB1.size))
    | (go_at_call 41; (with_reducible refine (H6.out _ (by (repeat (first | exact Below.refl _ _ | assumption | refine Below.setCell ?_ (by first | omega | (simp <;> omega)) _ | refine Below.alloc ?_ (by first | omega | (simp <;> omega)) _ | refine Below.drew ?_ | refine below_drewN' ?_ _)))).mono ?_); rintro e w3 ⟨rfl, hb_w3⟩; have hB3 : Below w.heap.size w w3 := Below.trans (by (repeat (first | exact Below.refl _ _ | assumption | refine Below.setCell ?_ (by first | omega | (simp <;> omega)) _ | refine Below.alloc ?_ (by first | omega | (simp <;> omega)) _ | refine Below.drew ?_ | refine below_drewN' ?_ _))) (hb_w3.mono hB2.size)))
  go_ret
  exact RetB.of (by rw [HM.out]; rfl) (by (repeat (first | exact Below.refl _ _ | assumption | refine Below.setCell ?_ (by first | omega | (simp <;> omega)) _ | refine Below.alloc ?_ (by first | omega | (simp <;> omega)) _ | refine Below.drew ?_ | refine below_drewN' ?_ _)))
end Go.Proofs.YticodcecillciaaDoor

/- Patterns in the document: do two whole digits stand beside one another? -/
namespace Go.Proofs.YticodcecillciaaDoor
set_option linter.all false
open Go.RowKit

theorem pair_ge (l : List Pa.It) : 0 ≤ Pa.pair l ∨ Pa.pair l = -1 := by
  unfold Pa.pair
  split
  · left; omega
  · right; rfl
set_option maxRecDepth 100000 in
set_option maxHeartbeats 2000000 in
theorem r_beside_any (v : Value) (l : List Pa.It) (B : Nat) (w : World) (h : ItsAt w B v l) (hB : B ≤ w.heap.size) (hl : l.length ≤ 1000000) :
    Calls Tryd.prog 42 #[v] w (RetB (.bool (decide (0 ≤ Pa.pair l))) w) := by
  have hcall : ∀ (W : World), Below w.heap.size w W → Calls Tryd.prog 33 #[v] W (RetB (.int .i64 (Pa.headN l : Nat)) W) := fun W hW => r_end_any v l B W (h.below hW hB) (Nat.le_trans hB hW.size) hl
  obtain ⟨r, hr⟩ : ∃ r, r = Pa.pair l := ⟨_, rfl⟩
  rw [← hr]
  have HC := Lib.hid hcall; have HR := Lib.hid hr
  clear hcall hr
  have hhl := cutAt_le [3, 5, 6] l
  obtain ⟨n, hn⟩ : ∃ n, n = Pa.headN l := ⟨_, rfl⟩
  replace hhl : n ≤ l.length := by rw [hn]; exact hhl
  rw [← hn] at HC
  have HN := Lib.hid hn; clear hn
  obtain ⟨a, c, rfl, hc⟩ := h.form
  have hgt := fun h0 => h.get h0
  have HGT := Lib.hid hgt
  clear hgt h hc
  go_enter Tryd.func42, Tryd.ntmps42
  go_wp2_with (go_at_call 33; (with_reducible refine (HC.out _ (by (repeat (first | exact Below.refl _ _ | assumption | refine Below.setCell ?_ (by first | omega | (simp <;> omega)) _ | refine Below.alloc ?_ (by first | omega | (simp <;> omega)) _ | refine Below.drew ?_ | refine below_drewN' ?_ _)))).mono ?_); rintro e w1 ⟨rfl, hb_w1⟩; have hB_w1 : Below (w).heap.size (w) w1 := Below.trans (by (repeat (first | exact Below.refl _ _ | assumption | refine Below.setCell ?_ (by first | omega | (simp <;> omega)) _ | refine Below.alloc ?_ (by first | omega | (simp <;> omega)) _ | refine Below.drew ?_ | refine below_drewN' ?_ _))) (hb_w1.mono (by first | omega | (simp <;> omega))); obtain ⟨hc_w1, hf_w1⟩ := bcell hb_w1; have hz_w1 := hb_w1.size; (try simp only [size_drew', size_drewN', World.size_alloc, World.size_setCell] at hz_w1))
  go_loopw [4] (fun i wr => ∃ k : Nat, i = .int .i64 (k : Int) ∧ (k < n ∨ k = 0) ∧ Hid (∀ i, i < k → Pa.twoAt l i = false) ∧ Below w1.heap.size w1 wr) (fun i _ => n - (intOf i).toNat)
  case atStart => exact ⟨0, rfl, .inr rfl, Lib.hid (fun i h => absurd h (Nat.not_lt_zero _)), Below.refl _ _⟩
  case round =>
    obtain ⟨k, rfl, hk, HP, hbr⟩ := hrel
    have hzr := hbr.size
    have hbw2 : Below w.heap.size w wr := hB_w1.trans (hbr.mono hB_w1.size)
    by_cases hlt : k + 1 < n
    · obtain ⟨b, o, c', e, hc', hb, hcl⟩ := HGT.out (by omega)
      cases e
      have d0 := hcl k (by omega)
      have d1 := hcl (k + 1) (by omega)
      have hbw : b < w.heap.size := by omega
      have e0 := (hbw2.cell (p := ⟨b, o + k * 2, none⟩) hbw).trans d0.1
      have e1 := (hbw2.cell (p := ⟨b, o + (k + 1) * 2, none⟩) hbw).trans d1.1
      have hT : Pa.twoAt l k = (decide (l[k].kind = 2) && decide (l[k + 1].kind = 2)) := by
        unfold Pa.twoAt
        rw [decide_eq_true (show k + 1 < Pa.headN l by rw [← HN.out]; exact hlt), Bool.true_and, getElem!_pos l k (by omega), getElem!_pos l (k + 1) (by omega)]
      obtain ⟨p, hp⟩ : ∃ p, p = l[k].kind := ⟨_, rfl⟩
      obtain ⟨q, hq⟩ : ∃ q, q = l[k + 1].kind := ⟨_, rfl⟩
      rw [← hp] at e0 hT
      rw [← hq] at e1 hT
      clear hp hq d0 d1 hcl hk
      have i1 : (k : Int) + 1 < (n : Int) := by omega
      have i2 : (n : Int) ≤ 1000000 := by omega
      have i3 : (0 : Int) ≤ (k : Int) := by omega
      have i4 : (k : Int) + 1 < (l.length : Int) := by omega
      have i5 : (k : Int) < (l.length : Int) := by omega
      have HT := Lib.hid hT; clear hT
      by_cases hpq : p = 2 ∧ q = 2
      · obtain ⟨rfl, rfl⟩ := hpq
        have hrk : Value.bool true = Value.bool (decide (0 ≤ r)) := by
          rw [HR.out, pair_hit (by rw [HT.out]; rfl) HP.out, decide_eq_true (by omega)]
        have HK := Lib.hid hrk; clear hrk
        go_wp2_with fail
        go_ret
        exact RetB.of HK.out (by (repeat (first | exact Below.refl _ _ | assumption | refine Below.setCell ?_ (by first | omega | (simp <;> omega)) _ | refine Below.alloc ?_ (by first | omega | (simp <;> omega)) _ | refine Below.drew ?_ | refine below_drewN' ?_ _)))
      · have hF : Pa.twoAt l k = false := by
          rw [HT.out, Bool.and_eq_false_iff, decide_eq_false_iff_not, decide_eq_false_iff_not]; omega
        have hnx : Hid (∀ i, i < k + 1 → Pa.twoAt l i = false) := Lib.hid fun i hi => by
          by_cases e : i = k
          · subst e; exact hF
          · exact HP.out i (by omega)
        clear hF
        by_cases hp : p = 2
        · subst hp
          have hq : (q == 2) = false := beq_eq_false_iff_ne.2 (fun e => hpq ⟨rfl, e⟩)
          clear hpq
          go_wp2_with fail
          go_roundw
          case rel => exact ⟨k + 1, by go_num, by omega, hnx, by (repeat (first | exact Below.refl _ _ | assumption | refine Below.setCell ?_ (by first | omega | (simp <;> omega)) _ | refine Below.alloc ?_ (by first | omega | (simp <;> omega)) _ | refine Below.drew ?_ | refine below_drewN' ?_ _))⟩
          case measure => simp [intOf]; omega
        · have hp' : (p == 2) = false := beq_eq_false_iff_ne.2 hp
          clear hpq hp
          go_wp2_with fail
          go_roundw
          case rel => exact ⟨k + 1, by go_num, by omega, hnx, by (repeat (first | exact Below.refl _ _ | assumption | refine Below.setCell ?_ (by first | omega | (simp <;> omega)) _ | refine Below.alloc ?_ (by first | omega | (simp <;> omega)) _ | refine Below.drew ?_ | refine below_drewN' ?_ _))⟩
          case measure => simp [intOf]; omega
    · have hrk : Value.bool false = Value.bool (decide (0 ≤ r)) := by
        rw [HR.out, pair_none (fun i hi => HP.out i (by have := HN.out; omega))]; rfl
      have HK := Lib.hid hrk
      have i1 : ¬ (k : Int) + 1 < (n : Int) := by omega
      have i2 : (k : Int) ≤ 1000000 := by omega
      clear hrk hk
      go_wp2_with fail
      go_ret
      exact RetB.of HK.out (by (repeat (first | exact Below.refl _ _ | assumption | refine Below.setCell ?_ (by first | omega | (simp <;> omega)) _ | refine Below.alloc ?_ (by first | omega | (simp <;> omega)) _ | refine Below.drew ?_ | refine below_drewN' ?_ _)))
end Go.Proofs.YticodcecillciaaDoor

/- Plain Lean: two texts of one section each, with a semicolon between, are read as both sections. -/
namespace Go.Proofs.YticodcecillciaaDoor.Pa
set_option linter.all false

theorem M.bind_ok {α β : Type} {x : M α} {f : α → M β} {b : β} (h : x.bind f = .ok b) : ∃ a, x = .ok a ∧ f a = .ok b := by
  cases x with
  | error e => cases h
  | ok a => exact ⟨a, rfl, h⟩

theorem ch_append_left {s r : ByteArray} {i : Nat} (h : i < s.size) : ch (s ++ r) i = ch s i := by
  unfold ch
  rw [dif_pos h, dif_pos (by rw [ByteArray.size_append]; omega), ByteArray.getElem_append_left h]
theorem ch_append_right {s r : ByteArray} {i : Nat} : ch (s ++ r) (s.size + i) = ch r i := by
  unfold ch
  by_cases h : i < r.size
  · rw [dif_pos h, dif_pos (by rw [ByteArray.size_append]; omega), ByteArray.getElem_append_right (by omega)]
    congr 2; omega
  · rw [dif_neg h, dif_neg (by rw [ByteArray.size_append]; omega)]
theorem ba_ext {a b : ByteArray} (h : a.data.toList = b.data.toList) : a = b := by
  cases a; cases b; simp at h; rw [h]
theorem ex_left {s r : ByteArray} {i j : Nat} (h : j ≤ s.size) : (s ++ r).extract i j = s.extract i j := ba_ext (by
  rw [Lib.extract_data, Lib.extract_data, ByteArray.data_append, Array.toList_append]
  by_cases hi : i ≤ s.size
  · rw [List.drop_append_of_le_length (by simpa using hi), List.take_append_of_le_length (by simp; omega)]
  · rw [show j - i = 0 by omega, List.take_zero, List.take_zero])
theorem ex_right {s r : ByteArray} {i j : Nat} : (s ++ r).extract (s.size + i) (s.size + j) = r.extract i j := ba_ext (by
  rw [Lib.extract_data, Lib.extract_data, ByteArray.data_append, Array.toList_append]
  rw [show s.size + i = s.data.toList.length + i by simp, List.drop_append, show s.size + j - (s.data.toList.length + i) = j - i by simp; omega]
  rw [List.drop_eq_nil_of_le (by omega), List.nil_append, show s.data.toList.length + i - s.data.toList.length = i by omega])
theorem ex_end {s r : ByteArray} {i : Nat} (h : i ≤ s.size) : (s ++ r).extract i (s ++ r).size = s.extract i s.size ++ r := ba_ext (by
  rw [Lib.extract_to_end, ByteArray.data_append, ByteArray.data_append, Array.toList_append, Array.toList_append, Lib.extract_to_end, List.drop_append_of_le_length (by simpa using h)])
end Go.Proofs.YticodcecillciaaDoor.Pa

/- A loop over an iterator that goes over further iterators while it calls yield, where no round leaves the loop: the rounds collect into one variable (block O); the iterator is told that its own blocks, none of which is that variable's or its row's, stay. -/
namespace Go.Proofs.YticodcecillciaaDoor
set_option linter.all false
open Go.RowKit

/-- Block k holds the elements of the slice that lies in block O. -/
def RowAt (O : Nat) (W : World) (k : Nat) : Prop := ∃ (x : Addr) (n c : Nat), W.cell? ⟨O, 0, none⟩ = some (.slice (some x) n c) ∧ x.block = k
/-- The row's block is there, and is cells. -/
def RowOk (O : Nat) (W : World) : Prop := ∀ k, RowAt O W k → ∃ o : Obj, W.heap[k]? = some o ∧ o.isCells = true
/-- What lay below B, and the row, lie on. -/
structure Apart (O B : Nat) (X Y : World) : Prop where
  below : Below B X Y
  row : ∀ k, RowAt O X k → Y.heap[k]? = X.heap[k]?
/-- What a round keeps: all but the variable O, its row, the loop's record R. -/
structure Kq (O R : Nat) (A B : World) : Prop where
  size : A.heap.size ≤ B.heap.size
  same : ∀ k, k < A.heap.size → k ≠ O → k ≠ R → ¬ RowAt O A k → B.heap[k]? = A.heap[k]?
  row : ∀ k, k < A.heap.size → RowAt O B k → RowAt O A k

theorem RowAt.of {O : Nat} {X Y : World} (h : Y.heap[O]? = X.heap[O]?) {k : Nat} : RowAt O Y k ↔ RowAt O X k := by
  unfold RowAt; rw [World.cell?_of_block (a := ⟨O, 0, none⟩) h]
theorem RowOk.lt {O : Nat} {W : World} (h : RowOk O W) {k : Nat} (hk : RowAt O W k) : k < W.heap.size := by
  obtain ⟨o, h1, _⟩ := h k hk; exact (Array.getElem?_eq_some_iff.1 h1).1
theorem RowOk.not {O : Nat} {W : World} (h : RowOk O W) {k : Nat} {o : Obj} (hk : W.heap[k]? = some o) (ho : o.isCells = false) : ¬ RowAt O W k := fun e => by
  obtain ⟨o', h1, h2⟩ := h k e
  rw [hk] at h1; cases h1; rw [ho] at h2; cases h2
theorem Apart.refl (O B : Nat) (X : World) : Apart O B X X := ⟨Below.refl _ _, fun _ _ => rfl⟩
theorem Apart.trans {O B : Nat} (hO : O < B) {X Y Z : World} (h : Apart O B X Y) (k : Apart O B Y Z) : Apart O B X Z :=
  ⟨h.below.trans k.below, fun j hj => (k.row j ((RowAt.of (h.below.block O hO)).2 hj)).trans (h.row j hj)⟩
theorem Apart.mono {O B B' : Nat} {X Y : World} (h : Apart O B X Y) (hB : B' ≤ B) : Apart O B' X Y := ⟨h.below.mono hB, h.row⟩
theorem Apart.of_below {O B : Nat} {X Y : World} (h : Below X.heap.size X Y) (hB : B ≤ X.heap.size) (hr : RowOk O X) : Apart O B X Y :=
  ⟨h.mono hB, fun k hk => h.block k (hr.lt hk)⟩
theorem Apart.alloc {O B : Nat} {X : World} (hB : B ≤ X.heap.size) (hr : RowOk O X) (o : Obj) : Apart O B X (X.alloc o) := Apart.of_below ((Below.refl _ _).alloc (Nat.le_refl _) _) hB hr
theorem Apart.grown {O B : Nat} {X Y : World} {row : Option Nat} (hB : B ≤ X.heap.size) (hr : RowOk O X) (hg : X.grownBy Y row) (h : ∀ r, row = some r → B ≤ r ∧ ∃ o : Obj, X.heap[r]? = some o ∧ o.isCells = false) : Apart O B X Y :=
  ⟨(Below.refl B X).grown hg hB (fun k e => (h k e).1), fun k hk => hg.block k (hr.lt hk) (fun e => by obtain ⟨_, o, h1, h2⟩ := h k e.symm; exact hr.not h1 h2 hk)⟩
theorem RowOk.apart {O B : Nat} (hO : O < B) {X Y : World} (h : RowOk O X) (ha : Apart O B X Y) : RowOk O Y := fun k hk => by
  have h1 := (RowAt.of (ha.below.block O hO)).1 hk
  obtain ⟨o, h2, h3⟩ := h k h1
  exact ⟨o, (ha.row k h1).trans h2, h3⟩
theorem Kq.refl (O R : Nat) (A : World) : Kq O R A A := ⟨Nat.le_refl _, fun _ _ _ _ _ => rfl, fun _ _ h => h⟩
theorem Kq.trans {O R : Nat} {A B C : World} (h : Kq O R A B) (k : Kq O R B C) : Kq O R A C :=
  ⟨Nat.le_trans h.size k.size, fun j h1 h2 h3 h4 => (k.same j (Nat.lt_of_lt_of_le h1 h.size) h2 h3 (fun e => h4 (h.row j h1 e))).trans (h.same j h1 h2 h3 h4), fun j h1 h2 => h.row j h1 (k.row j (Nat.lt_of_lt_of_le h1 h.size) h2)⟩
theorem Kq.put {O R : Nat} (hne : O ≠ R) (W : World) (o : Obj) : Kq O R W (W.putObj R o) :=
  ⟨by simp, fun k _ _ h _ => World.putObj_heap_other h, fun k _ h => (RowAt.of (World.putObj_heap_other hne)).1 h⟩

def IterAll {α : Type} (F : Fence) (n : Nat) (P : Program) (gf : Nat) (lb : Array Value) (encs : α → Array Value) (O : Nat) (xs : List α) (w : World) : Prop :=
  ∀ (J : List α → World → Prop) (W : World), Below w.heap.size w W → W.heap.size = w.heap.size + 2 →
    (∀ s X Y, J s X → W.heap.size ≤ X.heap.size → Apart O W.heap.size X Y → J s Y) → (∀ s X, J s X → RowOk O X ∧ W.heap.size ≤ X.heap.size) →
    (∀ pre x W1, J pre W1 → pre.length < xs.length → YieldAt F (n - 1) P (w.heap.size + 1) (encs x) W1 fun e W' => e = .returned (.bool true) ∧ J (pre ++ [x]) W' ∧ Kq O (w.heap.size + 1) W1 W') →
    J [] W → CallsIn F n P gf (#[.func (.yield (w.heap.size + 1)) #[] #[]] ++ lb) W fun e W' => (∃ v, e = .returned v) ∧ J xs W'

def postN (Q : Act → World → Prop) : Exit → Act → World → Prop
  | .normal, a, W => Q a W
  | _, _, _ => False

theorem rf_all {α : Type} {F : Fence} {n : Nat} {P : Program} {w : World} {g : Operand} {ps : Array Tmp} {assign body : Code} {Q : Exit → Act → World → Prop} {a : Act}
    (hro : F.round = none) (h1 : 1 ≤ n) {gf : Nat} {lb : Array Value} (hg : a.eval g = .func (.func gf) #[] lb) (hFg : F.fn gf) (eg : ∀ args w, (callFunc gf args).run P w = .ok (.enter gf args) w)
    {encs : α → Array Value} {O : Nat} (hO : O < w.heap.size) {xs : List α} (hps : ∀ x, (encs x).size = ps.size)
    (hseq : IterAll F (n - 1) P gf lb encs O xs w)
    (I : List α → World → Prop) (hI : ∀ s X Y, I s X → Apart O w.heap.size X Y → I s Y) (hIr : ∀ s X, I s X → RowOk O X) (h0 : I [] w) (Ax : α → Act → World → Prop) (hAx : ∀ x a' X Y, Ax x a' X → (∀ (k : Nat) (o : Obj), X.heap[k]? = some o → o.isCells = true → Y.heap[k]? = X.heap[k]?) → Ax x a' Y)
    (hassign : ∀ (pre : List α) (x : α) (W : World) (K : Act → World → Prop), I pre W → w.heap.size + 2 ≤ W.heap.size → (∀ a' W', KeepsFrom w.heap.size W W' → Kq O (w.heap.size + 1) W W' → I pre W' → w.heap.size + 2 ≤ W'.heap.size → Ax x a' W' → K a' W') →
      assign.wpIn (F.inRound (w.heap.size + 1)) (n - 1 - 1) P (Exit.then K (fun _ _ _ => False)) { tmps := (ps.zip (encs x)).foldl (fun t (p, v) => t.setIfInBounds p v) a.tmps, defers := [] } W)
    (hbody : ∀ (pre : List α) (x : α) (a' : Act) (W : World), I pre W → w.heap.size + 2 ≤ W.heap.size → Ax x a' W → pre.length < xs.length → body.wpIn (F.inRound (w.heap.size + 1)) (n - 1 - 1) P (postN fun _ W' => KeepsFrom w.heap.size W W' ∧ Kq O (w.heap.size + 1) W W' ∧ I (pre ++ [x]) W') a' W)
    (hdone : ∀ (W : World), I xs W → W.heap[w.heap.size]? = some (.deferred (some [])) → Q .normal { a with defers := { target := .collected w.heap.size, args := #[] } :: a.defers } W) :
    (Code.rangeFunc g ps assign body).wpIn F n P Q a w := by
  refine wpIn_rangeFunc fun fn hfn => ?_
  rw [hro]
  let R : LoopState → Option Code → Obj := fun st pe => .loop { state := st, pending := pe, fn, tmps := a.tmps, params := ps, assign, body, defers := w.heap.size }
  have hR : ∀ st pe, (R st pe).isCells = false := fun _ _ => rfl
  let W1 : World := (w.alloc (.deferred (some []))).alloc (R .ready none)
  have sz : W1.heap.size = w.heap.size + 2 := by simp [W1]
  have rec1 : W1.heap[w.heap.size + 1]? = some (R .ready none) := by
    have := World.alloc_heap_new (w.alloc (.deferred (some []))) (R .ready none); rwa [World.size_alloc] at this
  have def1 : W1.heap[w.heap.size]? = some (.deferred (some [])) := (Below.heap_alloc _ _ _ (by simp)).trans (World.alloc_heap_new w _)
  have low1 : Below w.heap.size w W1 := ((Below.refl _ w).alloc (Nat.le_refl _) _).alloc (by simp) _
  have own : ∀ {s : List α} {W : World} {st : LoopState} {pe : Option Code} (o' : Obj), W.heap[w.heap.size + 1]? = some (R st pe) → I s W → I s (W.putObj (w.heap.size + 1) o') := fun o' hl hs =>
    hI _ _ _ hs (Apart.grown (by have := (Array.getElem?_eq_some_iff.1 hl).1; omega) (hIr _ _ hs) (grownBy_putObj' _ _ o') (fun r e => by cases e; exact ⟨by omega, _, hl, rfl⟩))
  refine ⟨w.heap.size + 1, [{ target := .collected w.heap.size, args := #[] }], W1, { target := .fn (.func gf) lb, args := #[.func (.yield (w.heap.size + 1)) #[] #[]] }, W1, gf, #[.func (.yield (w.heap.size + 1)) #[] #[]] ++ lb, W1,
    run_enterLoop_outer _ _ _ _ _, by simp only [resolve, hg]; simp [go_sem], fun f' hf' => by simp [Target.leads] at hf'; subst hf'; exact hFg, by simp [invoke, go_sem, eg], fun _ => h1, ?_⟩
  refine (hseq (fun pre W => I pre W ∧ W.heap[w.heap.size + 1]? = some (R .ready none) ∧ W.heap[w.heap.size]? = some (.deferred (some [])) ∧ w.heap.size + 2 ≤ W.heap.size) W1 low1 sz ?aj ?ar ?round ⟨?h0, rec1, def1, by omega⟩).mono ?fin
  case h0 => exact hI _ _ _ h0 (Apart.of_below low1 (Nat.le_refl _) (hIr _ _ h0))
  case aj =>
    intro s X Y hs _ ha
    exact ⟨hI s X Y hs.1 (ha.mono (by omega)), (ha.below.block _ (by omega)).trans hs.2.1, (ha.below.block _ (by omega)).trans hs.2.2.1, Nat.le_trans hs.2.2.2 ha.below.size⟩
  case ar => exact fun s X hs => ⟨hIr s X hs.1, by omega⟩
  case round =>
    rintro pre x W ⟨hi, hl, hk, hz⟩ hlt0
    refine ⟨fn, _, assign, body, run_yield hl (hps x), roundIn_of_wpIn hfn (hassign pre x W _ hi hz fun a' V kf kp iV vz ax => ?_)⟩
    have hl' := kf.same _ _ (by omega) hl rfl
    have hk' := kf.same _ _ (Nat.le_refl _) hk rfl
    have hlt : w.heap.size + 1 < V.heap.size := (Array.getElem?_eq_some_iff.1 hl').1
    have axb : Ax x a' (V.putObj (w.heap.size + 1) (R .busy none)) := hAx _ _ _ _ ax (fun k o h h2 => World.putObj_heap_other (fun e => by subst e; rw [hl'] at h; cases h; cases h2))
    refine ⟨_, run_beginRound hl' rfl, wpIn_mono (hbody pre x a' _ (own _ hl' iV) (by simp; omega) axb hlt0) ?_⟩
    intro e a3 Z hp
    match e, hp with
    | .normal, ⟨kz, kpz, iz⟩ =>
      have b1 := kz.same _ _ (by omega) (World.putObj_heap_same (o := R .busy none) hlt) rfl
      have b2 : (Z.putObj (w.heap.size + 1) (R .ready none)).heap[w.heap.size + 1]? = some (R .ready none) := World.putObj_heap_same (Array.getElem?_eq_some_iff.1 b1).1
      have b3 : (Z.putObj (w.heap.size + 1) (R .ready none)).heap[w.heap.size]? = some (.deferred (some [])) := (World.putObj_heap_other (by omega)).trans (kz.same _ _ (Nat.le_refl _) ((World.putObj_heap_other (by omega)).trans hk') rfl)
      have hne : O ≠ w.heap.size + 1 := by omega
      have b4 := kz.size
      exact ⟨_, _, run_endRound none b1, ⟨rfl, ⟨own _ b1 iz, b2, b3, by simp at b4 ⊢; omega⟩, kp.trans ((Kq.put hne V _).trans (kpz.trans (Kq.put hne Z _)))⟩⟩
    | .ret, hp => exact hp.elim
    | .exit id, hp => exact hp.elim
    | .goto t, hp => exact hp.elim
    | .panic _, hp => exact hp.elim
    | .outgrown, hp => exact hp.elim
  case fin =>
    rintro e Z ⟨⟨v, rfl⟩, ⟨hi, hl, hk, hz⟩⟩
    exact ⟨none, _, run_endLoop hl (by simp), hdone _ (own _ hl hi) ((World.putObj_heap_other (by omega)).trans hk)⟩
end Go.Proofs.YticodcecillciaaDoor

/- Rows of the call's own, of any type: what a slice of them holds; what an append to the variable that holds it turns. -/
namespace Go.Proofs.YticodcecillciaaDoor
set_option linter.all false
open Go.RowKit

/-- The slice v holds n elements (sz cells each, xs all together) in a row of the call's own, or is nil. -/
def RowG (w : World) (base : Nat) (T : TypeId) (sz : Nat) (v : Value) (n : Nat) (xs : List Value) : Prop :=
  (∃ a cap, v = .slice a n cap) ∧ w.ownsRow base T sz v n xs
theorem RowG.nil (w : World) (base : Nat) (T : TypeId) (sz : Nat) : RowG w base T sz (.slice none 0 0) 0 [] := ⟨⟨none, 0, rfl⟩, World.ownsRow_nil _ _ _ _⟩
theorem RowG.of {w : World} {base n m sz : Nat} {T : TypeId} {v : Value} {xs ys : List Value} (h : w.ownsRow base T sz v n xs) (hn : n = m) (hx : xs = ys) : RowG w base T sz v m ys := by
  subst hn hx
  refine ⟨?_, h⟩
  rcases h.2 with ⟨rfl, h2⟩ | ⟨g, cap, cur, rfl, _⟩
  · exact ⟨none, 0, by rw [h2]⟩
  · exact ⟨_, cap, rfl⟩
theorem RowG.kept {w w' : World} {base n sz : Nat} {T : TypeId} {v : Value} {xs : List Value} (h : RowG w base T sz v n xs) (hk : ∀ k, v.ownBlock = some k → w'.heap[k]? = w.heap[k]?) : RowG w' base T sz v n xs := by
  refine ⟨h.1, h.2.1, ?_⟩
  rcases h.2.2 with h2 | ⟨g, cap, cur, rfl, hb, hg, r⟩
  · exact .inl h2
  · exact .inr ⟨g, cap, cur, rfl, hb, (hk g rfl).trans hg, r⟩
theorem RowG.cells {w : World} {base n sz : Nat} {T : TypeId} {v : Value} {xs : List Value} (h : RowG w base T sz v n xs) {k : Nat} (hk : v.ownBlock = some k) : ∃ o : Obj, w.heap[k]? = some o ∧ o.isCells = true := by
  rcases h.2.2 with ⟨rfl, _⟩ | ⟨g, cap, cur, rfl, hb, hg, r⟩
  · cases hk
  · obtain rfl : g = k := by simpa [Value.ownBlock] using hk
    exact ⟨_, hg, rfl⟩
theorem RowG.lt {w : World} {base n sz : Nat} {T : TypeId} {v : Value} {xs : List Value} (h : RowG w base T sz v n xs) {k : Nat} (hk : v.ownBlock = some k) : base ≤ k ∧ k < w.heap.size := by
  rcases h.2.2 with ⟨rfl, _⟩ | ⟨g, cap, cur, rfl, hb, hg, r⟩
  · cases hk
  · obtain rfl : g = k := by simpa [Value.ownBlock] using hk
    exact ⟨hb, (Array.getElem?_eq_some_iff.1 hg).1⟩
theorem RowG.below {w w' : World} {base n sz B : Nat} {T : TypeId} {v : Value} {xs : List Value} (h : RowG w base T sz v n xs) (hb : Below B w w') (hB : w.heap.size ≤ B) : RowG w' base T sz v n xs :=
  h.kept fun k hk => hb.block k (Nat.lt_of_lt_of_le (h.lt hk).2 hB)
theorem RowG.on {w w' : World} {base n sz : Nat} {T : TypeId} {v : Value} {xs : List Value} (h : RowG w base T sz v n xs) (hb : Below w.heap.size w w') : RowG w' base T sz v n xs := h.below hb (Nat.le_refl _)
/-- The row's cells. -/
theorem RowG.get {w : World} {base n sz : Nat} {T : TypeId} {v : Value} {xs : List Value} (h : RowG w base T sz v n xs) (h0 : 0 < n) : ∃ g cap, v = .slice (some ⟨g, 0, none⟩) n cap ∧ base ≤ g ∧ g < w.heap.size ∧ n ≤ cap ∧ (∀ i u, xs[i]? = some u → w.cell? ⟨g, i, none⟩ = some u) ∧ ∀ i, w.frozen? ⟨g, i, none⟩ = false := by
  rcases h.2.2 with ⟨rfl, h2⟩ | ⟨g, cap, cur, rfl, hb, hg, h1, h2, h3, h4⟩
  · omega
  · refine ⟨g, cap, rfl, hb, (Array.getElem?_eq_some_iff.1 hg).1, h1, fun i u hu => ?_, fun i => ?_⟩
    · have hi : i < xs.length := (List.getElem?_eq_some_iff.1 hu).1
      have e : w.cell? ⟨g, i, none⟩ = cur[i]? := by unfold World.cell?; simp only []; rw [hg]; rfl
      have h5 := h.2.1
      rw [e, ← hu, ← h4, List.getElem?_take, if_pos (by omega), Array.getElem?_toList]
    · unfold World.frozen?; simp only []; rw [hg]; simp
theorem rowAt_boxedG {O : Nat} {W : World} {t : TypeId} {v : Value} (h : Boxed W O t v) {k : Nat} (hk : RowAt O W k) : v.ownBlock = some k := by
  obtain ⟨x, n, c, h1, h2⟩ := hk
  rw [h.cell] at h1
  cases h1
  simp [Value.ownBlock, h2]
theorem rowAt_ofG {O : Nat} {W : World} {t : TypeId} {v : Value} (h : Boxed W O t v) {k base n sz : Nat} {T : TypeId} {xs : List Value} (hr : RowG W base T sz v n xs) (hk : v.ownBlock = Option.some k) : RowAt O W k := by
  obtain ⟨⟨a, cap, rfl⟩, _⟩ := hr
  cases a with
  | none => cases hk
  | some a => exact ⟨a, _, _, h.cell, by simpa [Value.ownBlock] using hk⟩
theorem KqG.alloc {O R : Nat} {W : World} (hO : O < W.heap.size) (o : Obj) : Kq O R W (W.alloc o) :=
  ⟨by simp, fun k h _ _ _ => Below.heap_alloc W o k h, fun k _ h => (RowAt.of (Below.heap_alloc W o O hO)).1 h⟩
theorem KqG.appended {O R : Nat} {W w1 : World} {t T : TypeId} {v v' : Value} {tmp : Obj} {base n sz : Nat} {xs : List Value} (hv : Boxed W O t v) (hr : RowG W base T sz v n xs) (hgrow : (W.alloc tmp).grownBy w1 v.ownBlock)
    (hown : v'.ownBlock = v.ownBlock ∨ v'.ownBlock = Option.some (W.alloc tmp).heap.size) (hv2 : Boxed (w1.setCell ⟨O, 0, none⟩ v') O t v') : Kq O R W (w1.setCell ⟨O, 0, none⟩ v') where
  size := by have := hgrow.size; rw [World.size_setCell]; simp at this; omega
  same := fun k hk h1 _ h3 => (Below.heap_setCell _ _ _ k h1).trans ((hgrow.block k (by simp; omega) (fun e => h3 (rowAt_ofG hv hr e.symm))).trans (Below.heap_alloc W tmp k hk))
  row := fun k hk h => by
    have h1 := rowAt_boxedG hv2 h
    rcases hown with e | e
    · rw [e] at h1; exact rowAt_ofG hv hr h1
    · rw [e] at h1
      have : W.heap.size + 1 = k := by simpa using h1
      omega
theorem cell_newG (w : World) (vs : List Value) (t : TypeId) (j : Nat) (u : Value) (h : vs[j]? = some u) : (w.alloc (.cells vs.toArray t)).cell? ((⟨w.heap.size, 0, none⟩ : Addr).add j) = some u := by
  have ha : (⟨w.heap.size, 0, none⟩ : Addr).add j = ⟨w.heap.size, j, none⟩ := by
    unfold Addr.add
    split
    · rename_i e; subst e; rfl
    · simp
  rw [ha]
  exact (Cs.new w vs t).get j h
end Go.Proofs.YticodcecillciaaDoor

/- Patterns in the program: the numbers from 0 on, gone over and collected. -/
namespace Go.Proofs.YticodcecillciaaDoor
set_option linter.all false
open Go.RowKit Go.Shelf

attribute [local go_sem] Oper.semAt_some

def nums (n : Nat) : List Int := (List.range n).map fun (i : Nat) => (i : Int)
theorem nums_succ (n : Nat) : nums (n + 1) = nums n ++ [(n : Int)] := by simp [nums, List.range_succ]
theorem nums_len (n : Nat) : (nums n).length = n := by simp [nums]
def intCells (l : List Int) : List Value := l.map fun (x : Int) => Value.int .i64 x
theorem intCells_len (l : List Int) : (intCells l).length = l.length := by simp [intCells]

set_option maxRecDepth 100000 in
set_option maxHeartbeats 1000000 in
theorem indexes1_iter (n : Nat) (N O Bn : Nat) (w : World) (hO : O < w.heap.size) (hB : Bn < w.heap.size) (cB : w.cell? ⟨Bn, 0, none⟩ = some (.int .i64 N)) (hN : N ≤ 100000) :
    IterAll Fence.wide n Tryd.prog 63 #[.pointer (some ⟨Bn, 0, none⟩)] (fun x : Int => #[Value.int .i64 x]) O (nums N) w := by
  intro J W hW hsz hJ hJr hY h0
  have hBW : W.cell? ⟨Bn, 0, none⟩ = some (.int .i64 N) := (hW.cell (p := ⟨Bn, 0, none⟩) hB).trans cB
  rw [nums_len] at hY
  have HJ := Lib.hid hJ; have HJR := Lib.hid hJr; have HY := Lib.hid hY; have H0 := Lib.hid h0
  clear hJ hJr hY h0 cB
  refine callsIn_of_wp Tryd.func63 rfl trivial ?_ rfl
  simp only [Tryd.ntmps63, List.size_toArray, List.length_cons, List.length_nil, Nat.reduceAdd, Nat.reduceSub, Array.replicate_succ, Array.replicate_zero, List.push_toArray, List.append_toArray, List.nil_append, List.cons_append]
  gi_wp2
  gi_loopw [5] (fun i wr => ∃ k : Nat, k ≤ N ∧ i = .int .i64 k ∧ Hid (J (nums k) wr)) (fun i wr => N - (intOf i).toNat)
  case atStart => exact ⟨0, Nat.zero_le _, rfl, H0⟩
  case round =>
    obtain ⟨k, hk, rfl, hJs⟩ := hrel
    by_cases hlt : k < N
    · obtain ⟨fn, tmps, assign, body, hy, hR⟩ := HY.out (nums k) k wr hJs.out (by rw [nums_len]; omega)
      have i1 : (k : Int) < (N : Int) := by omega
      gi_wp2
      refine ⟨(fun h => (by cases h)), hR.mono ?_⟩
      rintro e W3 ⟨rfl, hJ3, hk3⟩
      gi_wp2
      go_roundw
      case rel => exact ⟨k + 1, by omega, by go_num, Lib.hid (by rw [nums_succ]; exact hJ3)⟩
      case measure => simp [intOf]; omega
    · have hkk : k = N := by omega
      subst hkk
      gi_wp2
      go_end0
      exact ⟨⟨_, rfl⟩, hJs.out⟩
end Go.Proofs.YticodcecillciaaDoor

/- Patterns in the program: the numbers from 0 on are collected. -/
namespace Go.Proofs.YticodcecillciaaDoor
set_option linter.all false
open Go.RowKit Go.Shelf

attribute [local go_sem] Oper.semAt_some

theorem infoInt : (Tryd.prog.info? 3).map (fun i => (i.zero, i.size, i.bytes)) = some (some (.int .i64 0), 1, 8) := by kernel_rfl
set_option maxRecDepth 100000 in
set_option maxHeartbeats 4000000 in
theorem appendSeq_any (N Bn : Nat) (w : World) (hB : Bn < w.heap.size) (cB : w.cell? ⟨Bn, 0, none⟩ = some (.int .i64 N)) (hN : N ≤ 100000) :
    Calls Tryd.prog 62 #[.slice none 0 0, .func (.func 63) #[] #[.pointer (some ⟨Bn, 0, none⟩)]] w
      (fun e w' => ∃ v, e = .returned v ∧ RowG w' w.heap.size 3 1 v N (intCells (nums N)) ∧ Below w.heap.size w w') := by
  obtain ⟨n, hn⟩ : ∃ n : Nat, 20 ≤ n := ⟨20, Nat.le_refl _⟩
  refine (callsIn_wide (n := n)).1 ?_
  obtain ⟨i0, hI⟩ := info_parts infoInt
  obtain ⟨hi, hi0, hi1, hi2⟩ := hI
  have hit := fun W h1 h2 => indexes1_iter (n - 1) N w.heap.size Bn W h1 (Nat.lt_of_lt_of_le hB (h2 : Below w.heap.size w W).size) (((h2 : Below w.heap.size w W).cell (p := ⟨Bn, 0, none⟩) hB).trans cB) hN
  have HIT := Lib.hid hit; clear hit
  have hnl := nums_len N
  generalize nums N = L at *
  refine callsIn_of_wp_marks Tryd.func62 rfl trivial ?_ rfl
  simp only [Tryd.ntmps62, List.size_toArray, List.length_cons, List.length_nil, Nat.reduceAdd, Nat.reduceSub, Array.replicate_succ, Array.replicate_zero, List.push_toArray, List.append_toArray, List.nil_append, List.cons_append]
  gi_wp2
  have cO := Boxed.new w 67 (.slice none 0 0)
  have hB0 : Below w.heap.size w (w.alloc (.cells #[.slice none 0 0] 67)) := by (repeat (first | exact Below.refl _ _ | assumption | refine Below.setCell ?_ (by first | omega | (simp <;> omega)) _ | refine Below.alloc ?_ (by first | omega | (simp <;> omega)) _ | refine Below.drew ?_ | refine below_drewN' ?_ _))
  obtain ⟨W0, hW0⟩ : ∃ W0, W0 = w.alloc (.cells #[.slice none 0 0] 67) := ⟨_, rfl⟩
  have hsz : W0.heap.size = w.heap.size + 1 := by rw [hW0]; simp
  have hz1 : w.heap.size < W0.heap.size := by omega
  rw [← hW0] at cO hB0 ⊢
  have HSZ := Lib.hid hsz; clear hW0 hsz
  have h1 : 1 ≤ n := by omega
  refine rf_all (F := Fence.wide) rfl h1 (gf := 63) (lb := #[.pointer (some ⟨Bn, 0, none⟩)]) rfl trivial (enters_of Tryd.func63 (by kernel_rfl) rfl)
    (O := w.heap.size) (xs := L) hz1 (fun _ => rfl) (HIT.out W0 hz1 hB0)
    (fun pre X => ∃ v, Boxed X w.heap.size 67 v ∧ RowG X w.heap.size 3 1 v pre.length (intCells pre) ∧ Below w.heap.size w X)
    (fun pre X Y hs ap => by
      obtain ⟨v, e1, e2, e4⟩ := hs
      exact ⟨v, (ap.below.block _ (by omega)).trans e1, e2.kept (fun k hk => ap.row k (rowAt_ofG e1 e2 hk)), e4.trans (ap.below.mono (by omega))⟩)
    (fun pre X hs k hk => by obtain ⟨v, e1, e2, _⟩ := hs; exact e2.cells (rowAt_boxedG e1 hk))
    ⟨_, cO, RowG.nil _ _ _ _, hB0⟩
    (fun q a' X => a' = { tmps := #[.slice none 0 0, .func (.func 63) #[] #[.pointer (some ⟨Bn, 0, none⟩)], .pointer (some ⟨w.heap.size, 0, none⟩), undef, .slice none 0 0, .int .i64 q, .func (.func 63) #[] #[.pointer (some ⟨Bn, 0, none⟩)], .int .i64 q, undef, undef, undef, undef, undef], defers := [] })
    (fun q a' X Y hs hk => hs)
    ?assign ?body ?done
  case assign =>
    rintro pre q X KK ⟨v, e1, e2, e4⟩ hxz hKK
    gi_wp2
    exact hKK _ _ (KeepsFrom.refl _ _) (Kq.refl _ _ _) ⟨v, e1, e2, e4⟩ hxz rfl
  case body =>
    rintro pre q a' X ⟨v, e1, e2, e4⟩ hxz rfl hlt
    have hown := e2.2
    obtain ⟨⟨av, cv, rfl⟩, _⟩ := id e2
    have cO := e1.cell
    have fO := e1.frozen
    have hpl : pre.length ≤ 100000 := by omega
    have hzx := e4.size
    gi_wp2_with (gi_at_builtin; refine wpListIn_append_own_at _ rfl _ _ 67 rfl w.heap.size 3 i0 (.int .i64 0) 1 8 Tryd.underlying67 hi hi0 hi1 hi2 rfl (by decide) _ _ _ rfl (hown.alloc _) ⟨X.heap.size, 0, none⟩ 1 1 [.int .i64 q] rfl rfl (cell_newG X [.int .i64 q] _) (by simp [Value.oneCell']) (by unfold maxLen; omega) (by omega) (by simp; omega) ?_; intro v' w1 hown' hgrow hnil hblk; obtain ⟨g', cap', rfl⟩ := ownsRow_succ hown'; obtain ⟨hv1, hv2, hr2, hk2, hb2⟩ := e1.appended (by decide) hown e4.size (by omega) hown' hgrow; have hc1 := hv1.cell; have hf1 := hv1.frozen)
    exact ⟨hk2.from _, KqG.appended e1 e2 hgrow hblk hv2, _, hv2, RowG.of hr2 (by simp) (by simp [intCells]), e4.trans hb2⟩
  case done =>
    rintro X ⟨v, e1, e2, e4⟩ hdef
    have cO := e1.cell
    gi_wp2
    refine ⟨by simp, .inl ⟨_, _, rfl, run_takeDeferred hdef, ?_⟩⟩
    refine ⟨v, (by simp [results, Tryd.f62, go_sem]), v, rfl, RowG.of (e2.kept (fun k hk => World.putObj_heap_other (fun e => ?_))).2 hnl rfl, e4.trans (belowK_b (w := w) (Nat.le_refl _) X _ _ _ (by omega) hdef rfl rfl)⟩
    obtain ⟨o, h2, h3⟩ := e2.cells hk
    rw [e, hdef] at h2; cases h2; cases h3

set_option maxHeartbeats 1000000 in
theorem indexes_any (N : Nat) (w : World) : Calls Tryd.prog 45 #[.int .i64 N] w (fun e w' => e = .returned (.func (.func 63) #[] #[.pointer (some ⟨w.heap.size, 0, none⟩)]) ∧ w' = w.alloc (.cells #[.int .i64 N] 3)) := by
  go_enter Tryd.func45, Tryd.ntmps45
  go_wp2
  go_ret
  exact ⟨rfl, rfl⟩

set_option maxHeartbeats 1000000 in
theorem collect_any (N Bn : Nat) (w : World) (hB : Bn < w.heap.size) (cB : w.cell? ⟨Bn, 0, none⟩ = some (.int .i64 N)) (hN : N ≤ 100000) :
    Calls Tryd.prog 44 #[.func (.func 63) #[] #[.pointer (some ⟨Bn, 0, none⟩)]] w
      (fun e w' => ∃ v, e = .returned v ∧ RowG w' w.heap.size 3 1 v N (intCells (nums N)) ∧ Below w.heap.size w w') := by
  have h := appendSeq_any N Bn w hB cB hN
  have H := Lib.hid h; clear h cB
  go_enter Tryd.func44, Tryd.ntmps44
  go_wp2_with (go_at_call 62; (with_reducible refine (H.out).mono ?_); rintro e w1 ⟨v, rfl, h1, hb1⟩)
  go_ret
  exact ⟨v, rfl, h1, hb1⟩
end Go.Proofs.YticodcecillciaaDoor

/- Patterns in the program: the first number that meets a test; the first section that may not be there. -/
namespace Go.Proofs.YticodcecillciaaDoor
set_option linter.all false
open Go.RowKit

def firstOf (N : Nat) (p : Nat → Bool) : Int := match (List.range N).find? p with
  | some i => (i : Int)
  | none => -1
theorem nums_cell (N k : Nat) (h : k < N) : (intCells (nums N))[k]? = some (.int .i64 (k : Int)) := by
  unfold intCells nums
  rw [List.getElem?_map, List.getElem?_map, List.getElem?_range h]; rfl

set_option maxRecDepth 100000 in
set_option maxHeartbeats 2000000 in
theorem indexNums_any (N P base : Nat) (v : Value) (p : Nat → Bool) (w : World) (h : RowG w base 3 1 v N (intCells (nums N))) (hN : N ≤ 100000)
    (hcall : ∀ (i : Nat) (W : World), i < N → Below w.heap.size w W → Calls Tryd.prog 46 #[.int .i64 i, .pointer (some ⟨P, 0, none⟩)] W (RetB (.bool (p i)) W)) :
    Calls Tryd.prog 43 #[v, .func (.func 46) #[] #[.pointer (some ⟨P, 0, none⟩)]] w (RetB (.int .i64 (firstOf N p)) w) := by
  obtain ⟨r, hr⟩ : ∃ r, r = firstOf N p := ⟨_, rfl⟩
  rw [← hr]
  by_cases h0 : 0 < N
  · obtain ⟨b1, c1, rfl, _, hb1, hc, hh, _⟩ := h.get h0
    have HH := Lib.hid hh; have HR := Lib.hid hr; have HC := Lib.hid hcall
    clear hh hr h h0 hcall
    go_enter Tryd.func43, Tryd.ntmps43
    go_wp2_with fail
    go_loopw [5, 8] (fun _ i wr => ∃ k : Nat, k ≤ N ∧ i = .int .i64 k ∧ Hid (∀ i, i < k → p i = false) ∧ Below w.heap.size w wr) (fun _ i _ => N - (intOf i).toNat)
    case atStart => exact ⟨0, Nat.zero_le _, rfl, Lib.hid (fun i h => absurd h (Nat.not_lt_zero _)), Below.refl _ _⟩
    case round =>
      obtain ⟨k, hk, rfl, HP, hbr⟩ := hrel
      have hzr := hbr.size
      by_cases hlt : k < N
      · have c0 := (hbr.cell (p := ⟨b1, k, none⟩) hb1).trans (HH.out k _ (nums_cell N k hlt))
        have hcl := HC.out k wr hlt hbr
        have i1 : (k : Int) < (N : Int) := by omega
        cases hit : p k with
        | true =>
          rw [hit] at hcl
          have hrk : .int .i64 (k : Int) = Value.int .i64 r := by
            rw [HR.out]; unfold firstOf
            rw [find_range hlt hit HP.out]
          have HK := Lib.hid hrk; have HCL := Lib.hid hcl
          clear hit hrk hcl
          go_wp2_with (go_at_call 46; (with_reducible refine (HCL.out).mono ?_); rintro e w1 ⟨rfl, hb_w1⟩; have hB_w1 : Below (wr).heap.size (wr) w1 := Below.trans (by (repeat (first | exact Below.refl _ _ | assumption | refine Below.setCell ?_ (by first | omega | (simp <;> omega)) _ | refine Below.alloc ?_ (by first | omega | (simp <;> omega)) _ | refine Below.drew ?_ | refine below_drewN' ?_ _))) (hb_w1.mono (by first | omega | (simp <;> omega))); obtain ⟨hc_w1, hf_w1⟩ := bcell hb_w1; have hz_w1 := hb_w1.size; (try simp only [size_drew', size_drewN', World.size_alloc, World.size_setCell] at hz_w1))
          go_ret
          exact RetB.of HK.out (hbr.trans (hb_w1.mono (by omega)))
        | false =>
          rw [hit] at hcl
          have hnx : Hid (∀ i, i < k + 1 → p i = false) := Lib.hid fun i h => by
            by_cases e : i = k
            · subst e; exact hit
            · exact HP.out i (by omega)
          have HCL := Lib.hid hcl
          clear hit hcl
          go_wp2_with (go_at_call 46; (with_reducible refine (HCL.out).mono ?_); rintro e w1 ⟨rfl, hb_w1⟩; have hB_w1 : Below (wr).heap.size (wr) w1 := Below.trans (by (repeat (first | exact Below.refl _ _ | assumption | refine Below.setCell ?_ (by first | omega | (simp <;> omega)) _ | refine Below.alloc ?_ (by first | omega | (simp <;> omega)) _ | refine Below.drew ?_ | refine below_drewN' ?_ _))) (hb_w1.mono (by first | omega | (simp <;> omega))); obtain ⟨hc_w1, hf_w1⟩ := bcell hb_w1; have hz_w1 := hb_w1.size; (try simp only [size_drew', size_drewN', World.size_alloc, World.size_setCell] at hz_w1))
          go_roundw
          case rel => exact ⟨k + 1, by omega, by go_num, hnx, hbr.trans (hb_w1.mono (by omega))⟩
          case measure => simp [intOf]; omega
      · have hkk : k = N := by omega
        have hrk : .int .i64 (-1) = Value.int .i64 r := by
          rw [HR.out]; unfold firstOf
          rw [find_range_none (fun i hi => HP.out i (by omega))]
        have HK := Lib.hid hrk; clear hrk
        go_wp2
        go_ret
        exact RetB.of HK.out hbr
  · obtain rfl : N = 0 := by omega
    obtain ⟨⟨a, c, rfl⟩, _⟩ := h
    obtain rfl : r = -1 := hr
    clear h0 hcall
    go_enter Tryd.func43, Tryd.ntmps43
    go_wp2_with fail
    go_loopw [5, 8] (fun _ i wr => i = .int .i64 0 ∧ Below w.heap.size w wr) (fun _ i _ => 0)
    case atStart => exact ⟨rfl, Below.refl _ _⟩
    case round =>
      obtain ⟨rfl, hbw⟩ := hrel
      go_wp2
      go_ret
      exact RetB.of rfl hbw

set_option maxRecDepth 100000 in
set_option maxHeartbeats 4000000 in
theorem pa_wrong1_any (l : List Pa.Sec) (v : Value) (B P i : Nat) (w : World) (h : SecsAt w B v l) (hB : B ≤ w.heap.size) (hP : w.cell? ⟨P, 0, none⟩ = some v) (hPl : P < w.heap.size) (hi : i < l.length) (hl : l.length ≤ 4)
    (hit : ∀ k (h : k < l.length), l[k].items.length ≤ 1000000) (hu : U8 w) :
    Calls Tryd.prog 46 #[.int .i64 i, .pointer (some ⟨P, 0, none⟩)] w (RetB (.bool (Pa.bad l i)) w) := by
  obtain ⟨b, o, c, rfl, hc, hb, hh⟩ := h.get (by omega)
  obtain ⟨vi, h1, c0, c1, c2⟩ := hh i hi
  have hs := fun (W : World) (hW : Below w.heap.size w W) => pa_shape_any vi l[i] B W (h1.below hW hB) (Nat.le_trans hB hW.size) (hit i hi) (hu.on hW)
  have hbad : Pa.bad l i = if Pa.shape l[i] = 0 then true else if Pa.shape l[i] = 1 then false else if Pa.shape l[i] = 6 then decide (i < 3) && decide (1 < l.length) else decide (i = 3) := by
    unfold Pa.bad
    rw [getElem!_pos l i hi]
  obtain ⟨r, hr⟩ : ∃ r, r = Pa.bad l i := ⟨_, rfl⟩
  rw [← hr] at hbad ⊢
  unfold secV at hs
  obtain ⟨n, hn⟩ : ∃ n, n = l.length := ⟨_, rfl⟩
  rw [← hn] at hbad hl hi hc hP
  obtain ⟨g, hg⟩ : ∃ g, g = l[i].grouped := ⟨_, rfl⟩
  obtain ⟨sc, hsc⟩ : ∃ g, g = l[i].scale := ⟨_, rfl⟩
  obtain ⟨K, hK⟩ : ∃ K, K = Pa.shape l[i] := ⟨_, rfl⟩
  rw [← hg] at c1 hs
  rw [← hsc] at c2 hs
  rw [← hK] at hs hbad
  have HS := Lib.hid hs
  have hbw : b < w.heap.size := Nat.lt_of_lt_of_le hb hB
  clear hr hh h1 hit hu h hs hg hsc hK hn
  have i1 : (i : Int) < (n : Int) := by omega
  have i2 : (n : Int) ≤ 4 := by omega
  by_cases k0 : K = 0
  · subst k0
    have HR0 := Lib.hid (show Value.bool true = .bool r by rw [hbad]; rfl); clear hbad
    go_enter Tryd.func46, Tryd.ntmps46
    go_wp2_with (go_at_call 9; (with_reducible refine (HS.out _ (by (repeat (first | exact Below.refl _ _ | assumption | refine Below.setCell ?_ (by first | omega | (simp <;> omega)) _ | refine Below.alloc ?_ (by first | omega | (simp <;> omega)) _ | refine Below.drew ?_ | refine below_drewN' ?_ _)))).mono ?_); rintro e w1 ⟨rfl, hb_w1⟩; have hB_w1 : Below (w).heap.size (w) w1 := Below.trans (by (repeat (first | exact Below.refl _ _ | assumption | refine Below.setCell ?_ (by first | omega | (simp <;> omega)) _ | refine Below.alloc ?_ (by first | omega | (simp <;> omega)) _ | refine Below.drew ?_ | refine below_drewN' ?_ _))) (hb_w1.mono (by first | omega | (simp <;> omega))); obtain ⟨hc_w1, hf_w1⟩ := bcell hb_w1; have hz_w1 := hb_w1.size; (try simp only [size_drew', size_drewN', World.size_alloc, World.size_setCell] at hz_w1))
    go_ret
    exact RetB.of HR0.out (by (repeat (first | exact Below.refl _ _ | assumption | refine Below.setCell ?_ (by first | omega | (simp <;> omega)) _ | refine Below.alloc ?_ (by first | omega | (simp <;> omega)) _ | refine Below.drew ?_ | refine below_drewN' ?_ _)))
  · have k0' : (K == 0) = false := beq_eq_false_iff_ne.2 k0
    by_cases k1 : K = 1
    · subst k1
      have HR0 := Lib.hid (show Value.bool false = .bool r by rw [hbad]; rfl); clear hbad
      go_enter Tryd.func46, Tryd.ntmps46
      go_wp2_with (go_at_call 9; (with_reducible refine (HS.out _ (by (repeat (first | exact Below.refl _ _ | assumption | refine Below.setCell ?_ (by first | omega | (simp <;> omega)) _ | refine Below.alloc ?_ (by first | omega | (simp <;> omega)) _ | refine Below.drew ?_ | refine below_drewN' ?_ _)))).mono ?_); rintro e w1 ⟨rfl, hb_w1⟩; have hB_w1 : Below (w).heap.size (w) w1 := Below.trans (by (repeat (first | exact Below.refl _ _ | assumption | refine Below.setCell ?_ (by first | omega | (simp <;> omega)) _ | refine Below.alloc ?_ (by first | omega | (simp <;> omega)) _ | refine Below.drew ?_ | refine below_drewN' ?_ _))) (hb_w1.mono (by first | omega | (simp <;> omega))); obtain ⟨hc_w1, hf_w1⟩ := bcell hb_w1; have hz_w1 := hb_w1.size; (try simp only [size_drew', size_drewN', World.size_alloc, World.size_setCell] at hz_w1))
      go_ret
      exact RetB.of HR0.out (by (repeat (first | exact Below.refl _ _ | assumption | refine Below.setCell ?_ (by first | omega | (simp <;> omega)) _ | refine Below.alloc ?_ (by first | omega | (simp <;> omega)) _ | refine Below.drew ?_ | refine below_drewN' ?_ _)))
    · have k1' : (K == 1) = false := beq_eq_false_iff_ne.2 k1
      rw [if_neg k0, if_neg k1] at hbad
      by_cases k6 : K = 6
      · subst k6
        rw [if_pos rfl] at hbad
        by_cases h3 : i < 3
        · have h3' : (i : Int) < 3 := by omega
          by_cases hn1 : 1 < n
          · have hn1' : (1 : Int) < (n : Int) := by omega
            have HR0 := Lib.hid (show Value.bool true = .bool r by rw [hbad]; rw [decide_eq_true h3, decide_eq_true hn1]; rfl); clear hbad
            clear k0 k1
            go_enter Tryd.func46, Tryd.ntmps46
            go_wp2_with (go_at_call 9; (with_reducible refine (HS.out _ (by (repeat (first | exact Below.refl _ _ | assumption | refine Below.setCell ?_ (by first | omega | (simp <;> omega)) _ | refine Below.alloc ?_ (by first | omega | (simp <;> omega)) _ | refine Below.drew ?_ | refine below_drewN' ?_ _)))).mono ?_); rintro e w1 ⟨rfl, hb_w1⟩; have hB_w1 : Below (w).heap.size (w) w1 := Below.trans (by (repeat (first | exact Below.refl _ _ | assumption | refine Below.setCell ?_ (by first | omega | (simp <;> omega)) _ | refine Below.alloc ?_ (by first | omega | (simp <;> omega)) _ | refine Below.drew ?_ | refine below_drewN' ?_ _))) (hb_w1.mono (by first | omega | (simp <;> omega))); obtain ⟨hc_w1, hf_w1⟩ := bcell hb_w1; have hz_w1 := hb_w1.size; (try simp only [size_drew', size_drewN', World.size_alloc, World.size_setCell] at hz_w1))
            go_ret
            exact RetB.of HR0.out (by (repeat (first | exact Below.refl _ _ | assumption | refine Below.setCell ?_ (by first | omega | (simp <;> omega)) _ | refine Below.alloc ?_ (by first | omega | (simp <;> omega)) _ | refine Below.drew ?_ | refine below_drewN' ?_ _)))
          · have hn1' : decide ((1 : Int) < (n : Int)) = false := decide_eq_false (by omega)
            have HR0 := Lib.hid (show Value.bool false = .bool r by rw [hbad]; rw [decide_eq_true h3, decide_eq_false hn1]; rfl); clear hbad
            clear k0 k1
            go_enter Tryd.func46, Tryd.ntmps46
            go_wp2_with (go_at_call 9; (with_reducible refine (HS.out _ (by (repeat (first | exact Below.refl _ _ | assumption | refine Below.setCell ?_ (by first | omega | (simp <;> omega)) _ | refine Below.alloc ?_ (by first | omega | (simp <;> omega)) _ | refine Below.drew ?_ | refine below_drewN' ?_ _)))).mono ?_); rintro e w1 ⟨rfl, hb_w1⟩; have hB_w1 : Below (w).heap.size (w) w1 := Below.trans (by (repeat (first | exact Below.refl _ _ | assumption | refine Below.setCell ?_ (by first | omega | (simp <;> omega)) _ | refine Below.alloc ?_ (by first | omega | (simp <;> omega)) _ | refine Below.drew ?_ | refine below_drewN' ?_ _))) (hb_w1.mono (by first | omega | (simp <;> omega))); obtain ⟨hc_w1, hf_w1⟩ := bcell hb_w1; have hz_w1 := hb_w1.size; (try simp only [size_drew', size_drewN', World.size_alloc, World.size_setCell] at hz_w1))
            go_ret
            exact RetB.of HR0.out (by (repeat (first | exact Below.refl _ _ | assumption | refine Below.setCell ?_ (by first | omega | (simp <;> omega)) _ | refine Below.alloc ?_ (by first | omega | (simp <;> omega)) _ | refine Below.drew ?_ | refine below_drewN' ?_ _)))
        · obtain rfl : i = 3 := by omega
          have HR0 := Lib.hid (show Value.bool false = .bool r by rw [hbad]; rfl); clear hbad
          clear k0 k1 h3
          go_enter Tryd.func46, Tryd.ntmps46
          go_wp2_with (go_at_call 9; (with_reducible refine (HS.out _ (by (repeat (first | exact Below.refl _ _ | assumption | refine Below.setCell ?_ (by first | omega | (simp <;> omega)) _ | refine Below.alloc ?_ (by first | omega | (simp <;> omega)) _ | refine Below.drew ?_ | refine below_drewN' ?_ _)))).mono ?_); rintro e w1 ⟨rfl, hb_w1⟩; have hB_w1 : Below (w).heap.size (w) w1 := Below.trans (by (repeat (first | exact Below.refl _ _ | assumption | refine Below.setCell ?_ (by first | omega | (simp <;> omega)) _ | refine Below.alloc ?_ (by first | omega | (simp <;> omega)) _ | refine Below.drew ?_ | refine below_drewN' ?_ _))) (hb_w1.mono (by first | omega | (simp <;> omega))); obtain ⟨hc_w1, hf_w1⟩ := bcell hb_w1; have hz_w1 := hb_w1.size; (try simp only [size_drew', size_drewN', World.size_alloc, World.size_setCell] at hz_w1))
          go_ret
          exact RetB.of HR0.out (by (repeat (first | exact Below.refl _ _ | assumption | refine Below.setCell ?_ (by first | omega | (simp <;> omega)) _ | refine Below.alloc ?_ (by first | omega | (simp <;> omega)) _ | refine Below.drew ?_ | refine below_drewN' ?_ _)))
      · have k6' : (K == 6) = false := beq_eq_false_iff_ne.2 k6
        rw [if_neg k6] at hbad
        by_cases h3 : i = 3
        · subst h3
          have HR0 := Lib.hid (show Value.bool true = .bool r by rw [hbad]; rfl); clear hbad
          clear k0 k1 k6
          go_enter Tryd.func46, Tryd.ntmps46
          go_wp2_with (go_at_call 9; (with_reducible refine (HS.out _ (by (repeat (first | exact Below.refl _ _ | assumption | refine Below.setCell ?_ (by first | omega | (simp <;> omega)) _ | refine Below.alloc ?_ (by first | omega | (simp <;> omega)) _ | refine Below.drew ?_ | refine below_drewN' ?_ _)))).mono ?_); rintro e w1 ⟨rfl, hb_w1⟩; have hB_w1 : Below (w).heap.size (w) w1 := Below.trans (by (repeat (first | exact Below.refl _ _ | assumption | refine Below.setCell ?_ (by first | omega | (simp <;> omega)) _ | refine Below.alloc ?_ (by first | omega | (simp <;> omega)) _ | refine Below.drew ?_ | refine below_drewN' ?_ _))) (hb_w1.mono (by first | omega | (simp <;> omega))); obtain ⟨hc_w1, hf_w1⟩ := bcell hb_w1; have hz_w1 := hb_w1.size; (try simp only [size_drew', size_drewN', World.size_alloc, World.size_setCell] at hz_w1))
          go_ret
          exact RetB.of HR0.out (by (repeat (first | exact Below.refl _ _ | assumption | refine Below.setCell ?_ (by first | omega | (simp <;> omega)) _ | refine Below.alloc ?_ (by first | omega | (simp <;> omega)) _ | refine Below.drew ?_ | refine below_drewN' ?_ _)))
        · have h3' : ((i : Int) == 3) = false := beq_eq_false_iff_ne.2 (by omega)
          have HR0 := Lib.hid (show Value.bool false = .bool r by rw [hbad]; rw [decide_eq_false h3]); clear hbad
          clear k0 k1 k6
          go_enter Tryd.func46, Tryd.ntmps46
          go_wp2_with (go_at_call 9; (with_reducible refine (HS.out _ (by (repeat (first | exact Below.refl _ _ | assumption | refine Below.setCell ?_ (by first | omega | (simp <;> omega)) _ | refine Below.alloc ?_ (by first | omega | (simp <;> omega)) _ | refine Below.drew ?_ | refine below_drewN' ?_ _)))).mono ?_); rintro e w1 ⟨rfl, hb_w1⟩; have hB_w1 : Below (w).heap.size (w) w1 := Below.trans (by (repeat (first | exact Below.refl _ _ | assumption | refine Below.setCell ?_ (by first | omega | (simp <;> omega)) _ | refine Below.alloc ?_ (by first | omega | (simp <;> omega)) _ | refine Below.drew ?_ | refine below_drewN' ?_ _))) (hb_w1.mono (by first | omega | (simp <;> omega))); obtain ⟨hc_w1, hf_w1⟩ := bcell hb_w1; have hz_w1 := hb_w1.size; (try simp only [size_drew', size_drewN', World.size_alloc, World.size_setCell] at hz_w1))
          go_ret
          exact RetB.of HR0.out (by (repeat (first | exact Below.refl _ _ | assumption | refine Below.setCell ?_ (by first | omega | (simp <;> omega)) _ | refine Below.alloc ?_ (by first | omega | (simp <;> omega)) _ | refine Below.drew ?_ | refine below_drewN' ?_ _)))

set_option maxRecDepth 100000 in
set_option maxHeartbeats 2000000 in
/-- The first section that may not be there. -/
theorem pa_wrong_any (l : List Pa.Sec) (v : Value) (B : Nat) (w : World) (h : SecsAt w B v l) (hB : B ≤ w.heap.size) (hl : l.length ≤ 4) (hit : ∀ k (h : k < l.length), l[k].items.length ≤ 1000000) (hu : U8 w) :
    Calls Tryd.prog 29 #[.agg #[v]] w (RetB (.int .i64 (Pa.wrong l)) w) := by
  obtain ⟨a, c, rfl, hc⟩ := h.form
  obtain ⟨n, hn⟩ : ∃ n, n = l.length := ⟨_, rfl⟩
  have hw : Pa.wrong l = firstOf n (Pa.bad l) := by rw [hn]; rfl
  have hcall : ∀ (W : World) (vn : Value) (base : Nat), Below w.heap.size w W → W.cell? ⟨w.heap.size, 0, none⟩ = some (.slice a l.length c) → w.heap.size < W.heap.size → RowG W base 3 1 vn n (intCells (nums n)) →
      Calls Tryd.prog 43 #[vn, .func (.func 46) #[] #[.pointer (some ⟨w.heap.size, 0, none⟩)]] W (RetB (.int .i64 (Pa.wrong l)) W) := fun W vn base hW hP hPl hr => by
    rw [hw]
    refine indexNums_any n w.heap.size base vn (Pa.bad l) W hr (by omega) (fun i X hi hX => ?_)
    have hWX : Below w.heap.size w X := hW.trans (hX.mono hW.size)
    exact pa_wrong1_any l _ B w.heap.size i X (h.below hWX hB) (Nat.le_trans hB hWX.size) ((hX.cell (p := ⟨w.heap.size, 0, none⟩) hPl).trans hP) (Nat.lt_of_lt_of_le hPl hX.size) (by omega) hl hit (hu.on hWX)
  rw [← hn] at hcall hl hc ⊢
  generalize Pa.wrong l = r at *
  have HC := Lib.hid hcall
  have hcol := fun W Bn h1 h2 => collect_any n Bn W h1 h2 (by omega)
  have HCOL := Lib.hid hcol
  have hidx := fun W => indexes_any n W
  have HIX := Lib.hid hidx
  clear hcall hcol hidx hw h hit hu hn
  go_enter Tryd.func29, Tryd.ntmps29
  go_wp2_with (first
    | (go_at_call 45; (with_reducible refine (HIX.out _).mono ?_); rintro e w' ⟨rfl, rfl⟩)
    | (go_at_call 44; (with_reducible refine (HCOL.out _ _ (by simp) (by simp [go_sem])).mono ?_); rintro e w1 ⟨vn, rfl, hvn, hb_w1⟩; have hB_w1 : Below (w).heap.size (w) w1 := Below.trans (by (repeat (first | exact Below.refl _ _ | assumption | refine Below.setCell ?_ (by first | omega | (simp <;> omega)) _ | refine Below.alloc ?_ (by first | omega | (simp <;> omega)) _ | refine Below.drew ?_ | refine below_drewN' ?_ _))) (hb_w1.mono (by first | omega | (simp <;> omega))); obtain ⟨hc_w1, hf_w1⟩ := bcell hb_w1; have hz_w1 := hb_w1.size; (try simp only [size_drew', size_drewN', World.size_alloc, World.size_setCell] at hz_w1); have hl0_w1 : w.heap.size < w1.heap.size := (by omega); have hm0_w1 : w.heap.size ≤ w1.heap.size := (by omega); have hn0_w1 : ¬ w.heap.size = w1.heap.size := (by omega); have hq0_w1 : ¬ w1.heap.size = w.heap.size := (by omega); have hr0_w1 := fun o => hc_w1 (w.heap.size) o (by (try simp only [size_drew', size_drewN', World.size_alloc, World.size_setCell]); omega); have hg0_w1 := fun o => hf_w1 (w.heap.size) o (by (try simp only [size_drew', size_drewN', World.size_alloc, World.size_setCell]); omega); have HVN := Lib.hid hvn; clear hvn)
    | (go_at_call 43; (with_reducible refine (HC.out _ _ _ (by (repeat (first | exact Below.refl _ _ | assumption | refine Below.setCell ?_ (by first | omega | (simp <;> omega)) _ | refine Below.alloc ?_ (by first | omega | (simp <;> omega)) _ | refine Below.drew ?_ | refine below_drewN' ?_ _))) (by rw [hr0_w1]; simp [go_sem]) (by omega) HVN.out).mono ?_); rintro e w2 ⟨rfl, hb_w2⟩; have hB_w2 : Below (w).heap.size (w) w2 := Below.trans (by (repeat (first | exact Below.refl _ _ | assumption | refine Below.setCell ?_ (by first | omega | (simp <;> omega)) _ | refine Below.alloc ?_ (by first | omega | (simp <;> omega)) _ | refine Below.drew ?_ | refine below_drewN' ?_ _))) (hb_w2.mono (by first | omega | (simp <;> omega))); obtain ⟨hc_w2, hf_w2⟩ := bcell hb_w2; have hz_w2 := hb_w2.size; (try simp only [size_drew', size_drewN', World.size_alloc, World.size_setCell] at hz_w2)))
  go_ret
  exact RetB.of rfl (by (repeat (first | exact Below.refl _ _ | assumption | refine Below.setCell ?_ (by first | omega | (simp <;> omega)) _ | refine Below.alloc ?_ (by first | omega | (simp <;> omega)) _ | refine Below.drew ?_ | refine below_drewN' ?_ _)))
end Go.Proofs.YticodcecillciaaDoor
