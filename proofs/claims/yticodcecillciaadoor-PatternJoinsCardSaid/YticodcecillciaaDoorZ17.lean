/- The statements of chapter 13: is a pattern of a size that they go through? -/
import Derived.Test.YticodcecillciaaDoorZ16
import Derived.Test.YticodcecillciaaDoorZ1
import Derived.Test.YticodcecillciaaDoorRows
import Derived.OpenShut
import Derived.Lib.SmallJoins
import Derived.ProofKit
import Derived.Carry
import Derived.Lib.LaidU8T
import Derived.Deep.SlicePairs
import Derived.HandedShaped
import Derived.Shelf.Vars
import Derived.Deep.RegionHeld3
namespace Go.Proofs.YticodcecillciaaDoor
set_option linter.all false
open Go.RowKit

namespace Pa
def fitS (s : Sec) : Bool := decide (s.items.length ≤ 300) && s.items.all (fun x => decide (x.text.size ≤ 100))
def small (l : List Sec) : Bool := decide (l.length ≤ 8) && (l.all fitS && decide (total l ≤ 600))
theorem small_len {l : List Sec} (h : 8 < l.length) : small l = false := by
  unfold small; rw [decide_eq_false (by omega)]; rfl
theorem small_sec {l : List Sec} {k : Nat} (hk : k < l.length) (h : fitS l[k] = false) : small l = false := by
  unfold small
  have : l.all fitS = false := by
    rw [Bool.eq_false_iff]; intro ha
    rw [List.all_eq_true] at ha
    rw [ha _ (List.getElem_mem hk)] at h; cases h
  rw [this]; simp
theorem small_end {l : List Sec} (h8 : l.length ≤ 8) (h : ∀ k (hk : k < l.length), fitS l[k] = true) : small l = decide (total l ≤ 600) := by
  unfold small
  have : l.all fitS = true := by
    rw [List.all_eq_true]; intro x hx
    obtain ⟨k, hk, rfl⟩ := List.getElem_of_mem hx
    exact h k hk
  rw [this, decide_eq_true h8]; rfl
theorem fit_len {s : Sec} (h : 300 < s.items.length) : fitS s = false := by
  unfold fitS; rw [decide_eq_false (by omega)]; rfl
theorem fit_text {s : Sec} {j : Nat} (hj : j < s.items.length) (h : 100 < s.items[j].text.size) : fitS s = false := by
  unfold fitS
  rw [Bool.and_eq_false_iff]; right
  rw [Bool.eq_false_iff]; intro ha
  rw [List.all_eq_true] at ha
  have := of_decide_eq_true (ha _ (List.getElem_mem hj))
  omega
theorem fit_yes {s : Sec} (h : s.items.length ≤ 300) (ht : ∀ j (hj : j < s.items.length), s.items[j].text.size ≤ 100) : fitS s = true := by
  unfold fitS
  rw [decide_eq_true h, Bool.true_and, List.all_eq_true]
  intro x hx
  obtain ⟨j, hj, rfl⟩ := List.getElem_of_mem hx
  exact decide_eq_true (ht j hj)
/-- What a small pattern is like. -/
theorem small_parts {l : List Sec} (h : small l = true) : l.length ≤ 8 ∧ (∀ k (hk : k < l.length), l[k].items.length ≤ 300 ∧ ∀ j (hj : j < l[k].items.length), l[k].items[j].text.size ≤ 100) ∧ total l ≤ 600 := by
  unfold small at h
  simp only [Bool.and_eq_true, decide_eq_true_eq] at h
  obtain ⟨h1, h2, h3⟩ := h
  refine ⟨h1, fun k hk => ?_, h3⟩
  have := (List.all_eq_true.1 h2) _ (List.getElem_mem hk)
  unfold fitS at this
  simp only [Bool.and_eq_true, decide_eq_true_eq] at this
  refine ⟨this.1, fun j hj => ?_⟩
  have := (List.all_eq_true.1 this.2) _ (List.getElem_mem hj)
  exact of_decide_eq_true this
end Pa

set_option maxRecDepth 100000 in
set_option maxHeartbeats 8000000 in
theorem l13_small_any (l : List Pa.Sec) (v : Value) (B : Nat) (w : World) (h : SecsAt w B v l) (hB : B ≤ w.heap.size) :
    Calls Tryd.prog 7 #[.agg #[v]] w (RetB (.bool (Pa.small l)) w) := by
  obtain ⟨a, c, rfl, hc⟩ := h.form
  have hgt := fun h0 => h.get h0
  obtain ⟨r, hr⟩ : ∃ r, r = Pa.small l := ⟨_, rfl⟩
  obtain ⟨n, hn⟩ : ∃ n, n = l.length := ⟨_, rfl⟩
  rw [← hn, ← hr]
  by_cases h8 : n ≤ 8
  · have n8 : ¬ (8 : Int) < (n : Int) := by omega
    obtain ⟨W1, hW1⟩ : ∃ W1, W1 = w.alloc (.cells #[.slice a n c] 24) := ⟨_, rfl⟩
    have hB1 : Below w.heap.size w W1 := by rw [hW1]; exact (Below.refl _ w).alloc (Nat.le_refl _) _
    have cx0 : W1.cell? ⟨w.heap.size, 0, none⟩ = some (.slice a n c) := by rw [hW1]; simp [go_sem]
    have HGT := Lib.hid hgt; have HN := Lib.hid hn; have HW1 := Lib.hid hW1; have HB1 := Lib.hid hB1; have HR := Lib.hid hr; have HC := Lib.hid cx0
    clear hgt hn h hc cx0 hW1 hB1 hr
    go_enter Tryd.func7, Tryd.ntmps7
    go_wp2_with fail
    rw [← HW1.out]
    go_loopw [3, 4] (fun t i wr => ∃ k : Nat, k ≤ n ∧ i = .int .i64 (k : Int) ∧ t = .int .i64 (Pa.total (l.take k) : Nat) ∧ Pa.total (l.take k) ≤ 300 * k ∧ Hid (∀ q (hq : q < l.length), q < k → Pa.fitS l[q] = true) ∧ wr = W1) (fun _ i _ => n - (intOf i).toNat)
    case atStart => exact ⟨0, Nat.zero_le _, rfl, rfl, by simp [Pa.total], Lib.hid (fun q hq h => absurd h (Nat.not_lt_zero _)), rfl⟩
    case round =>
      obtain ⟨k, hk, rfl, rfl, htk, HP, rfl⟩ := hrel
      have cx0 := HC.out
      by_cases hlt : k < n
      · have hkl : k < l.length := by rw [← HN.out]; exact hlt
        obtain ⟨b, o, c', e', _, hb, hh⟩ := HGT.out (by omega)
        rw [← HN.out] at e'
        cases e'
        obtain ⟨vi, hvi, d0, _⟩ := hh k hkl
        replace d0 := (HB1.out.cell (p := ⟨b, o + k * 3, none⟩) (by simp only; omega)).trans d0
        obtain ⟨ai, ci, rfl, _⟩ := hvi.form
        have hig := fun h0 => hvi.get h0
        have htt := total_take l k hkl
        obtain ⟨T, hT⟩ : ∃ T, T = Pa.total (l.take k) := ⟨_, rfl⟩
        rw [← hT] at htk htt ⊢
        obtain ⟨m, hm⟩ : ∃ m, m = l[k].items.length := ⟨_, rfl⟩
        rw [← hm] at d0 htt
        have i1 : (k : Int) < (n : Int) := by omega
        have i2 : (k : Int) ≤ 8 := by omega
        have i3 : (T : Int) ≤ 3000 := by omega
        have HIG := Lib.hid hig; have HM := Lib.hid hm; have HTT := Lib.hid htt
        clear hh hvi hig hm htt hT
        by_cases hm3 : m ≤ 300
        · have j1 : ¬ (300 : Int) < (m : Int) := by omega
          have j2 : (m : Int) ≤ 300 := by omega
          obtain ⟨wo, rfl⟩ : ∃ wo : World, wo = wr := ⟨_, rfl⟩
          go_wp2_with fail
          go_loopw [3, 5] (fun t i wr => ∃ j : Nat, j ≤ m ∧ i = .int .i64 (j : Int) ∧ t = .int .i64 ((T : Int) + (j : Int)) ∧ Hid (∀ q (hq : q < l[k].items.length), q < j → l[k].items[q].text.size ≤ 100) ∧ wr = wo) (fun _ i _ => m - (intOf i).toNat)
          case atStart => exact ⟨0, Nat.zero_le _, rfl, by simp, Lib.hid (fun q hq h => absurd h (Nat.not_lt_zero _)), rfl⟩
          case round =>
            obtain ⟨j, hj, rfl, rfl, HPJ, rfl⟩ := hrel
            by_cases hlj : j < m
            · have hjl : j < l[k].items.length := by rw [← HM.out]; exact hlj
              obtain ⟨bi, oi, c2, e2, _, hbi, hhi⟩ := HIG.out (by omega)
              rw [← HM.out] at e2
              cases e2
              obtain ⟨_, g1⟩ := hhi j hjl
              replace g1 := (HB1.out.cell (p := ⟨bi, oi + j * 2 + 1, none⟩) (by simp only; omega)).trans g1
              obtain ⟨TX, hTX⟩ : ∃ K, K = l[k].items[j].text := ⟨_, rfl⟩
              rw [← hTX] at g1
              have q1 : (j : Int) < (m : Int) := by omega
              clear hhi
              by_cases h100 : TX.size ≤ 100
              · have q2 : ¬ (100 : Int) < (TX.size : Int) := by omega
                have HT100 := Lib.hid (show l[k].items[j].text.size ≤ 100 by rw [← hTX]; exact h100)
                clear hTX
                go_wp2_with fail
                go_roundw
                case rel => exact ⟨j + 1, by omega, by go_num, by go_num, Lib.hid (fun q hq h => by
                  by_cases e : q = j
                  · subst e; exact HT100.out
                  · exact HPJ.out q hq (by omega)), by first | trivial | rfl⟩
                case measure => simp [intOf]; omega
              · have q2 : (100 : Int) < (TX.size : Int) := by omega
                have hrf : r = false := by rw [HR.out]; exact Pa.small_sec hkl (Pa.fit_text hjl (by rw [← hTX]; omega))
                subst hrf
                clear hTX HR
                go_wp2_with fail
                go_ret
                exact RetB.of rfl HB1.out
            · have hjm : j = m := by omega
              subst hjm
              have hfit := Lib.hid (Pa.fit_yes (s := l[k]) (by rw [← HM.out]; exact hm3) (fun q hq => HPJ.out q hq (by rw [HM.out]; exact hq)))
              have q1 : ¬ (j : Int) < (j : Int) := by omega
              go_wp2_with fail
              go_roundw
              case rel => exact ⟨k + 1, by omega, by go_num, by rw [HTT.out]; go_num, by rw [HTT.out]; omega, Lib.hid (fun q hq h => by
                by_cases e : q = k
                · subst e; exact hfit.out
                · exact HP.out q hq (by omega)), by first | trivial | rfl⟩
              case measure => simp [intOf]; omega
        · have j1 : (300 : Int) < (m : Int) := by omega
          have hrf : r = false := by rw [HR.out]; exact Pa.small_sec hkl (Pa.fit_len (by rw [← HM.out]; omega))
          subst hrf
          clear HR
          go_wp2_with fail
          go_ret
          exact RetB.of rfl HB1.out
      · have hkn : k = n := by omega
        subst hkn
        rw [List.take_of_length_le (by rw [← HN.out]; exact Nat.le_refl _)] at htk ⊢
        have hre : r = decide (Pa.total l ≤ 600) := by rw [HR.out]; exact Pa.small_end (by rw [← HN.out]; exact h8) (fun q hq => HP.out q hq (by rw [HN.out]; exact hq))
        obtain ⟨T, hT⟩ : ∃ T, T = Pa.total l := ⟨_, rfl⟩
        rw [← hT] at htk hre ⊢
        by_cases h600 : T ≤ 600
        · have q1 : (T : Int) ≤ 600 := by omega
          rw [decide_eq_true h600] at hre
          subst hre
          clear HR hT
          go_wp2_with fail
          go_ret
          exact RetB.of rfl HB1.out
        · have q1 : ¬ (T : Int) ≤ 600 := by omega
          rw [decide_eq_false h600] at hre
          subst hre
          clear HR hT
          go_wp2_with fail
          go_ret
          exact RetB.of rfl HB1.out
  · have n8 : (8 : Int) < (n : Int) := by omega
    have hrf : r = false := by rw [hr]; exact Pa.small_len (by omega)
    subst hrf
    clear hr hgt h hc hn
    go_enter Tryd.func7, Tryd.ntmps7
    go_wp2_with fail
    go_ret
    exact RetB.of rfl (by (repeat (first | exact Below.refl _ _ | assumption | refine Below.setCell ?_ (by first | omega | (simp <;> omega)) _ | refine Below.alloc ?_ (by first | omega | (simp <;> omega)) _ | refine Below.drew ?_ | refine below_drewN' ?_ _)))
end Go.Proofs.YticodcecillciaaDoor

/- Plain Lean: the chapter's examples. -/
namespace Go.Proofs.YticodcecillciaaDoor.Pa
set_option linter.all false

/-- A text is a pattern of so many sections, the first one's shape. -/
def readB (s : ByteArray) (n : Nat) (sh : Int) : Bool := decide ((parse s).2 = (0, 0)) && (decide ((parse s).1.length = n) && (decide (0 < n) && (decide (shape (parse s).1[0]! = sh) && ((parse s).1.all fun x => decide (x.items.length ≤ 100)))))
def wrongB (s : ByteArray) (p : Int) : Bool := decide (parse s = ([], 12, p))
def tx (l : List UInt8) : ByteArray := ⟨l.toArray⟩
theorem x1 : readB (tx [48, 46, 48, 48]) 1 2 = true := by kernel_rfl
theorem x2 : readB (tx [35, 44, 35, 35, 48, 59, 40, 35, 44, 35, 35, 48, 41]) 2 2 = true := by kernel_rfl
theorem x3 : readB (tx [48, 46, 48, 48, 69, 43, 48, 48]) 1 3 = true := by kernel_rfl
theorem x4 : readB (tx [35, 32, 63, 47, 63, 63]) 1 4 = true := by kernel_rfl
theorem x5 : readB (tx [71, 101, 110, 101, 114, 97, 108]) 1 5 = true := by kernel_rfl
theorem x6 : readB (tx [34, 97, 34, 64]) 1 6 = true := by kernel_rfl
theorem x7 : readB (tx [59, 59, 59]) 4 1 = true := by kernel_rfl
theorem y1 : wrongB (tx [48, 46, 48, 44, 44]) 3 = true := by kernel_rfl
theorem y2 : wrongB (tx [44, 48]) 0 = true := by kernel_rfl
theorem y3 : wrongB (tx [48, 46, 48, 44, 48]) 3 = true := by kernel_rfl
theorem y4 : wrongB (tx [34, 97]) 0 = true := by kernel_rfl
theorem y5 : wrongB (tx [97]) 0 = true := by kernel_rfl
theorem y6 : wrongB (tx [48, 59, 48, 59, 48, 59, 48]) 6 = true := by kernel_rfl
theorem y7 : wrongB (tx [48, 46, 46, 48]) 0 = true := by kernel_rfl
theorem y8 : wrongB (tx [64, 59, 48]) 0 = true := by kernel_rfl
theorem y9 : wrongB (tx [48, 59, 49]) 2 = true := by kernel_rfl
theorem z1 : (decide ((parse (tx [48, 44, 44])).1.length = 1) && (decide ((parse (tx [48, 44, 44])).1[0]!.grouped = false) && decide ((parse (tx [48, 44, 44])).1[0]!.scale = 2))) = true := by kernel_rfl
theorem z2 : (decide ((parse (tx [48, 44, 48])).1.length = 1) && decide ((parse (tx [48, 44, 48])).1[0]!.grouped = true)) = true := by kernel_rfl
theorem z3 : decide (print (parse (tx [34, 107, 103, 34, 32, 48])).1 = [92, 107, 92, 103, 32, 48]) = true := by kernel_rfl
theorem z4 : ((parse (tx [34, 107, 103, 34, 32, 48])).1.all fun x => decide (x.items.length ≤ 100)) = true := by kernel_rfl
theorem z5 : decide ((parse (tx [34, 107, 103, 34, 32, 48])).1.length ≤ 4) = true := by kernel_rfl
theorem z6 : ((parse (tx [48, 44, 44])).1.all fun x => decide (x.items.length ≤ 100)) = true := by kernel_rfl
theorem z7 : ((parse (tx [48, 44, 48])).1.all fun x => decide (x.items.length ≤ 100)) = true := by kernel_rfl
end Go.Proofs.YticodcecillciaaDoor.Pa

/- The statements of chapter 13: a text is read, or refused there. -/
namespace Go.Proofs.YticodcecillciaaDoor
set_option linter.all false
open Go.RowKit

/-- What has been read, its first section at hand. -/
theorem parse_first (s : ByteArray) (w : World) (hu : U8 w) (l : List Pa.Sec) (c p : Int) (hp : Pa.parse s = (l, c, p)) (h0 : 0 < l.length) (hit : ∀ k (h : k < l.length), l[k].items.length ≤ 100) :
    Calls Tryd.prog 15 #[.string s] w (fun e w' => ∃ b o cc ai ci, e = .returned (.tuple #[.agg #[.slice (some ⟨b, o, none⟩) l.length cc], .int .i64 c, .int .i64 p]) ∧ b < w'.heap.size ∧
      w'.cell? ⟨b, o, none⟩ = some (.slice ai l[0].items.length ci) ∧ w'.cell? ⟨b, o + 1, none⟩ = some (.bool l[0].grouped) ∧ w'.cell? ⟨b, o + 2, none⟩ = some (.int .i64 l[0].scale) ∧
      (∀ W, Below w'.heap.size w' W → Calls Tryd.prog 9 #[.agg #[.slice ai l[0].items.length ci, .bool l[0].grouped, .int .i64 l[0].scale]] W (RetB (.int .i64 (Pa.shape l[0])) W)) ∧ SecsAt w' w'.heap.size (.slice (some ⟨b, o, none⟩) l.length cc) l ∧ Below w.heap.size w w') := by
  have h := pa_parse_any s w hu
  rw [hp] at h
  refine h.mono fun e w' hh => ?_
  obtain ⟨v, rfl, hs, hb⟩ := hh
  obtain ⟨b, o, cc, rfl, _, hlt, hc⟩ := hs.get h0
  obtain ⟨vi, hvi, d0, d1, d2⟩ := hc 0 h0
  have hsh := fun (W : World) (hW : Below w'.heap.size w' W) => pa_shape_any vi l[0] w'.heap.size W (hvi.below hW (Nat.le_refl _)) hW.size (by have := hit 0 h0; omega) ((hu.on hb).on hW)
  obtain ⟨ai, ci, rfl, _⟩ := hvi.form
  rw [Nat.zero_mul, Nat.add_zero] at d0 d1 d2
  exact ⟨b, o, cc, ai, ci, rfl, hlt, d0, d1, d2, hsh, hs, hb⟩

set_option maxRecDepth 100000 in
set_option maxHeartbeats 4000000 in
theorem l13_read_true (s : ByteArray) (n : Nat) (sh : Int) (w : World) (hu : U8 w) (h : Pa.readB s n sh = true) :
    Calls Tryd.prog 17 #[.string s, .int .i64 (n : Int), .int .i64 sh] w (RetB (.bool true) w) := by
  unfold Pa.readB at h
  simp only [Bool.and_eq_true, decide_eq_true_eq] at h
  obtain ⟨h1, h2, h3, h4, h5⟩ := h
  obtain ⟨l, hl⟩ : ∃ l, l = (Pa.parse s).1 := ⟨_, rfl⟩
  have hp : Pa.parse s = (l, 0, 0) := by rw [hl, ← h1]
  rw [← hl] at h2 h4 h5
  subst h2
  have h6 : ∀ k (h : k < l.length), l[k].items.length ≤ 100 := fun k hk => of_decide_eq_true ((List.all_eq_true.1 h5) _ (List.getElem_mem hk))
  have hc := parse_first s w hu l 0 0 hp h3 h6
  rw [getElem!_pos l 0 h3] at h4
  rw [h4] at hc
  have i1 : (0 : Int) < (l.length : Int) := by omega
  generalize l[0].items.length = m at hc
  generalize l[0].grouped = g at hc
  generalize l[0].scale = sc at hc
  have HC := Lib.hid hc
  clear hc h1 h4 h5 h6 hp hl h3 hu
  go_enter Tryd.func17, Tryd.ntmps17
  go_wp2_with (first
    | (go_at_call 15; (with_reducible refine (HC.out).mono ?_); rintro e w1 ⟨b, o, cc, ai, ci, rfl, hlt, d0, d1, d2, hsh, hsec, hb1⟩; have HS := Lib.hid hsh; have hn1 : ¬ b = w1.heap.size := (by omega); have hB1 := hb1; clear hsh hsec)
    | (go_at_call 9; (with_reducible refine (HS.out _ (by (repeat (first | exact Below.refl _ _ | assumption | refine Below.setCell ?_ (by first | omega | (simp <;> omega)) _ | refine Below.alloc ?_ (by first | omega | (simp <;> omega)) _ | refine Below.drew ?_ | refine below_drewN' ?_ _)))).mono ?_); rintro e w2 ⟨rfl, hb2⟩))
  go_ret
  exact RetB.of rfl ((hB1.alloc hB1.size _).trans (hb2.mono (by have := hB1.size; simp; omega)))

set_option maxRecDepth 100000 in
set_option maxHeartbeats 4000000 in
theorem l13_wrong_true (s : ByteArray) (p : Int) (w : World) (hu : U8 w) (h : Pa.wrongB s p = true) :
    Calls Tryd.prog 18 #[.string s, .int .i64 p] w (RetB (.bool true) w) := by
  have hp := of_decide_eq_true h
  have hc := pa_parse_any s w hu
  rw [hp] at hc
  replace hc := hc.mono (R' := fun e w' => ∃ a cc, e = .returned (.tuple #[.agg #[.slice a 0 cc], .int .i64 12, .int .i64 p]) ∧ Below w.heap.size w w') (fun e w' hh => by
    obtain ⟨v, rfl, hs, hb⟩ := hh
    obtain ⟨a, cc, rfl, _⟩ := hs.form
    exact ⟨a, cc, rfl, hb⟩)
  have HC := Lib.hid hc
  clear hc hp h hu
  go_enter Tryd.func18, Tryd.ntmps18
  go_wp2_with (go_at_call 15; (with_reducible refine (HC.out).mono ?_); rintro e w1 ⟨a, cc, rfl, hb1⟩; have hB1 := hb1)
  go_ret
  exact RetB.of rfl (hB1.alloc hB1.size _)
end Go.Proofs.YticodcecillciaaDoor

/- The statements of chapter 13: the chapter's examples. -/
namespace Go.Proofs.YticodcecillciaaDoor
set_option linter.all false
open Go.RowKit

theorem first_of {s : ByteArray} (w : World) (hu : U8 w) (h1 : (Pa.parse s).1.length = 1) (h2 : ((Pa.parse s).1.all fun x => decide (x.items.length ≤ 100)) = true) (g : Bool) (k : Int) (hg : (Pa.parse s).1[0]!.grouped = g) (hk : (Pa.parse s).1[0]!.scale = k) :
    Calls Tryd.prog 15 #[.string s] w (fun e w' => ∃ b o cc c p, e = .returned (.tuple #[.agg #[.slice (some ⟨b, o, none⟩) 1 cc], .int .i64 c, .int .i64 p]) ∧ b < w'.heap.size ∧ w'.cell? ⟨b, o + 1, none⟩ = some (.bool g) ∧ w'.cell? ⟨b, o + 2, none⟩ = some (.int .i64 k) ∧ Below w.heap.size w w') := by
  have h0 : 0 < (Pa.parse s).1.length := by omega
  have hit : ∀ k (h : k < (Pa.parse s).1.length), (Pa.parse s).1[k].items.length ≤ 100 := fun k hk => of_decide_eq_true ((List.all_eq_true.1 h2) _ (List.getElem_mem hk))
  rw [getElem!_pos _ 0 h0] at hg hk
  refine (parse_first s w hu (Pa.parse s).1 (Pa.parse s).2.1 (Pa.parse s).2.2 rfl h0 hit).mono fun e w' hh => ?_
  obtain ⟨b, o, cc, ai, ci, he, hlt, d0, d1, d2, _, _, hb⟩ := hh
  rw [h1] at he
  rw [hg] at d1
  rw [hk] at d2
  exact ⟨b, o, cc, _, _, he, hlt, d1, d2, hb⟩
theorem print_of {s : ByteArray} (w : World) (hu : U8 w) (hm : MaxL w) (h1 : (Pa.parse s).1.length ≤ 4) (h2 : ((Pa.parse s).1.all fun x => decide (x.items.length ≤ 100)) = true) :
    Calls Tryd.prog 15 #[.string s] w (fun e w' => ∃ a n cc c p, e = .returned (.tuple #[.agg #[.slice a n cc], .int .i64 c, .int .i64 p]) ∧ (∀ W, Below w'.heap.size w' W → Calls Tryd.prog 13 #[.agg #[.slice a n cc]] W (RetB (.string ⟨(Pa.print (Pa.parse s).1).toArray⟩) W)) ∧ Below w.heap.size w w') := by
  have hit : ∀ k (h : k < (Pa.parse s).1.length), (Pa.parse s).1[k].items.length ≤ 100 := fun k hk => of_decide_eq_true ((List.all_eq_true.1 h2) _ (List.getElem_mem hk))
  refine (pa_parse_any s w hu).mono fun e w' hh => ?_
  obtain ⟨v, he, hs, hb⟩ := hh
  have hp := fun (W : World) (hW : Below w'.heap.size w' W) => pa_print_any (Pa.parse s).1 v w'.heap.size W (hs.below hW (Nat.le_refl _)) hW.size (by omega) (fun k hk => by have := hit k hk; omega) ((hu.on hb).on hW) ((hm.on hb).on hW)
  obtain ⟨a, cc, rfl, _⟩ := hs.form
  exact ⟨a, _, cc, _, _, he, hp, hb⟩

set_option maxRecDepth 100000 in
set_option maxHeartbeats 16000000 in
theorem l13_shown_any (w : World) (hu : U8 w) (hm : MaxL w) : Calls Tryd.prog 6 #[] w (RetB (.bool true) w) := by
  have r0 : ∀ W, Below w.heap.size w W → Calls Tryd.prog 17 #[.string ⟨#[48, 46, 48, 48]⟩, .int .i64 1, .int .i64 2] W (RetB (.bool true) W) := fun W hW => l13_read_true (Pa.tx [48, 46, 48, 48]) 1 2 W (hu.on hW) Pa.x1
  have r1 : ∀ W, Below w.heap.size w W → Calls Tryd.prog 17 #[.string ⟨#[35, 44, 35, 35, 48, 59, 40, 35, 44, 35, 35, 48, 41]⟩, .int .i64 2, .int .i64 2] W (RetB (.bool true) W) := fun W hW => l13_read_true (Pa.tx [35, 44, 35, 35, 48, 59, 40, 35, 44, 35, 35, 48, 41]) 2 2 W (hu.on hW) Pa.x2
  have r2 : ∀ W, Below w.heap.size w W → Calls Tryd.prog 17 #[.string ⟨#[48, 46, 48, 48, 69, 43, 48, 48]⟩, .int .i64 1, .int .i64 3] W (RetB (.bool true) W) := fun W hW => l13_read_true (Pa.tx [48, 46, 48, 48, 69, 43, 48, 48]) 1 3 W (hu.on hW) Pa.x3
  have r3 : ∀ W, Below w.heap.size w W → Calls Tryd.prog 17 #[.string ⟨#[35, 32, 63, 47, 63, 63]⟩, .int .i64 1, .int .i64 4] W (RetB (.bool true) W) := fun W hW => l13_read_true (Pa.tx [35, 32, 63, 47, 63, 63]) 1 4 W (hu.on hW) Pa.x4
  have r4 : ∀ W, Below w.heap.size w W → Calls Tryd.prog 17 #[.string ⟨#[71, 101, 110, 101, 114, 97, 108]⟩, .int .i64 1, .int .i64 5] W (RetB (.bool true) W) := fun W hW => l13_read_true (Pa.tx [71, 101, 110, 101, 114, 97, 108]) 1 5 W (hu.on hW) Pa.x5
  have r5 : ∀ W, Below w.heap.size w W → Calls Tryd.prog 17 #[.string ⟨#[34, 97, 34, 64]⟩, .int .i64 1, .int .i64 6] W (RetB (.bool true) W) := fun W hW => l13_read_true (Pa.tx [34, 97, 34, 64]) 1 6 W (hu.on hW) Pa.x6
  have r6 : ∀ W, Below w.heap.size w W → Calls Tryd.prog 17 #[.string ⟨#[59, 59, 59]⟩, .int .i64 4, .int .i64 1] W (RetB (.bool true) W) := fun W hW => l13_read_true (Pa.tx [59, 59, 59]) 4 1 W (hu.on hW) Pa.x7
  have q0 : ∀ W, Below w.heap.size w W → Calls Tryd.prog 18 #[.string ⟨#[48, 46, 48, 44, 44]⟩, .int .i64 3] W (RetB (.bool true) W) := fun W hW => l13_wrong_true (Pa.tx [48, 46, 48, 44, 44]) 3 W (hu.on hW) Pa.y1
  have q1 : ∀ W, Below w.heap.size w W → Calls Tryd.prog 18 #[.string ⟨#[44, 48]⟩, .int .i64 0] W (RetB (.bool true) W) := fun W hW => l13_wrong_true (Pa.tx [44, 48]) 0 W (hu.on hW) Pa.y2
  have q2 : ∀ W, Below w.heap.size w W → Calls Tryd.prog 18 #[.string ⟨#[48, 46, 48, 44, 48]⟩, .int .i64 3] W (RetB (.bool true) W) := fun W hW => l13_wrong_true (Pa.tx [48, 46, 48, 44, 48]) 3 W (hu.on hW) Pa.y3
  have q3 : ∀ W, Below w.heap.size w W → Calls Tryd.prog 18 #[.string ⟨#[34, 97]⟩, .int .i64 0] W (RetB (.bool true) W) := fun W hW => l13_wrong_true (Pa.tx [34, 97]) 0 W (hu.on hW) Pa.y4
  have q4 : ∀ W, Below w.heap.size w W → Calls Tryd.prog 18 #[.string ⟨#[97]⟩, .int .i64 0] W (RetB (.bool true) W) := fun W hW => l13_wrong_true (Pa.tx [97]) 0 W (hu.on hW) Pa.y5
  have q5 : ∀ W, Below w.heap.size w W → Calls Tryd.prog 18 #[.string ⟨#[48, 59, 48, 59, 48, 59, 48]⟩, .int .i64 6] W (RetB (.bool true) W) := fun W hW => l13_wrong_true (Pa.tx [48, 59, 48, 59, 48, 59, 48]) 6 W (hu.on hW) Pa.y6
  have q6 : ∀ W, Below w.heap.size w W → Calls Tryd.prog 18 #[.string ⟨#[48, 46, 46, 48]⟩, .int .i64 0] W (RetB (.bool true) W) := fun W hW => l13_wrong_true (Pa.tx [48, 46, 46, 48]) 0 W (hu.on hW) Pa.y7
  have q7 : ∀ W, Below w.heap.size w W → Calls Tryd.prog 18 #[.string ⟨#[64, 59, 48]⟩, .int .i64 0] W (RetB (.bool true) W) := fun W hW => l13_wrong_true (Pa.tx [64, 59, 48]) 0 W (hu.on hW) Pa.y8
  have q8 : ∀ W, Below w.heap.size w W → Calls Tryd.prog 18 #[.string ⟨#[48, 59, 49]⟩, .int .i64 2] W (RetB (.bool true) W) := fun W hW => l13_wrong_true (Pa.tx [48, 59, 49]) 2 W (hu.on hW) Pa.y9
  have z1 := Pa.z1; have z2 := Pa.z2
  simp only [Bool.and_eq_true, decide_eq_true_eq] at z1 z2
  have p1 : ∀ W, Below w.heap.size w W → Calls Tryd.prog 15 #[.string ⟨#[48, 44, 44]⟩] W (fun e w' => ∃ b o cc c p, e = .returned (.tuple #[.agg #[.slice (some ⟨b, o, none⟩) 1 cc], .int .i64 c, .int .i64 p]) ∧ b < w'.heap.size ∧ w'.cell? ⟨b, o + 1, none⟩ = some (.bool false) ∧ w'.cell? ⟨b, o + 2, none⟩ = some (.int .i64 2) ∧ Below W.heap.size W w') := fun W hW => first_of (s := Pa.tx [48, 44, 44]) W (hu.on hW) z1.1 Pa.z6 false 2 z1.2.1 z1.2.2
  have p2 : ∀ W, Below w.heap.size w W → Calls Tryd.prog 15 #[.string ⟨#[48, 44, 48]⟩] W (fun e w' => ∃ b o cc c p k, e = .returned (.tuple #[.agg #[.slice (some ⟨b, o, none⟩) 1 cc], .int .i64 c, .int .i64 p]) ∧ b < w'.heap.size ∧ w'.cell? ⟨b, o + 1, none⟩ = some (.bool true) ∧ w'.cell? ⟨b, o + 2, none⟩ = some (.int .i64 k) ∧ Below W.heap.size W w') := fun W hW => (first_of (s := Pa.tx [48, 44, 48]) W (hu.on hW) z2.1 Pa.z7 true _ z2.2 rfl).mono fun e w' hh => by
    obtain ⟨b, o, cc, c, p, h⟩ := hh
    exact ⟨b, o, cc, c, p, _, h⟩
  have p3 : ∀ W, Below w.heap.size w W → Calls Tryd.prog 15 #[.string ⟨#[34, 107, 103, 34, 32, 48]⟩] W (fun e w' => ∃ a n cc c p, e = .returned (.tuple #[.agg #[.slice a n cc], .int .i64 c, .int .i64 p]) ∧ (∀ W, Below w'.heap.size w' W → Calls Tryd.prog 13 #[.agg #[.slice a n cc]] W (RetB (.string ⟨#[92, 107, 92, 103, 32, 48]⟩) W)) ∧ Below W.heap.size W w') := fun W hW => by
    have h := print_of (s := Pa.tx [34, 107, 103, 34, 32, 48]) W (hu.on hW) (hm.on hW) (of_decide_eq_true Pa.z5) Pa.z4
    rw [of_decide_eq_true Pa.z3] at h
    exact h
  have R0 := Lib.hid r0; have R1 := Lib.hid r1; have R2 := Lib.hid r2; have R3 := Lib.hid r3; have R4 := Lib.hid r4; have R5 := Lib.hid r5; have R6 := Lib.hid r6; have Q0 := Lib.hid q0; have Q1 := Lib.hid q1; have Q2 := Lib.hid q2; have Q3 := Lib.hid q3; have Q4 := Lib.hid q4; have Q5 := Lib.hid q5; have Q6 := Lib.hid q6; have Q7 := Lib.hid q7; have Q8 := Lib.hid q8; have P1 := Lib.hid p1; have P2 := Lib.hid p2; have P3 := Lib.hid p3
  clear r0 r1 r2 r3 r4 r5 r6 q0 q1 q2 q3 q4 q5 q6 q7 q8 p1 p2 p3 z1 z2 hu hm
  go_enter Tryd.func6, Tryd.ntmps6
  go_wp2_with (first
    | (go_at_call 17; (with_reducible refine (R0.out _ (by (repeat (first | exact Below.refl _ _ | assumption | refine Below.setCell ?_ (by first | omega | (simp <;> omega)) _ | refine Below.alloc ?_ (by first | omega | (simp <;> omega)) _ | refine Below.drew ?_ | refine below_drewN' ?_ _)))).mono ?_); rintro e w1 ⟨rfl, hb_w1⟩; have hB_w1 : Below w.heap.size w w1 := Below.next (by (repeat (first | exact Below.refl _ _ | assumption | refine Below.setCell ?_ (by first | omega | (simp <;> omega)) _ | refine Below.alloc ?_ (by first | omega | (simp <;> omega)) _ | refine Below.drew ?_ | refine below_drewN' ?_ _))) hb_w1)
    | (go_at_call 17; (with_reducible refine (R1.out _ (by (repeat (first | exact Below.refl _ _ | assumption | refine Below.setCell ?_ (by first | omega | (simp <;> omega)) _ | refine Below.alloc ?_ (by first | omega | (simp <;> omega)) _ | refine Below.drew ?_ | refine below_drewN' ?_ _)))).mono ?_); rintro e w1 ⟨rfl, hb_w1⟩; have hB_w1 : Below w.heap.size w w1 := Below.next (by (repeat (first | exact Below.refl _ _ | assumption | refine Below.setCell ?_ (by first | omega | (simp <;> omega)) _ | refine Below.alloc ?_ (by first | omega | (simp <;> omega)) _ | refine Below.drew ?_ | refine below_drewN' ?_ _))) hb_w1)
    | (go_at_call 17; (with_reducible refine (R2.out _ (by (repeat (first | exact Below.refl _ _ | assumption | refine Below.setCell ?_ (by first | omega | (simp <;> omega)) _ | refine Below.alloc ?_ (by first | omega | (simp <;> omega)) _ | refine Below.drew ?_ | refine below_drewN' ?_ _)))).mono ?_); rintro e w1 ⟨rfl, hb_w1⟩; have hB_w1 : Below w.heap.size w w1 := Below.next (by (repeat (first | exact Below.refl _ _ | assumption | refine Below.setCell ?_ (by first | omega | (simp <;> omega)) _ | refine Below.alloc ?_ (by first | omega | (simp <;> omega)) _ | refine Below.drew ?_ | refine below_drewN' ?_ _))) hb_w1)
    | (go_at_call 17; (with_reducible refine (R3.out _ (by (repeat (first | exact Below.refl _ _ | assumption | refine Below.setCell ?_ (by first | omega | (simp <;> omega)) _ | refine Below.alloc ?_ (by first | omega | (simp <;> omega)) _ | refine Below.drew ?_ | refine below_drewN' ?_ _)))).mono ?_); rintro e w1 ⟨rfl, hb_w1⟩; have hB_w1 : Below w.heap.size w w1 := Below.next (by (repeat (first | exact Below.refl _ _ | assumption | refine Below.setCell ?_ (by first | omega | (simp <;> omega)) _ | refine Below.alloc ?_ (by first | omega | (simp <;> omega)) _ | refine Below.drew ?_ | refine below_drewN' ?_ _))) hb_w1)
    | (go_at_call 17; (with_reducible refine (R4.out _ (by (repeat (first | exact Below.refl _ _ | assumption | refine Below.setCell ?_ (by first | omega | (simp <;> omega)) _ | refine Below.alloc ?_ (by first | omega | (simp <;> omega)) _ | refine Below.drew ?_ | refine below_drewN' ?_ _)))).mono ?_); rintro e w1 ⟨rfl, hb_w1⟩; have hB_w1 : Below w.heap.size w w1 := Below.next (by (repeat (first | exact Below.refl _ _ | assumption | refine Below.setCell ?_ (by first | omega | (simp <;> omega)) _ | refine Below.alloc ?_ (by first | omega | (simp <;> omega)) _ | refine Below.drew ?_ | refine below_drewN' ?_ _))) hb_w1)
    | (go_at_call 17; (with_reducible refine (R5.out _ (by (repeat (first | exact Below.refl _ _ | assumption | refine Below.setCell ?_ (by first | omega | (simp <;> omega)) _ | refine Below.alloc ?_ (by first | omega | (simp <;> omega)) _ | refine Below.drew ?_ | refine below_drewN' ?_ _)))).mono ?_); rintro e w1 ⟨rfl, hb_w1⟩; have hB_w1 : Below w.heap.size w w1 := Below.next (by (repeat (first | exact Below.refl _ _ | assumption | refine Below.setCell ?_ (by first | omega | (simp <;> omega)) _ | refine Below.alloc ?_ (by first | omega | (simp <;> omega)) _ | refine Below.drew ?_ | refine below_drewN' ?_ _))) hb_w1)
    | (go_at_call 17; (with_reducible refine (R6.out _ (by (repeat (first | exact Below.refl _ _ | assumption | refine Below.setCell ?_ (by first | omega | (simp <;> omega)) _ | refine Below.alloc ?_ (by first | omega | (simp <;> omega)) _ | refine Below.drew ?_ | refine below_drewN' ?_ _)))).mono ?_); rintro e w1 ⟨rfl, hb_w1⟩; have hB_w1 : Below w.heap.size w w1 := Below.next (by (repeat (first | exact Below.refl _ _ | assumption | refine Below.setCell ?_ (by first | omega | (simp <;> omega)) _ | refine Below.alloc ?_ (by first | omega | (simp <;> omega)) _ | refine Below.drew ?_ | refine below_drewN' ?_ _))) hb_w1)
    | (go_at_call 18; (with_reducible refine (Q0.out _ (by (repeat (first | exact Below.refl _ _ | assumption | refine Below.setCell ?_ (by first | omega | (simp <;> omega)) _ | refine Below.alloc ?_ (by first | omega | (simp <;> omega)) _ | refine Below.drew ?_ | refine below_drewN' ?_ _)))).mono ?_); rintro e w1 ⟨rfl, hb_w1⟩; have hB_w1 : Below w.heap.size w w1 := Below.next (by (repeat (first | exact Below.refl _ _ | assumption | refine Below.setCell ?_ (by first | omega | (simp <;> omega)) _ | refine Below.alloc ?_ (by first | omega | (simp <;> omega)) _ | refine Below.drew ?_ | refine below_drewN' ?_ _))) hb_w1)
    | (go_at_call 18; (with_reducible refine (Q1.out _ (by (repeat (first | exact Below.refl _ _ | assumption | refine Below.setCell ?_ (by first | omega | (simp <;> omega)) _ | refine Below.alloc ?_ (by first | omega | (simp <;> omega)) _ | refine Below.drew ?_ | refine below_drewN' ?_ _)))).mono ?_); rintro e w1 ⟨rfl, hb_w1⟩; have hB_w1 : Below w.heap.size w w1 := Below.next (by (repeat (first | exact Below.refl _ _ | assumption | refine Below.setCell ?_ (by first | omega | (simp <;> omega)) _ | refine Below.alloc ?_ (by first | omega | (simp <;> omega)) _ | refine Below.drew ?_ | refine below_drewN' ?_ _))) hb_w1)
    | (go_at_call 18; (with_reducible refine (Q2.out _ (by (repeat (first | exact Below.refl _ _ | assumption | refine Below.setCell ?_ (by first | omega | (simp <;> omega)) _ | refine Below.alloc ?_ (by first | omega | (simp <;> omega)) _ | refine Below.drew ?_ | refine below_drewN' ?_ _)))).mono ?_); rintro e w1 ⟨rfl, hb_w1⟩; have hB_w1 : Below w.heap.size w w1 := Below.next (by (repeat (first | exact Below.refl _ _ | assumption | refine Below.setCell ?_ (by first | omega | (simp <;> omega)) _ | refine Below.alloc ?_ (by first | omega | (simp <;> omega)) _ | refine Below.drew ?_ | refine below_drewN' ?_ _))) hb_w1)
    | (go_at_call 18; (with_reducible refine (Q3.out _ (by (repeat (first | exact Below.refl _ _ | assumption | refine Below.setCell ?_ (by first | omega | (simp <;> omega)) _ | refine Below.alloc ?_ (by first | omega | (simp <;> omega)) _ | refine Below.drew ?_ | refine below_drewN' ?_ _)))).mono ?_); rintro e w1 ⟨rfl, hb_w1⟩; have hB_w1 : Below w.heap.size w w1 := Below.next (by (repeat (first | exact Below.refl _ _ | assumption | refine Below.setCell ?_ (by first | omega | (simp <;> omega)) _ | refine Below.alloc ?_ (by first | omega | (simp <;> omega)) _ | refine Below.drew ?_ | refine below_drewN' ?_ _))) hb_w1)
    | (go_at_call 18; (with_reducible refine (Q4.out _ (by (repeat (first | exact Below.refl _ _ | assumption | refine Below.setCell ?_ (by first | omega | (simp <;> omega)) _ | refine Below.alloc ?_ (by first | omega | (simp <;> omega)) _ | refine Below.drew ?_ | refine below_drewN' ?_ _)))).mono ?_); rintro e w1 ⟨rfl, hb_w1⟩; have hB_w1 : Below w.heap.size w w1 := Below.next (by (repeat (first | exact Below.refl _ _ | assumption | refine Below.setCell ?_ (by first | omega | (simp <;> omega)) _ | refine Below.alloc ?_ (by first | omega | (simp <;> omega)) _ | refine Below.drew ?_ | refine below_drewN' ?_ _))) hb_w1)
    | (go_at_call 18; (with_reducible refine (Q5.out _ (by (repeat (first | exact Below.refl _ _ | assumption | refine Below.setCell ?_ (by first | omega | (simp <;> omega)) _ | refine Below.alloc ?_ (by first | omega | (simp <;> omega)) _ | refine Below.drew ?_ | refine below_drewN' ?_ _)))).mono ?_); rintro e w1 ⟨rfl, hb_w1⟩; have hB_w1 : Below w.heap.size w w1 := Below.next (by (repeat (first | exact Below.refl _ _ | assumption | refine Below.setCell ?_ (by first | omega | (simp <;> omega)) _ | refine Below.alloc ?_ (by first | omega | (simp <;> omega)) _ | refine Below.drew ?_ | refine below_drewN' ?_ _))) hb_w1)
    | (go_at_call 18; (with_reducible refine (Q6.out _ (by (repeat (first | exact Below.refl _ _ | assumption | refine Below.setCell ?_ (by first | omega | (simp <;> omega)) _ | refine Below.alloc ?_ (by first | omega | (simp <;> omega)) _ | refine Below.drew ?_ | refine below_drewN' ?_ _)))).mono ?_); rintro e w1 ⟨rfl, hb_w1⟩; have hB_w1 : Below w.heap.size w w1 := Below.next (by (repeat (first | exact Below.refl _ _ | assumption | refine Below.setCell ?_ (by first | omega | (simp <;> omega)) _ | refine Below.alloc ?_ (by first | omega | (simp <;> omega)) _ | refine Below.drew ?_ | refine below_drewN' ?_ _))) hb_w1)
    | (go_at_call 18; (with_reducible refine (Q7.out _ (by (repeat (first | exact Below.refl _ _ | assumption | refine Below.setCell ?_ (by first | omega | (simp <;> omega)) _ | refine Below.alloc ?_ (by first | omega | (simp <;> omega)) _ | refine Below.drew ?_ | refine below_drewN' ?_ _)))).mono ?_); rintro e w1 ⟨rfl, hb_w1⟩; have hB_w1 : Below w.heap.size w w1 := Below.next (by (repeat (first | exact Below.refl _ _ | assumption | refine Below.setCell ?_ (by first | omega | (simp <;> omega)) _ | refine Below.alloc ?_ (by first | omega | (simp <;> omega)) _ | refine Below.drew ?_ | refine below_drewN' ?_ _))) hb_w1)
    | (go_at_call 18; (with_reducible refine (Q8.out _ (by (repeat (first | exact Below.refl _ _ | assumption | refine Below.setCell ?_ (by first | omega | (simp <;> omega)) _ | refine Below.alloc ?_ (by first | omega | (simp <;> omega)) _ | refine Below.drew ?_ | refine below_drewN' ?_ _)))).mono ?_); rintro e w1 ⟨rfl, hb_w1⟩; have hB_w1 : Below w.heap.size w w1 := Below.next (by (repeat (first | exact Below.refl _ _ | assumption | refine Below.setCell ?_ (by first | omega | (simp <;> omega)) _ | refine Below.alloc ?_ (by first | omega | (simp <;> omega)) _ | refine Below.drew ?_ | refine below_drewN' ?_ _))) hb_w1)
    | (go_at_call 15; (with_reducible refine (P1.out _ (by (repeat (first | exact Below.refl _ _ | assumption | refine Below.setCell ?_ (by first | omega | (simp <;> omega)) _ | refine Below.alloc ?_ (by first | omega | (simp <;> omega)) _ | refine Below.drew ?_ | refine below_drewN' ?_ _)))).mono ?_); rintro e wp ⟨bp, op, ccp, cp, pp, rfl, hltp, dp1, dp2, hbp⟩; have hBp : Below w.heap.size w wp := Below.next (by (repeat (first | exact Below.refl _ _ | assumption | refine Below.setCell ?_ (by first | omega | (simp <;> omega)) _ | refine Below.alloc ?_ (by first | omega | (simp <;> omega)) _ | refine Below.drew ?_ | refine below_drewN' ?_ _))) hbp; have hzp := hBp.size; have np : ¬ bp = wp.heap.size := (by omega))
    | (go_at_call 15; (with_reducible refine (P2.out _ (by first | exact hBp.alloc hzp _ | (repeat (first | exact Below.refl _ _ | assumption | refine Below.setCell ?_ (by first | omega | (simp <;> omega)) _ | refine Below.alloc ?_ (by first | omega | (simp <;> omega)) _ | refine Below.drew ?_ | refine below_drewN' ?_ _)))).mono ?_); rintro e wq ⟨bq, oq, ccq, cq, pq, kq, rfl, hltq, dq1, dq2, hbq⟩; have hBq : Below w.heap.size w wq := Below.next (hBp.alloc hzp _) hbq; have hzq := hBq.size; have hzpq := hbq.size; (try simp only [World.size_alloc] at hzpq); have nq : ¬ bq = wq.heap.size := (by omega); have ep1 : wq.cell? ⟨bp, op + 1, none⟩ = some (.bool false) := (hbq.cell (p := ⟨bp, op + 1, none⟩) (by simp only [World.size_alloc]; omega)).trans ((World.cell?_alloc_past _ _ _ hltp).trans dp1); have ep2 : wq.cell? ⟨bp, op + 2, none⟩ = some (.int .i64 2) := (hbq.cell (p := ⟨bp, op + 2, none⟩) (by simp only [World.size_alloc]; omega)).trans ((World.cell?_alloc_past _ _ _ hltp).trans dp2); have ep0 : wq.cell? ⟨wp.heap.size, 0, none⟩ = some (.slice (some ⟨bp, op, none⟩) 1 ccp) := (hbq.cell (p := ⟨wp.heap.size, 0, none⟩) (by simp)).trans (by simp [go_sem]))
    | (go_at_call 15; (with_reducible refine (P3.out _ (by first | exact hBq.alloc hzq _ | (repeat (first | exact Below.refl _ _ | assumption | refine Below.setCell ?_ (by first | omega | (simp <;> omega)) _ | refine Below.alloc ?_ (by first | omega | (simp <;> omega)) _ | refine Below.drew ?_ | refine below_drewN' ?_ _)))).mono ?_); rintro e wk ⟨ak, nk, cck, ck, pk, rfl, hpk, hbk⟩; have hBk : Below w.heap.size w wk := Below.next (hBq.alloc hzq _) hbk; have hzk := hBk.size; have hzqk := hbk.size; (try simp only [World.size_alloc] at hzqk); have HPK := Lib.hid hpk; clear hpk; have lp : bp < wk.heap.size := (by omega); have lq : bq < wk.heap.size := (by omega); have lpp : wp.heap.size < wk.heap.size := (by omega); have lqq : wq.heap.size < wk.heap.size := (by omega); have mp : ¬ bp = wk.heap.size := (by omega); have mq : ¬ bq = wk.heap.size := (by omega); have mpp : ¬ wp.heap.size = wk.heap.size := (by omega); have mqq : ¬ wq.heap.size = wk.heap.size := (by omega); have fp1 : wk.cell? ⟨bp, op + 1, none⟩ = some (.bool false) := (hbk.cell (p := ⟨bp, op + 1, none⟩) (by simp only [World.size_alloc]; omega)).trans ((World.cell?_alloc_past _ _ _ (by omega)).trans ep1); have fp2 : wk.cell? ⟨bp, op + 2, none⟩ = some (.int .i64 2) := (hbk.cell (p := ⟨bp, op + 2, none⟩) (by simp only [World.size_alloc]; omega)).trans ((World.cell?_alloc_past _ _ _ (by omega)).trans ep2); have fp0 : wk.cell? ⟨wp.heap.size, 0, none⟩ = some (.slice (some ⟨bp, op, none⟩) 1 ccp) := (hbk.cell (p := ⟨wp.heap.size, 0, none⟩) (by simp only [World.size_alloc]; omega)).trans ((World.cell?_alloc_past _ _ _ (by omega)).trans ep0); have fq1 : wk.cell? ⟨bq, oq + 1, none⟩ = some (.bool true) := (hbk.cell (p := ⟨bq, oq + 1, none⟩) (by simp only [World.size_alloc]; omega)).trans ((World.cell?_alloc_past _ _ _ hltq).trans dq1); have fq0 : wk.cell? ⟨wq.heap.size, 0, none⟩ = some (.slice (some ⟨bq, oq, none⟩) 1 ccq) := (hbk.cell (p := ⟨wq.heap.size, 0, none⟩) (by simp)).trans (by simp [go_sem]))
    | (go_at_call 13; (with_reducible refine (HPK.out _ (by (repeat (first | exact Below.refl _ _ | assumption | refine Below.setCell ?_ (by first | omega | (simp <;> omega)) _ | refine Below.alloc ?_ (by first | omega | (simp <;> omega)) _ | refine Below.drew ?_ | refine below_drewN' ?_ _)))).mono ?_); rintro e w9 ⟨rfl, hb9⟩))
  go_ret
  exact RetB.of rfl ((hBk.alloc hzk _).trans (hb9.mono (by simp; omega)))
end Go.Proofs.YticodcecillciaaDoor

/- What the cards of chapter 13 share: how a pattern and a text read, before the call and behind it; what the listed variables give. -/
namespace Go.Proofs.YticodcecillciaaDoor
set_option linter.all false
open Go.ChangeShapes Go.WideShapes Go.ChangeAt Go.RowKit Go.WideMaps Go.WideElems Go.Joins
open Go.ChangeMaps (open_string shut_string)

theorem own : ownKnob Tryd.prog.godebug = none := by kernel_rfl
theorem laidOut : laidOutB Tryd.prog = true := by kernel_rfl
set_option maxRecDepth 100000 in
theorem par_string {H : Type} {enc : TypeId × Value → H} {W : World} {base : Nat} {sp : Nat → Bool} {held : Bool} {r : Reach} {b0 : Nat} {v : Value} {d : DataW H} {p : List MemPlace} (hv : Value.okWide Tryd.prog W r b0 9 v) (h : DataW.Trod enc Tryd.prog W base sp held 9 v d p) :
    ∃ s : ByteArray, v = .string s ∧ p = [] ∧ s.size ≤ 9223372036854775807 := by
  obtain ⟨s, rfl, rfl, rfl, hs⟩ := open_string Tryd.underlying9 hv h
  exact ⟨s, rfl, rfl, by unfold maxLen at hs; exact hs⟩

theorem lt_of_cell {w : World} {b k : Nat} {v : Value} (h : w.cell? ⟨b, k, none⟩ = some v) : b < w.heap.size := by
  unfold World.cell? at h
  cases ho : w.heap[b]? with
  | none => simp [ho] at h
  | some o => exact (Array.getElem?_eq_some_iff.1 ho).1
/-- Things that are there at each place make a list. -/
theorem list_of {α : Type} {P : Nat → α → Prop} (n : Nat) (h : ∀ i, i < n → ∃ x, P i x) : ∃ l : List α, l.length = n ∧ ∀ i (hi : i < l.length), P i l[i] := by
  induction n with
  | zero => exact ⟨[], rfl, fun i hi => absurd hi (by simp)⟩
  | succ n ih =>
    obtain ⟨l, hl, hp⟩ := ih fun i hi => h i (by omega)
    obtain ⟨x, hx⟩ := h n (by omega)
    refine ⟨l ++ [x], by simp [hl], fun i hi => ?_⟩
    by_cases e : i < l.length
    · rw [List.getElem_append_left e]; exact hp i e
    · have : i = l.length := by simp at hi; omega
      subst this
      rw [List.getElem_append_right (Nat.le_refl _)]
      simp only [Nat.sub_self, List.getElem_cons_zero]
      rw [hl]; exact hx
theorem addr_add {a : Addr} (h : a.spot = none) (i : Nat) : a.add i = ⟨a.block, a.off + i, none⟩ := by
  unfold Addr.add
  cases a
  simp only at h
  subst h
  split
  · rename_i e; rw [e, Nat.add_zero]
  · rfl

set_option maxRecDepth 100000 in
theorem its_of_trod {H : Type} {enc : TypeId × Value → H} {W : World} {fuel : Nat} {v : Value} {x : DataW H × List MemPlace} (h : DataW.trod enc Tryd.prog W 0 (fun _ => true) true fuel 30 [v] = some x) : ∃ l : List Pa.It, ItsAt W W.heap.size v l := by
  rcases Go.Deep.open_slice_pairs Tryd.underlying30 Tryd.underlying48 (by kernel_rfl) rfl rfl (by kernel_rfl) (by kernel_rfl) h with ⟨hcs, _⟩ | ⟨a, len, cap, m, n, V0, V1, D0, D1, P0, P1, hcs, _, hl, _, hm, _, hx⟩
  · obtain rfl : v = .slice none 0 0 := by simpa using hcs
    exact ⟨[], ItsAt.nil _ _⟩
  · obtain rfl : v = .slice (some a) len cap := by simpa using hcs
    simp only [if_true] at hm
    obtain ⟨l, hll, hp⟩ := list_of (P := fun i (y : Pa.It) => W.cell? (a.add (i * 2)) = some (.int .i64 y.kind) ∧ W.cell? (a.add (i * 2 + 1)) = some (.string y.text)) len (fun i hi => by
      obtain ⟨c0, c1, t0, t1⟩ := hx i (by omega)
      obtain ⟨k, e0, _, _⟩ := DataW.trod_int Tryd.underlying3 t0
      obtain ⟨s, e1, _, _⟩ := DataW.trod_string Tryd.underlying9 t1
      have e0 : V0 i = .int .i64 k := by simpa using e0
      have e1 : V1 i = .string s := by simpa using e1
      rw [e0] at c0
      rw [e1] at c1
      exact ⟨⟨k, s⟩, c0, c1⟩)
    refine ⟨l, some a, cap, by rw [hll], by rw [hll]; exact hl, fun h0 => ?_⟩
    have hsp : a.spot = none := by
      have := (hp 0 h0).1
      rw [Nat.zero_mul] at this
      exact cell_spot (b := a.block) (o := a.off) (sp := a.spot) (by simpa [Addr.add] using this)
    have ha : a = ⟨a.block, a.off, none⟩ := by cases a; simp only at hsp; subst hsp; rfl
    refine ⟨a.block, a.off, by rw [← ha], ?_, fun k hk => ?_⟩
    · have := (hp 0 h0).1
      rw [addr_add hsp] at this
      exact lt_of_cell this
    · have := hp k hk
      rw [addr_add hsp, addr_add hsp, ← Nat.add_assoc] at this
      exact this

set_option maxRecDepth 100000 in
theorem secs_of_trod {H : Type} {enc : TypeId × Value → H} {W : World} {fuel : Nat} {v : Value} {x : DataW H × List MemPlace} (h : DataW.trod enc Tryd.prog W 0 (fun _ => true) true fuel 22 [v] = some x) : ∃ l : List Pa.Sec, SecsAt W W.heap.size v l := by
  rcases Go.Deep.open_slice Tryd.underlying22 h with ⟨hcs, _⟩ | ⟨a, len, cap, m, n, D, Pl, hcs, _, hl, _, hm, _, hx⟩
  · obtain rfl : v = .slice none 0 0 := by simpa using hcs
    exact ⟨[], SecsAt.non _ _⟩
  · obtain rfl : v = .slice (some a) len cap := by simpa using hcs
    simp only [if_true] at hm
    have hc3 : Tryd.prog.cellsOf 32 = 3 := by kernel_rfl
    obtain ⟨l, hll, hp⟩ := list_of (P := fun i (y : Pa.Sec) => ∃ vi, ItsAt W W.heap.size vi y.items ∧ W.cell? ((a.add (i * 3)).add 0) = some vi ∧ W.cell? ((a.add (i * 3)).add 1) = some (.bool y.grouped) ∧ W.cell? ((a.add (i * 3)).add 2) = some (.int .i64 y.scale)) len (fun i hi => by
      obtain ⟨cs, h1, h2⟩ := hx i (by omega)
      rw [hc3] at h1
      obtain ⟨_, hlen, hcell⟩ := World.cells?_some h1
      obtain ⟨ys, f, _, _, _, hyl, hf⟩ := DataW.trod_struct Tryd.underlying32 h2
      match cs, hlen, ys, hyl with
      | [c0, c1, c2], _, [y0, y1, y2], _ =>
        have f0 := hf 0 _ rfl
        have f1 := hf 1 _ rfl
        have f2 := hf 2 _ rfl
        have g0 : DataW.trod enc Tryd.prog W 0 (fun _ => true) true f 30 [c0] = some y0 := f0
        have g1 : DataW.trod enc Tryd.prog W 0 (fun _ => true) true f 4 [c1] = some y1 := f1
        have g2 : DataW.trod enc Tryd.prog W 0 (fun _ => true) true f 3 [c2] = some y2 := f2
        obtain ⟨its, hits⟩ := its_of_trod g0
        obtain ⟨b, e1, _⟩ := DataW.trod_bool Tryd.underlying4 g1
        obtain ⟨k, e2, _, _⟩ := DataW.trod_int Tryd.underlying3 g2
        obtain rfl : c1 = .bool b := by simpa using e1
        obtain rfl : c2 = .int .i64 k := by simpa using e2
        exact ⟨⟨its, b, k⟩, c0, hits, by rw [hcell 0 (by decide)]; rfl, by rw [hcell 1 (by decide)]; rfl, by rw [hcell 2 (by decide)]; rfl⟩)
    refine ⟨l, some a, cap, by rw [hll], by rw [hll]; exact hl, fun h0 => ?_⟩
    have hsp : a.spot = none := by
      obtain ⟨vi, _, h1, _⟩ := hp 0 h0
      rw [Nat.zero_mul] at h1
      exact cell_spot (b := a.block) (o := a.off) (sp := a.spot) (by simpa [Addr.add] using h1)
    have ha : a = ⟨a.block, a.off, none⟩ := by cases a; simp only at hsp; subst hsp; rfl
    refine ⟨a.block, a.off, by rw [← ha], ?_, fun k hk => ?_⟩
    · obtain ⟨vi, _, h1, _⟩ := hp 0 h0
      rw [addr_add hsp, addr_add rfl] at h1
      exact lt_of_cell h1
    · obtain ⟨vi, hi, h1, h2, h3⟩ := hp k hk
      rw [addr_add hsp, addr_add rfl] at h1 h2 h3
      exact ⟨vi, hi, h1, h2, h3⟩

set_option maxRecDepth 100000 in
theorem par_pat {H : Type} {enc : TypeId × Value → H} {W : World} {r : Reach} {b0 : Nat} {v : Value} {d : DataW H} {p : List MemPlace} (hv : Value.okWide Tryd.prog W r b0 24 v) (h : DataW.Trod enc Tryd.prog W 0 (fun _ => true) true 24 v d p) :
    ∃ (u : Value) (l : List Pa.Sec), v = .agg #[u] ∧ SecsAt W W.heap.size u l := by
  obtain ⟨cs, rfl, hsz⟩ := okWide_struct Tryd.underlying24 hv
  obtain ⟨fuel, hf⟩ := h
  obtain ⟨ys, f, _, _, _, hyl, hall⟩ := DataW.trod_struct Tryd.underlying24 hf
  have hc1 : Tryd.prog.cellsOf 24 = 1 := by kernel_rfl
  rw [hc1] at hsz
  obtain ⟨u, rfl⟩ : ∃ u, cs = #[u] := by
    match cs, hsz with
    | ⟨[u]⟩, _ => exact ⟨u, rfl⟩
  match ys, hyl with
  | [y0], _ =>
    have f0 := hall 0 _ rfl
    have g0 : DataW.trod enc Tryd.prog W 0 (fun _ => true) true f 22 [u] = some y0 := f0
    obtain ⟨l, hl⟩ := secs_of_trod g0
    exact ⟨u, l, rfl, hl⟩

/-- The library's greatest length holds some number, whatever the world. -/
theorem maxL_of_shaped {W : World} (h : W.ShapedOpen Tryd.prog) : MaxL W := by
  obtain ⟨m, hm⟩ := cell_of_shapedOpen_int (P := Tryd.prog) (g := 2) (t := 3) (zero := #[.int .i64 0]) h (of_decide_eq_true (by kernel_rfl)) (by kernel_rfl) rfl (by kernel_rfl) (by kernel_rfl) Tryd.underlying3
  exact ⟨lt_of_cell hm, m, hm⟩
/-- The tables for runes, out of what the rows list. -/
theorem u8_of_reads {W : World} (h3 : Lib.VarReads Tryd.prog W "unicode/utf8.first" Rows.laid_unicode_utf8_first) (h4 : Lib.VarReads Tryd.prog W "unicode/utf8.acceptRanges" Rows.laid_unicode_utf8_acceptRanges) : U8 W := by
  have e3 : (Rows.laid_unicode_utf8_first : DataW Unit) = Lib.firstData := by kernel_rfl
  have e4 : (Rows.laid_unicode_utf8_acceptRanges : DataW Unit) = Lib.acceptData := by kernel_rfl
  rw [e3] at h3
  rw [e4] at h4
  have h := utf8Tabs_of_readsT (ρ := Tryd.laysValid_ren) (U8Types.of196 Tryd.laysValid) ⟨by kernel_rfl, by kernel_rfl, by kernel_rfl, by kernel_rfl, by kernel_rfl, by kernel_rfl, by kernel_rfl⟩ h3 h4
  exact ⟨h, lt_of_cell (h.1 0 (by decide)), lt_of_cell (h.2 0 (by decide)).1⟩
end Go.Proofs.YticodcecillciaaDoor

/- The statement PatternShapes. -/
namespace Go.Proofs.YticodcecillciaaDoor
set_option linter.all false
open Go.RowKit

set_option maxRecDepth 100000 in
set_option maxHeartbeats 16000000 in
theorem l13_shapes_any (l : List Pa.Sec) (v : Value) (B : Nat) (w : World) (h : SecsAt w B v l) (hB : B ≤ w.heap.size) (hu : U8 w) (hm : MaxL w) :
    Calls Tryd.prog 3 #[.agg #[v]] w (RetB (.bool true) w) := by
  have hsh := fun (W : World) (hW : Below w.heap.size w W) => l13_shown_any W (hu.on hW) (hm.on hW)
  have hsm := fun (W : World) (hW : Below w.heap.size w W) => l13_small_any l v B W (h.below hW hB) (Nat.le_trans hB hW.size)
  cases hs : Pa.small l with
  | false =>
    rw [hs] at hsm
    obtain ⟨a, c, rfl, hc⟩ := h.form
    generalize l.length = n at *
    have HSH := Lib.hid hsh; have HSM := Lib.hid hsm
    clear hsh hsm h hc hs hu hm
    go_enter Tryd.func3, Tryd.ntmps3
    go_wp2_with (first
      | (go_at_call 6; (with_reducible refine (HSH.out _ (by (repeat (first | exact Below.refl _ _ | assumption | refine Below.setCell ?_ (by first | omega | (simp <;> omega)) _ | refine Below.alloc ?_ (by first | omega | (simp <;> omega)) _ | refine Below.drew ?_ | refine below_drewN' ?_ _)))).mono ?_); rintro e w1 ⟨rfl, hb_w1⟩; have hB1 : Below w.heap.size w w1 := Below.next (by (repeat (first | exact Below.refl _ _ | assumption | refine Below.setCell ?_ (by first | omega | (simp <;> omega)) _ | refine Below.alloc ?_ (by first | omega | (simp <;> omega)) _ | refine Below.drew ?_ | refine below_drewN' ?_ _))) hb_w1; have cx1 : w1.cell? ⟨w.heap.size, 0, none⟩ = some (.slice a n c) := (hb_w1.cell (p := ⟨w.heap.size, 0, none⟩) (by simp)).trans (by simp [go_sem]))
      | (go_at_call 7; (with_reducible refine (HSM.out _ (by (repeat (first | exact Below.refl _ _ | assumption | refine Below.setCell ?_ (by first | omega | (simp <;> omega)) _ | refine Below.alloc ?_ (by first | omega | (simp <;> omega)) _ | refine Below.drew ?_ | refine below_drewN' ?_ _)))).mono ?_); rintro e w2 ⟨rfl, hb_w2⟩; have hB2 : Below w.heap.size w w2 := Below.next (by (repeat (first | exact Below.refl _ _ | assumption | refine Below.setCell ?_ (by first | omega | (simp <;> omega)) _ | refine Below.alloc ?_ (by first | omega | (simp <;> omega)) _ | refine Below.drew ?_ | refine below_drewN' ?_ _))) hb_w2))
    go_ret
    exact RetB.of rfl hB2
  | true =>
    rw [hs] at hsm
    obtain ⟨h8, hpart, h600⟩ := Pa.small_parts hs
    have hit : ∀ k (h : k < l.length), l[k].items.length ≤ 1000000 := fun k hk => by have := (hpart k hk).1; omega
    have htx : Txt 1000000000 l := fun k hk j hj => by have := (hpart k hk).2 j hj; omega
    have hse := fun (W : World) (hW : Below w.heap.size w W) => l13_sections_any l v B W (h.below hW hB) (Nat.le_trans hB hW.size) (by omega) hit
    have hr1 := fun (W : World) (hW : Below w.heap.size w W) => pa_right2_any l v B W (h.below hW hB) (Nat.le_trans hB hW.size) (by omega) hit (hu.on hW)
    have hr2 := fun (v2 : Value) (B2 : Nat) (W : World) (h2 : SecsAt W B2 v2 l) (hB2 : B2 ≤ W.heap.size) => r_right_any l v2 B2 W h2 hB2 (by omega) hit htx
    have hp1 := fun (k : Nat) (hk : k < l.length) (vi : Value) (W : World) (hW : Below w.heap.size w W) (hi : ItsAt w B vi l[k].items) => pa_shape_any vi l[k] B W (hi.below hW hB) (Nat.le_trans hB hW.size) (hit k hk) (hu.on hW)
    have hp2 := fun (k : Nat) (hk : k < l.length) (vi : Value) (B2 : Nat) (W : World) (hB2 : B2 ≤ W.heap.size) (hi : ItsAt W B2 vi l[k].items) => r_shape_any vi l[k] B2 W hi hB2 (hit k hk) (fun j hj => htx k hk j hj)
    obtain ⟨a, c, rfl, hc⟩ := h.form
    have hgt := fun h0 => h.get h0
    obtain ⟨n, hn⟩ : ∃ n, n = l.length := ⟨_, rfl⟩
    rw [← hn] at hsm hse hr1 h8 ⊢
    have HSH := Lib.hid hsh; have HSM := Lib.hid hsm; have HSE := Lib.hid hse; have HR1 := Lib.hid hr1; have HR2 := Lib.hid hr2; have HP1 := Lib.hid hp1; have HP2 := Lib.hid hp2; have HGT := Lib.hid hgt; have HN := Lib.hid hn
    clear hsh hsm hse hr1 hr2 hp1 hp2 hgt hn h hc hs hu hm hit htx hpart h600
    go_enter Tryd.func3, Tryd.ntmps3
    go_wp2_with (first
      | (go_at_call 6; (with_reducible refine (HSH.out _ (by (repeat (first | exact Below.refl _ _ | assumption | refine Below.setCell ?_ (by first | omega | (simp <;> omega)) _ | refine Below.alloc ?_ (by first | omega | (simp <;> omega)) _ | refine Below.drew ?_ | refine below_drewN' ?_ _)))).mono ?_); rintro e w1 ⟨rfl, hb_w1⟩; have hB1 : Below w.heap.size w w1 := Below.next (by (repeat (first | exact Below.refl _ _ | assumption | refine Below.setCell ?_ (by first | omega | (simp <;> omega)) _ | refine Below.alloc ?_ (by first | omega | (simp <;> omega)) _ | refine Below.drew ?_ | refine below_drewN' ?_ _))) hb_w1; have cx1 : w1.cell? ⟨w.heap.size, 0, none⟩ = some (.slice a n c) := (hb_w1.cell (p := ⟨w.heap.size, 0, none⟩) (by simp)).trans (by simp [go_sem]); have l1 : w.heap.size < w1.heap.size := (by have := hb_w1.size; simp at this; omega))
      | (go_at_call 7; (with_reducible refine (HSM.out _ (by (repeat (first | exact Below.refl _ _ | assumption | refine Below.setCell ?_ (by first | omega | (simp <;> omega)) _ | refine Below.alloc ?_ (by first | omega | (simp <;> omega)) _ | refine Below.drew ?_ | refine below_drewN' ?_ _)))).mono ?_); rintro e w2 ⟨rfl, hb_w2⟩; have hB2 : Below w.heap.size w w2 := Below.next (by (repeat (first | exact Below.refl _ _ | assumption | refine Below.setCell ?_ (by first | omega | (simp <;> omega)) _ | refine Below.alloc ?_ (by first | omega | (simp <;> omega)) _ | refine Below.drew ?_ | refine below_drewN' ?_ _))) hb_w2; have cx2 : w2.cell? ⟨w.heap.size, 0, none⟩ = some (.slice a n c) := (hb_w2.cell (p := ⟨w.heap.size, 0, none⟩) l1).trans cx1; have l2 : w.heap.size < w2.heap.size := Nat.lt_of_lt_of_le l1 hb_w2.size)
      | (go_at_call 8; (with_reducible refine (HSE.out _ (by (repeat (first | exact Below.refl _ _ | assumption | refine Below.setCell ?_ (by first | omega | (simp <;> omega)) _ | refine Below.alloc ?_ (by first | omega | (simp <;> omega)) _ | refine Below.drew ?_ | refine below_drewN' ?_ _)))).mono ?_); rintro e w3 ⟨v3, vis, rfl, hown, hb_w3⟩; have hB3 : Below w.heap.size w w3 := Below.next (by (repeat (first | exact Below.refl _ _ | assumption | refine Below.setCell ?_ (by first | omega | (simp <;> omega)) _ | refine Below.alloc ?_ (by first | omega | (simp <;> omega)) _ | refine Below.drew ?_ | refine below_drewN' ?_ _))) hb_w3; have cx3 : w3.cell? ⟨w.heap.size, 0, none⟩ = some (.slice a n c) := (hb_w3.cell (p := ⟨w.heap.size, 0, none⟩) l2).trans cx2; have l3 : w.heap.size < w3.heap.size := Nat.lt_of_lt_of_le l2 hb_w3.size; have hread := hown.read; obtain ⟨a3, c3, e3, _⟩ := hread.form; subst e3; rw [← HN.out] at hread; have HRD := Lib.hid hread; clear hown hread))
    rw [← HN.out]
    have hz3 := hB3.size
    go_loopw [6] (fun i wr => ∃ k : Nat, k ≤ n ∧ i = .int .i64 (k : Int) ∧ Below w3.heap.size w3 wr) (fun i _ => n - (intOf i).toNat)
    case atStart => exact ⟨0, Nat.zero_le _, rfl, Below.refl _ _⟩
    case round =>
      obtain ⟨k, hk, rfl, hbr⟩ := hrel
      have hzr := hbr.size
      have hbw : Below w.heap.size w wr := hB3.trans (hbr.mono hz3)
      have cxr : wr.cell? ⟨w.heap.size, 0, none⟩ = some (.slice a n c) := (hbr.cell (p := ⟨w.heap.size, 0, none⟩) l3).trans cx3
      by_cases hlt : k < n
      · have hkl : k < l.length := by rw [← HN.out]; exact hlt
        obtain ⟨b, o, c', e', _, hb, hh⟩ := HGT.out (by omega)
        rw [← HN.out] at e'
        cases e'
        obtain ⟨vi, hvi, d0, d1, d2⟩ := hh k hkl
        replace d0 := (hbw.cell (p := ⟨b, o + k * 3, none⟩) (by simp only; omega)).trans d0
        replace d1 := (hbw.cell (p := ⟨b, o + k * 3 + 1, none⟩) (by simp only; omega)).trans d1
        replace d2 := (hbw.cell (p := ⟨b, o + k * 3 + 2, none⟩) (by simp only; omega)).trans d2
        have hp1 := fun W hW => HP1.out k hkl vi W hW hvi
        obtain ⟨ai, ci, rfl, _⟩ := hvi.form
        have hrd := HRD.out
        rw [HN.out] at hrd
        obtain ⟨b2, o2, c2, e2, _, hb2, hh2⟩ := hrd.get (by omega)
        cases e2
        obtain ⟨vj, hvj, g0, g1, g2⟩ := hh2 k hkl
        replace g0 := (hbr.cell (p := ⟨b2, o2 + k * 3, none⟩) (by simp only; omega)).trans g0
        replace g1 := (hbr.cell (p := ⟨b2, o2 + k * 3 + 1, none⟩) (by simp only; omega)).trans g1
        replace g2 := (hbr.cell (p := ⟨b2, o2 + k * 3 + 2, none⟩) (by simp only; omega)).trans g2
        have hp2 := fun W (hW : Below w3.heap.size w3 W) => HP2.out k hkl vj w3.heap.size W hW.size (hvj.below hW (Nat.le_refl _))
        obtain ⟨aj, cj, rfl, _⟩ := hvj.form
        rw [Pa.dShape_eq] at hp2
        unfold secV at hp1 hp2
        have hS : ∀ W, Below wr.heap.size wr W → W.cell? ⟨w.heap.size, 0, none⟩ = some (.slice (some ⟨b, o, none⟩) n c) ∧ W.cell? ⟨b, o + k * 3, none⟩ = some (.slice ai l[k].items.length ci) ∧ W.cell? ⟨b, o + k * 3 + 1, none⟩ = some (.bool l[k].grouped) ∧ W.cell? ⟨b, o + k * 3 + 2, none⟩ = some (.int .i64 l[k].scale) ∧ W.cell? ⟨b2, o2 + k * 3, none⟩ = some (.slice aj l[k].items.length cj) ∧ W.cell? ⟨b2, o2 + k * 3 + 1, none⟩ = some (.bool l[k].grouped) ∧ W.cell? ⟨b2, o2 + k * 3 + 2, none⟩ = some (.int .i64 l[k].scale) := fun W hW =>
          ⟨(hW.cell (p := ⟨w.heap.size, 0, none⟩) (by simp only; omega)).trans cxr, (hW.cell (p := ⟨b, o + k * 3, none⟩) (by simp only; omega)).trans d0, (hW.cell (p := ⟨b, o + k * 3 + 1, none⟩) (by simp only; omega)).trans d1, (hW.cell (p := ⟨b, o + k * 3 + 2, none⟩) (by simp only; omega)).trans d2,
           (hW.cell (p := ⟨b2, o2 + k * 3, none⟩) (by simp only; omega)).trans g0, (hW.cell (p := ⟨b2, o2 + k * 3 + 1, none⟩) (by simp only; omega)).trans g1, (hW.cell (p := ⟨b2, o2 + k * 3 + 2, none⟩) (by simp only; omega)).trans g2⟩
        generalize Pa.shape l[k] = S0 at hp1 hp2
        generalize l[k].items.length = m at *
        generalize l[k].grouped = gr at *
        generalize l[k].scale = sc at *
        have i1 : (k : Int) < (n : Int) := by omega
        have i2 : (k : Int) ≤ 8 := by omega
        have hp1' := fun W (hW : Below wr.heap.size wr W) => hp1 W (hbw.trans (hW.mono hbw.size))
        have hp2' := fun W (hW : Below wr.heap.size wr W) => hp2 W (hbr.trans (hW.mono hzr))
        have HPA := Lib.hid hp1'; have HPB := Lib.hid hp2'; have HS := Lib.hid hS; have HBR := Lib.hid hbr
        clear hp1 hp2 hp1' hp2' hh hh2 hrd hvi hvj hS
        go_wp2_with fail
        go_region_held3 (fun w' => w'.cell? ⟨w.heap.size, 0, none⟩ = some (.slice (some ⟨b, o, none⟩) n c) ∧ w'.cell? ⟨b, o + k * 3, none⟩ = some (.slice ai m ci) ∧ w'.cell? ⟨b, o + k * 3 + 1, none⟩ = some (.bool gr) ∧ w'.cell? ⟨b, o + k * 3 + 2, none⟩ = some (.int .i64 sc) ∧ w'.cell? ⟨b2, o2 + k * 3, none⟩ = some (.slice aj m cj) ∧ w'.cell? ⟨b2, o2 + k * 3 + 1, none⟩ = some (.bool gr) ∧ w'.cell? ⟨b2, o2 + k * 3 + 2, none⟩ = some (.int .i64 sc))
          (first | (exact HS.out _ (by first | assumption | (repeat (first | exact Below.refl _ _ | assumption | refine Below.setCell ?_ (by first | omega | (simp <;> omega)) _ | refine Below.alloc ?_ (by first | omega | (simp <;> omega)) _ | refine Below.drew ?_ | refine below_drewN' ?_ _)))))
          (first
            | (go_at_call 9; (with_reducible refine (HPA.out _ (by first | assumption | (repeat (first | exact Below.refl _ _ | assumption | refine Below.setCell ?_ (by first | omega | (simp <;> omega)) _ | refine Below.alloc ?_ (by first | omega | (simp <;> omega)) _ | refine Below.drew ?_ | refine below_drewN' ?_ _)))).mono ?_); rintro e w4 ⟨rfl, hb4⟩; have hB4 : Below wr.heap.size wr w4 := Below.next (by first | assumption | (repeat (first | exact Below.refl _ _ | assumption | refine Below.setCell ?_ (by first | omega | (simp <;> omega)) _ | refine Below.alloc ?_ (by first | omega | (simp <;> omega)) _ | refine Below.drew ?_ | refine below_drewN' ?_ _))) hb4)
            | (go_at_call 10; (with_reducible refine (HPB.out _ (by first | assumption | (repeat (first | exact Below.refl _ _ | assumption | refine Below.setCell ?_ (by first | omega | (simp <;> omega)) _ | refine Below.alloc ?_ (by first | omega | (simp <;> omega)) _ | refine Below.drew ?_ | refine below_drewN' ?_ _)))).mono ?_); rintro e w5 ⟨rfl, hb5⟩; have hB5 : Below wr.heap.size wr w5 := Below.next (by first | assumption | (repeat (first | exact Below.refl _ _ | assumption | refine Below.setCell ?_ (by first | omega | (simp <;> omega)) _ | refine Below.alloc ?_ (by first | omega | (simp <;> omega)) _ | refine Below.drew ?_ | refine below_drewN' ?_ _))) hb5))
        all_goals
          (try go_wp2)
          go_roundw
          case rel => exact ⟨k + 1, by omega, by go_num, HBR.out.trans (Below.mono (by first | assumption | (repeat (first | exact Below.refl _ _ | assumption | refine Below.setCell ?_ (by first | omega | (simp <;> omega)) _ | refine Below.alloc ?_ (by first | omega | (simp <;> omega)) _ | refine Below.drew ?_ | refine below_drewN' ?_ _))) hzr)⟩
          case measure => simp [intOf]; omega
      · have hkn : k = n := by omega
        subst hkn
        have hr1 := fun W (hW : Below wr.heap.size wr W) => HR1.out W (hbw.trans (hW.mono hbw.size))
        have hr2 := fun W (hW : Below wr.heap.size wr W) => HR2.out _ w3.heap.size W (HRD.out.below (hbr.trans (hW.mono hzr)) (Nat.le_refl _)) (Nat.le_trans hzr hW.size)
        generalize Pa.right l = R0 at hr1 hr2
        have HRA := Lib.hid hr1; have HRB := Lib.hid hr2
        clear hr1 hr2
        go_wp2_with (first
          | (go_at_call 11; (with_reducible refine (HRA.out _ (by first | assumption | (repeat (first | exact Below.refl _ _ | assumption | refine Below.setCell ?_ (by first | omega | (simp <;> omega)) _ | refine Below.alloc ?_ (by first | omega | (simp <;> omega)) _ | refine Below.drew ?_ | refine below_drewN' ?_ _)))).mono ?_); rintro e w4 ⟨rfl, hb4⟩; have hB4 : Below wr.heap.size wr w4 := Below.next (by first | assumption | (repeat (first | exact Below.refl _ _ | assumption | refine Below.setCell ?_ (by first | omega | (simp <;> omega)) _ | refine Below.alloc ?_ (by first | omega | (simp <;> omega)) _ | refine Below.drew ?_ | refine below_drewN' ?_ _))) hb4)
          | (go_at_call 12; (with_reducible refine (HRB.out _ (by first | assumption | (repeat (first | exact Below.refl _ _ | assumption | refine Below.setCell ?_ (by first | omega | (simp <;> omega)) _ | refine Below.alloc ?_ (by first | omega | (simp <;> omega)) _ | refine Below.drew ?_ | refine below_drewN' ?_ _)))).mono ?_); rintro e w5 ⟨rfl, hb5⟩; have hB5 : Below wr.heap.size wr w5 := Below.next (by first | assumption | (repeat (first | exact Below.refl _ _ | assumption | refine Below.setCell ?_ (by first | omega | (simp <;> omega)) _ | refine Below.alloc ?_ (by first | omega | (simp <;> omega)) _ | refine Below.drew ?_ | refine below_drewN' ?_ _))) hb5))
        go_ret
        exact RetB.of (by simp) (hbw.trans (hB5.mono hbw.size))
end Go.Proofs.YticodcecillciaaDoor
