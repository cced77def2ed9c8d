/- Patterns in the document: how long the rune at the front is; is an item right? (Printed by gen/mkd3.py.) -/
import Derived.Test.YticodcecillciaaDoorZ8
import Derived.Test.YticodcecillciaaDoorZ10
import Derived.Test.YticodcecillciaaDoorZ1
namespace Go.Proofs.YticodcecillciaaDoor
set_option linter.all false
open Go.RowKit

namespace Pa
/-- How many bytes the rune at the front has; 0: there is none that is valid. -/
def rn (s : ByteArray) : Int := if (Lib.decodeGo s).2 = 0 ∨ ((Lib.decodeGo s).1 = 65533 ∧ (Lib.decodeGo s).2 = 1) then 0 else ((Lib.decodeGo s).2 : Nat)
/-- What the bytes ahead of a place come to. -/
def rv (s : ByteArray) (v0 : Int) : Nat → Int
  | 0 => v0
  | k + 1 => if k = 0 then v0 else 64 * rv s v0 k + (ch s k : Nat) - 128
def cont (s : ByteArray) (j : Nat) : Prop := 128 ≤ ch s j ∧ ch s j < 192
def runeOf (s : ByteArray) (n : Nat) (v0 low : Int) : Prop := n ≤ s.size ∧ (∀ j, 1 ≤ j → j < n → cont s j) ∧ low ≤ rv s v0 n ∧ rv s v0 n ≤ 1114111 ∧ ¬ (55296 ≤ rv s v0 n ∧ rv s v0 n < 57344)
theorem ch_lt (s : ByteArray) (i : Nat) : ch s i < 256 := by
  unfold ch
  split
  · exact UInt8.toNat_lt _
  · decide
theorem decGo_eq (s : ByteArray) (h : 0 < s.size) : Lib.decodeGo s = Lib.decodeN s.size (ch s 0) (ch s 1) (ch s 2) (ch s 3) := by
  have := dec_eq s 0 h
  unfold dec at this
  rw [Nat.sub_zero] at this
  rw [← this, ByteArray.extract_zero_size]
theorem rn_none (s : ByteArray) (h : s.size = 0) : rn s = 0 := by
  unfold rn
  rw [if_pos]
  left
  unfold Lib.decodeGo
  rw [if_pos h]
theorem rn_one (s : ByteArray) (h : 0 < s.size) (hc : ch s 0 < 128) : rn s = 1 := by
  unfold rn
  rw [decGo_eq s h]
  unfold Lib.decodeN
  rw [if_pos hc]
  simp only
  rw [if_neg (by omega)]
  rfl
set_option maxRecDepth 100000 in
theorem rn_bad (s : ByteArray) (h : 0 < s.size) (hc : 128 ≤ ch s 0) (hb : ch s 0 < 194 ∨ 245 ≤ ch s 0) : rn s = 0 := by
  have l0 := ch_lt s 0
  unfold rn
  rw [decGo_eq s h]
  generalize ch s 0 = a at *
  generalize ch s 1 = b
  generalize ch s 2 = c
  generalize ch s 3 = d
  unfold Lib.decodeN
  repeat' split
  all_goals first | rfl | omega
theorem rv_bounds {s : ByteArray} {v0 : Int} {k : Nat} (h0 : 0 ≤ v0) (h1 : v0 ≤ 31) (hk : 1 ≤ k) (hk4 : k ≤ 4) (hc : ∀ j, 1 ≤ j → j < k → cont s j) : 0 ≤ rv s v0 k ∧ rv s v0 k ≤ 8388607 := by
  have c1 : 2 ≤ k → cont s 1 := fun h => hc 1 (by omega) (by omega)
  have c2 : 3 ≤ k → cont s 2 := fun h => hc 2 (by omega) (by omega)
  have c3 : 4 ≤ k → cont s 3 := fun h => hc 3 (by omega) (by omega)
  unfold cont at c1 c2 c3
  have : k = 1 ∨ k = 2 ∨ k = 3 ∨ k = 4 := by omega
  rcases this with rfl | rfl | rfl | rfl
  all_goals
    simp only [rv, if_true, if_neg (show ¬ (1 : Nat) = 0 by decide), if_neg (show ¬ (2 : Nat) = 0 by decide), if_neg (show ¬ (3 : Nat) = 0 by decide)]
    omega
set_option maxRecDepth 100000 in
set_option maxHeartbeats 2000000 in
theorem rn_2 (s : ByteArray) (h : 0 < s.size) (h1 : 194 ≤ ch s 0) (h2 : ch s 0 < 224) : (runeOf s 2 ((ch s 0 : Nat) - 192) 128 → rn s = 2) ∧ (¬ runeOf s 2 ((ch s 0 : Nat) - 192) 128 → rn s = 0) := by
  have hR : runeOf s 2 ((ch s 0 : Nat) - 192) 128 ↔ (2 ≤ s.size ∧ ((128 ≤ ch s 1 ∧ ch s 1 < 192)) ∧ 128 ≤ (64 * (((ch s 0 : Nat) : Int) - 192) + (ch s 1 : Nat) - 128) ∧ (64 * (((ch s 0 : Nat) : Int) - 192) + (ch s 1 : Nat) - 128) ≤ 1114111 ∧ ¬ (55296 ≤ (64 * (((ch s 0 : Nat) : Int) - 192) + (ch s 1 : Nat) - 128) ∧ (64 * (((ch s 0 : Nat) : Int) - 192) + (ch s 1 : Nat) - 128) < 57344)) := by
    unfold runeOf
    have e : rv s ((ch s 0 : Nat) - 192) 2 = (64 * (((ch s 0 : Nat) : Int) - 192) + (ch s 1 : Nat) - 128) := by
      simp only [rv, if_true, if_neg (show ¬ (1 : Nat) = 0 by decide), if_neg (show ¬ (2 : Nat) = 0 by decide), if_neg (show ¬ (3 : Nat) = 0 by decide)]
    rw [e]
    have e2 : (∀ j, 1 ≤ j → j < 2 → cont s j) ↔ ((128 ≤ ch s 1 ∧ ch s 1 < 192)) := by
      unfold cont
      constructor
      · intro hc
        exact hc 1 (by omega) (by omega)
      · intro hc j hj1 hj2
        have : j = 1 := by omega
        rcases this with rfl
        all_goals simp only [hc, and_self]
    rw [e2]
  rw [hR]
  clear hR
  have l0 := ch_lt s 0
  have l1 := ch_lt s 1
  have l2 := ch_lt s 2
  have l3 := ch_lt s 3
  unfold rn
  rw [decGo_eq s h]
  generalize ch s 0 = a at *
  generalize ch s 1 = b at *
  generalize ch s 2 = c at *
  generalize ch s 3 = d at *
  unfold Lib.decodeN
  constructor
  all_goals
    intro hh
    repeat' split
    all_goals first | rfl | (exfalso; omega) | (simp_all; done) | (simp_all; omega)
set_option maxRecDepth 100000 in
set_option maxHeartbeats 2000000 in
theorem rn_3 (s : ByteArray) (h : 0 < s.size) (h1 : 224 ≤ ch s 0) (h2 : ch s 0 < 240) : (runeOf s 3 ((ch s 0 : Nat) - 224) 2048 → rn s = 3) ∧ (¬ runeOf s 3 ((ch s 0 : Nat) - 224) 2048 → rn s = 0) := by
  have hR : runeOf s 3 ((ch s 0 : Nat) - 224) 2048 ↔ (3 ≤ s.size ∧ ((128 ≤ ch s 1 ∧ ch s 1 < 192) ∧ (128 ≤ ch s 2 ∧ ch s 2 < 192)) ∧ 2048 ≤ (64 * (64 * (((ch s 0 : Nat) : Int) - 224) + (ch s 1 : Nat) - 128) + (ch s 2 : Nat) - 128) ∧ (64 * (64 * (((ch s 0 : Nat) : Int) - 224) + (ch s 1 : Nat) - 128) + (ch s 2 : Nat) - 128) ≤ 1114111 ∧ ¬ (55296 ≤ (64 * (64 * (((ch s 0 : Nat) : Int) - 224) + (ch s 1 : Nat) - 128) + (ch s 2 : Nat) - 128) ∧ (64 * (64 * (((ch s 0 : Nat) : Int) - 224) + (ch s 1 : Nat) - 128) + (ch s 2 : Nat) - 128) < 57344)) := by
    unfold runeOf
    have e : rv s ((ch s 0 : Nat) - 224) 3 = (64 * (64 * (((ch s 0 : Nat) : Int) - 224) + (ch s 1 : Nat) - 128) + (ch s 2 : Nat) - 128) := by
      simp only [rv, if_true, if_neg (show ¬ (1 : Nat) = 0 by decide), if_neg (show ¬ (2 : Nat) = 0 by decide), if_neg (show ¬ (3 : Nat) = 0 by decide)]
    rw [e]
    have e2 : (∀ j, 1 ≤ j → j < 3 → cont s j) ↔ ((128 ≤ ch s 1 ∧ ch s 1 < 192) ∧ (128 ≤ ch s 2 ∧ ch s 2 < 192)) := by
      unfold cont
      constructor
      · intro hc
        exact ⟨hc 1 (by omega) (by omega), hc 2 (by omega) (by omega)⟩
      · intro hc j hj1 hj2
        have : j = 1 ∨ j = 2 := by omega
        rcases this with rfl | rfl
        all_goals simp only [hc, and_self]
    rw [e2]
  rw [hR]
  clear hR
  have l0 := ch_lt s 0
  have l1 := ch_lt s 1
  have l2 := ch_lt s 2
  have l3 := ch_lt s 3
  unfold rn
  rw [decGo_eq s h]
  generalize ch s 0 = a at *
  generalize ch s 1 = b at *
  generalize ch s 2 = c at *
  generalize ch s 3 = d at *
  unfold Lib.decodeN
  constructor
  all_goals
    intro hh
    repeat' split
    all_goals first | rfl | (exfalso; omega) | (simp_all; done) | (simp_all; omega)
set_option maxRecDepth 100000 in
set_option maxHeartbeats 2000000 in
theorem rn_4 (s : ByteArray) (h : 0 < s.size) (h1 : 240 ≤ ch s 0) (h2 : ch s 0 < 245) : (runeOf s 4 ((ch s 0 : Nat) - 240) 65536 → rn s = 4) ∧ (¬ runeOf s 4 ((ch s 0 : Nat) - 240) 65536 → rn s = 0) := by
  have hR : runeOf s 4 ((ch s 0 : Nat) - 240) 65536 ↔ (4 ≤ s.size ∧ ((128 ≤ ch s 1 ∧ ch s 1 < 192) ∧ (128 ≤ ch s 2 ∧ ch s 2 < 192) ∧ (128 ≤ ch s 3 ∧ ch s 3 < 192)) ∧ 65536 ≤ (64 * (64 * (64 * (((ch s 0 : Nat) : Int) - 240) + (ch s 1 : Nat) - 128) + (ch s 2 : Nat) - 128) + (ch s 3 : Nat) - 128) ∧ (64 * (64 * (64 * (((ch s 0 : Nat) : Int) - 240) + (ch s 1 : Nat) - 128) + (ch s 2 : Nat) - 128) + (ch s 3 : Nat) - 128) ≤ 1114111 ∧ ¬ (55296 ≤ (64 * (64 * (64 * (((ch s 0 : Nat) : Int) - 240) + (ch s 1 : Nat) - 128) + (ch s 2 : Nat) - 128) + (ch s 3 : Nat) - 128) ∧ (64 * (64 * (64 * (((ch s 0 : Nat) : Int) - 240) + (ch s 1 : Nat) - 128) + (ch s 2 : Nat) - 128) + (ch s 3 : Nat) - 128) < 57344)) := by
    unfold runeOf
    have e : rv s ((ch s 0 : Nat) - 240) 4 = (64 * (64 * (64 * (((ch s 0 : Nat) : Int) - 240) + (ch s 1 : Nat) - 128) + (ch s 2 : Nat) - 128) + (ch s 3 : Nat) - 128) := by
      simp only [rv, if_true, if_neg (show ¬ (1 : Nat) = 0 by decide), if_neg (show ¬ (2 : Nat) = 0 by decide), if_neg (show ¬ (3 : Nat) = 0 by decide)]
    rw [e]
    have e2 : (∀ j, 1 ≤ j → j < 4 → cont s j) ↔ ((128 ≤ ch s 1 ∧ ch s 1 < 192) ∧ (128 ≤ ch s 2 ∧ ch s 2 < 192) ∧ (128 ≤ ch s 3 ∧ ch s 3 < 192)) := by
      unfold cont
      constructor
      · intro hc
        exact ⟨hc 1 (by omega) (by omega), hc 2 (by omega) (by omega), hc 3 (by omega) (by omega)⟩
      · intro hc j hj1 hj2
        have : j = 1 ∨ j = 2 ∨ j = 3 := by omega
        rcases this with rfl | rfl | rfl
        all_goals simp only [hc, and_self]
    rw [e2]
  rw [hR]
  clear hR
  have l0 := ch_lt s 0
  have l1 := ch_lt s 1
  have l2 := ch_lt s 2
  have l3 := ch_lt s 3
  unfold rn
  rw [decGo_eq s h]
  generalize ch s 0 = a at *
  generalize ch s 1 = b at *
  generalize ch s 2 = c at *
  generalize ch s 3 = d at *
  unfold Lib.decodeN
  constructor
  all_goals
    intro hh
    repeat' split
    all_goals first | rfl | (exfalso; omega) | (simp_all; done) | (simp_all; omega)
end Pa

set_option maxRecDepth 100000 in
set_option maxHeartbeats 4000000 in
theorem r_rune_2 (s : ByteArray) (w : World) (h : 0 < s.size) (hs : s.size ≤ 1000000000) (h1 : 194 ≤ Pa.ch s 0) (h2 : Pa.ch s 0 < 224) : Calls Tryd.prog 40 #[.string s] w (Ret0 (.int .i64 (Pa.rn s)) w) := by
  obtain ⟨hy, hn⟩ := Pa.rn_2 s h h1 h2
  obtain ⟨r, hr⟩ : ∃ r, r = Pa.rn s := ⟨_, rfl⟩
  rw [← hr] at hy hn ⊢
  have x0 := index_ch s 0 h
  have hne : ¬ s.toList = [] := fun e => by have := isEmpty_of_pos h; rw [e] at this; cases this
  obtain ⟨C, hC⟩ : ∃ C : Int, C = ((Pa.ch s 0 : Nat) : Int) := ⟨_, rfl⟩
  replace x0 : ∀ W, (Instr.index 9 (.string s) (.int .i64 0)).run Tryd.prog W = .ok (.int .u8 ((Pa.ch s 0 : Nat) : Int)) W := x0
  rw [← hC] at x0 hy hn
  have c1 : (194 : Int) ≤ C := by omega
  have c2 : C < (224 : Int) := by omega
  have f128 : (128 : Int) ≤ C := by omega
  have f194 : (194 : Int) ≤ C := by omega
  have f224 : C < (224 : Int) := by omega
  have f240 : C < (240 : Int) := by omega
  have f245 : C < (245 : Int) := by omega
  have hne2 : s.toList.isEmpty = false := isEmpty_of_pos h
  have HY := Lib.hid hy; have HN := Lib.hid hn; have HSZ := Lib.hid h
  clear hy hn hr hC h1 h2
  by_cases hsz : (2 : Int) ≤ (s.size : Int)
  · have HS2 := Lib.hid hsz
    go_enter Tryd.func40, Tryd.ntmps40
    go_wp2_with fail
    go_loopw [6, 7] (fun v i wr => ∃ k : Nat, 1 ≤ k ∧ k ≤ 2 ∧ i = .int .i64 (k : Int) ∧ v = .int .i64 (Pa.rv s (C - 192) k) ∧ Hid (∀ j, 1 ≤ j → j < k → Pa.cont s j) ∧ wr = w) (fun _ i _ => 2 - (intOf i).toNat)
    case atStart => exact ⟨1, by omega, by omega, rfl, rfl, Lib.hid (fun j h1 h2 => by omega), rfl⟩
    case round =>
      obtain ⟨k, hk1, hk2, rfl, rfl, HP, rfl⟩ := hrel
      obtain ⟨b1, b2⟩ := Pa.rv_bounds (s := s) (v0 := C - 192) (by omega) (by omega) hk1 (by omega) HP.out
      obtain ⟨V, hV⟩ : ∃ V, V = Pa.rv s (C - 192) k := ⟨_, rfl⟩
      rw [← hV] at b1 b2 ⊢
      by_cases hlt : k < 2
      · have xk := index_ch s k (by omega)
        have hl := Pa.ch_lt s k
        have hnext : Pa.rv s (C - 192) (k + 1) = 64 * V + (Pa.ch s k : Nat) - 128 := by
          rw [hV, Pa.rv, if_neg (by omega)]
        by_cases hc : Pa.cont s k
        · have HC := Lib.hid hc
          obtain ⟨q1, q2⟩ := hc
          obtain ⟨D, hD⟩ : ∃ D : Int, D = ((Pa.ch s k : Nat) : Int) := ⟨_, rfl⟩
          rw [← hD] at xk hnext
          have i1 : (k : Int) < 2 := by omega
          have d1 : (128 : Int) ≤ D := by omega
          have d2 : D < (192 : Int) := by omega
          have HV := Lib.hid hV; have HX := Lib.hid hnext
          clear hV hnext hl hD q1 q2
          go_wp2_with fail
          go_roundw
          case rel => exact ⟨k + 1, by omega, by omega, by go_num, by first | (rw [HX.out]; done) | (rw [HX.out]; go_num), Lib.hid (fun j h1 h2 => by
            by_cases e : j = k
            · subst e; exact HC.out
            · exact HP.out j h1 (by omega)), by first | trivial | rfl⟩
          case measure => simp [intOf]; omega
        · have hrn : r = 0 := HN.out (fun x => hc (x.2.1 k hk1 hlt))
          have hc2 : Pa.ch s k < 128 ∨ (128 ≤ Pa.ch s k ∧ 192 ≤ Pa.ch s k) := by unfold Pa.cont at hc; omega
          obtain ⟨D, hD⟩ : ∃ D : Int, D = ((Pa.ch s k : Nat) : Int) := ⟨_, rfl⟩
          rw [← hD] at xk
          have i1 : (k : Int) < 2 := by omega
          subst hrn
          rcases hc2 with hc2 | ⟨hc2, hc3⟩
          · have d1 : D < (128 : Int) := by omega
            clear hc hc2 hV hnext hl hD HP HN HY
            go_wp2_with fail
            go_ret
            exact ⟨rfl, rfl⟩
          · have d1 : (128 : Int) ≤ D := by omega
            have d2 : (192 : Int) ≤ D := by omega
            clear hc hc2 hc3 hV hnext hl hD HP HN HY
            go_wp2_with fail
            go_ret
            exact ⟨rfl, rfl⟩
      · obtain rfl : k = 2 := by omega
        by_cases hv1 : V < 128
        · have hrn : r = 0 := HN.out (fun x => by have := x.2.2.1; omega)
          subst hrn
          clear hV HP HN HY
          go_wp2_with fail
          go_ret
          exact ⟨rfl, rfl⟩
        by_cases hv2 : 1114111 < V
        · have hrn : r = 0 := HN.out (fun x => by have := x.2.2.2.1; omega)
          subst hrn
          clear hV HP HN HY
          go_wp2_with fail
          go_ret
          exact ⟨rfl, rfl⟩
        by_cases hv3 : 55296 ≤ V
        · by_cases hv4 : V < 57344
          · have hrn : r = 0 := HN.out (fun x => by have := x.2.2.2.2; omega)
            subst hrn
            clear hV HP HN HY
            go_wp2_with fail
            go_ret
            exact ⟨rfl, rfl⟩
          · have hrn : r = 2 := HY.out ⟨by omega, HP.out, by omega, by omega, by omega⟩
            subst hrn
            clear hV HP HN HY
            go_wp2_with fail
            go_ret
            exact ⟨rfl, rfl⟩
        · have hrn : r = 2 := HY.out ⟨by omega, HP.out, by omega, by omega, by omega⟩
          subst hrn
          clear hV HP HN HY
          go_wp2_with fail
          go_ret
          exact ⟨rfl, rfl⟩
  · have hrn : r = 0 := HN.out (fun x => by have := x.1; omega)
    subst hrn
    clear HY HN
    go_enter Tryd.func40, Tryd.ntmps40
    go_wp2_with fail
    go_ret
    exact ⟨rfl, rfl⟩

set_option maxRecDepth 100000 in
set_option maxHeartbeats 4000000 in
theorem r_rune_3 (s : ByteArray) (w : World) (h : 0 < s.size) (hs : s.size ≤ 1000000000) (h1 : 224 ≤ Pa.ch s 0) (h2 : Pa.ch s 0 < 240) : Calls Tryd.prog 40 #[.string s] w (Ret0 (.int .i64 (Pa.rn s)) w) := by
  obtain ⟨hy, hn⟩ := Pa.rn_3 s h h1 h2
  obtain ⟨r, hr⟩ : ∃ r, r = Pa.rn s := ⟨_, rfl⟩
  rw [← hr] at hy hn ⊢
  have x0 := index_ch s 0 h
  have hne : ¬ s.toList = [] := fun e => by have := isEmpty_of_pos h; rw [e] at this; cases this
  obtain ⟨C, hC⟩ : ∃ C : Int, C = ((Pa.ch s 0 : Nat) : Int) := ⟨_, rfl⟩
  replace x0 : ∀ W, (Instr.index 9 (.string s) (.int .i64 0)).run Tryd.prog W = .ok (.int .u8 ((Pa.ch s 0 : Nat) : Int)) W := x0
  rw [← hC] at x0 hy hn
  have c1 : (224 : Int) ≤ C := by omega
  have c2 : C < (240 : Int) := by omega
  have f128 : (128 : Int) ≤ C := by omega
  have f194 : (194 : Int) ≤ C := by omega
  have f224 : (224 : Int) ≤ C := by omega
  have f240 : C < (240 : Int) := by omega
  have f245 : C < (245 : Int) := by omega
  have hne2 : s.toList.isEmpty = false := isEmpty_of_pos h
  have HY := Lib.hid hy; have HN := Lib.hid hn; have HSZ := Lib.hid h
  clear hy hn hr hC h1 h2
  by_cases hsz : (3 : Int) ≤ (s.size : Int)
  · have HS2 := Lib.hid hsz
    go_enter Tryd.func40, Tryd.ntmps40
    go_wp2_with fail
    go_loopw [6, 7] (fun v i wr => ∃ k : Nat, 1 ≤ k ∧ k ≤ 3 ∧ i = .int .i64 (k : Int) ∧ v = .int .i64 (Pa.rv s (C - 224) k) ∧ Hid (∀ j, 1 ≤ j → j < k → Pa.cont s j) ∧ wr = w) (fun _ i _ => 3 - (intOf i).toNat)
    case atStart => exact ⟨1, by omega, by omega, rfl, rfl, Lib.hid (fun j h1 h2 => by omega), rfl⟩
    case round =>
      obtain ⟨k, hk1, hk2, rfl, rfl, HP, rfl⟩ := hrel
      obtain ⟨b1, b2⟩ := Pa.rv_bounds (s := s) (v0 := C - 224) (by omega) (by omega) hk1 (by omega) HP.out
      obtain ⟨V, hV⟩ : ∃ V, V = Pa.rv s (C - 224) k := ⟨_, rfl⟩
      rw [← hV] at b1 b2 ⊢
      by_cases hlt : k < 3
      · have xk := index_ch s k (by omega)
        have hl := Pa.ch_lt s k
        have hnext : Pa.rv s (C - 224) (k + 1) = 64 * V + (Pa.ch s k : Nat) - 128 := by
          rw [hV, Pa.rv, if_neg (by omega)]
        by_cases hc : Pa.cont s k
        · have HC := Lib.hid hc
          obtain ⟨q1, q2⟩ := hc
          obtain ⟨D, hD⟩ : ∃ D : Int, D = ((Pa.ch s k : Nat) : Int) := ⟨_, rfl⟩
          rw [← hD] at xk hnext
          have i1 : (k : Int) < 3 := by omega
          have d1 : (128 : Int) ≤ D := by omega
          have d2 : D < (192 : Int) := by omega
          have HV := Lib.hid hV; have HX := Lib.hid hnext
          clear hV hnext hl hD q1 q2
          go_wp2_with fail
          go_roundw
          case rel => exact ⟨k + 1, by omega, by omega, by go_num, by first | (rw [HX.out]; done) | (rw [HX.out]; go_num), Lib.hid (fun j h1 h2 => by
            by_cases e : j = k
            · subst e; exact HC.out
            · exact HP.out j h1 (by omega)), by first | trivial | rfl⟩
          case measure => simp [intOf]; omega
        · have hrn : r = 0 := HN.out (fun x => hc (x.2.1 k hk1 hlt))
          have hc2 : Pa.ch s k < 128 ∨ (128 ≤ Pa.ch s k ∧ 192 ≤ Pa.ch s k) := by unfold Pa.cont at hc; omega
          obtain ⟨D, hD⟩ : ∃ D : Int, D = ((Pa.ch s k : Nat) : Int) := ⟨_, rfl⟩
          rw [← hD] at xk
          have i1 : (k : Int) < 3 := by omega
          subst hrn
          rcases hc2 with hc2 | ⟨hc2, hc3⟩
          · have d1 : D < (128 : Int) := by omega
            clear hc hc2 hV hnext hl hD HP HN HY
            go_wp2_with fail
            go_ret
            exact ⟨rfl, rfl⟩
          · have d1 : (128 : Int) ≤ D := by omega
            have d2 : (192 : Int) ≤ D := by omega
            clear hc hc2 hc3 hV hnext hl hD HP HN HY
            go_wp2_with fail
            go_ret
            exact ⟨rfl, rfl⟩
      · obtain rfl : k = 3 := by omega
        by_cases hv1 : V < 2048
        · have hrn : r = 0 := HN.out (fun x => by have := x.2.2.1; omega)
          subst hrn
          clear hV HP HN HY
          go_wp2_with fail
          go_ret
          exact ⟨rfl, rfl⟩
        by_cases hv2 : 1114111 < V
        · have hrn : r = 0 := HN.out (fun x => by have := x.2.2.2.1; omega)
          subst hrn
          clear hV HP HN HY
          go_wp2_with fail
          go_ret
          exact ⟨rfl, rfl⟩
        by_cases hv3 : 55296 ≤ V
        · by_cases hv4 : V < 57344
          · have hrn : r = 0 := HN.out (fun x => by have := x.2.2.2.2; omega)
            subst hrn
            clear hV HP HN HY
            go_wp2_with fail
            go_ret
            exact ⟨rfl, rfl⟩
          · have hrn : r = 3 := HY.out ⟨by omega, HP.out, by omega, by omega, by omega⟩
            subst hrn
            clear hV HP HN HY
            go_wp2_with fail
            go_ret
            exact ⟨rfl, rfl⟩
        · have hrn : r = 3 := HY.out ⟨by omega, HP.out, by omega, by omega, by omega⟩
          subst hrn
          clear hV HP HN HY
          go_wp2_with fail
          go_ret
          exact ⟨rfl, rfl⟩
  · have hrn : r = 0 := HN.out (fun x => by have := x.1; omega)
    subst hrn
    clear HY HN
    go_enter Tryd.func40, Tryd.ntmps40
    go_wp2_with fail
    go_ret
    exact ⟨rfl, rfl⟩

set_option maxRecDepth 100000 in
set_option maxHeartbeats 4000000 in
theorem r_rune_4 (s : ByteArray) (w : World) (h : 0 < s.size) (hs : s.size ≤ 1000000000) (h1 : 240 ≤ Pa.ch s 0) (h2 : Pa.ch s 0 < 245) : Calls Tryd.prog 40 #[.string s] w (Ret0 (.int .i64 (Pa.rn s)) w) := by
  obtain ⟨hy, hn⟩ := Pa.rn_4 s h h1 h2
  obtain ⟨r, hr⟩ : ∃ r, r = Pa.rn s := ⟨_, rfl⟩
  rw [← hr] at hy hn ⊢
  have x0 := index_ch s 0 h
  have hne : ¬ s.toList = [] := fun e => by have := isEmpty_of_pos h; rw [e] at this; cases this
  obtain ⟨C, hC⟩ : ∃ C : Int, C = ((Pa.ch s 0 : Nat) : Int) := ⟨_, rfl⟩
  replace x0 : ∀ W, (Instr.index 9 (.string s) (.int .i64 0)).run Tryd.prog W = .ok (.int .u8 ((Pa.ch s 0 : Nat) : Int)) W := x0
  rw [← hC] at x0 hy hn
  have c1 : (240 : Int) ≤ C := by omega
  have c2 : C < (245 : Int) := by omega
  have f128 : (128 : Int) ≤ C := by omega
  have f194 : (194 : Int) ≤ C := by omega
  have f224 : (224 : Int) ≤ C := by omega
  have f240 : (240 : Int) ≤ C := by omega
  have f245 : C < (245 : Int) := by omega
  have hne2 : s.toList.isEmpty = false := isEmpty_of_pos h
  have HY := Lib.hid hy; have HN := Lib.hid hn; have HSZ := Lib.hid h
  clear hy hn hr hC h1 h2
  by_cases hsz : (4 : Int) ≤ (s.size : Int)
  · have HS2 := Lib.hid hsz
    go_enter Tryd.func40, Tryd.ntmps40
    go_wp2_with fail
    go_loopw [6, 7] (fun v i wr => ∃ k : Nat, 1 ≤ k ∧ k ≤ 4 ∧ i = .int .i64 (k : Int) ∧ v = .int .i64 (Pa.rv s (C - 240) k) ∧ Hid (∀ j, 1 ≤ j → j < k → Pa.cont s j) ∧ wr = w) (fun _ i _ => 4 - (intOf i).toNat)
    case atStart => exact ⟨1, by omega, by omega, rfl, rfl, Lib.hid (fun j h1 h2 => by omega), rfl⟩
    case round =>
      obtain ⟨k, hk1, hk2, rfl, rfl, HP, rfl⟩ := hrel
      obtain ⟨b1, b2⟩ := Pa.rv_bounds (s := s) (v0 := C - 240) (by omega) (by omega) hk1 (by omega) HP.out
      obtain ⟨V, hV⟩ : ∃ V, V = Pa.rv s (C - 240) k := ⟨_, rfl⟩
      rw [← hV] at b1 b2 ⊢
      by_cases hlt : k < 4
      · have xk := index_ch s k (by omega)
        have hl := Pa.ch_lt s k
        have hnext : Pa.rv s (C - 240) (k + 1) = 64 * V + (Pa.ch s k : Nat) - 128 := by
          rw [hV, Pa.rv, if_neg (by omega)]
        by_cases hc : Pa.cont s k
        · have HC := Lib.hid hc
          obtain ⟨q1, q2⟩ := hc
          obtain ⟨D, hD⟩ : ∃ D : Int, D = ((Pa.ch s k : Nat) : Int) := ⟨_, rfl⟩
          rw [← hD] at xk hnext
          have i1 : (k : Int) < 4 := by omega
          have d1 : (128 : Int) ≤ D := by omega
          have d2 : D < (192 : Int) := by omega
          have HV := Lib.hid hV; have HX := Lib.hid hnext
          clear hV hnext hl hD q1 q2
          go_wp2_with fail
          go_roundw
          case rel => exact ⟨k + 1, by omega, by omega, by go_num, by first | (rw [HX.out]; done) | (rw [HX.out]; go_num), Lib.hid (fun j h1 h2 => by
            by_cases e : j = k
            · subst e; exact HC.out
            · exact HP.out j h1 (by omega)), by first | trivial | rfl⟩
          case measure => simp [intOf]; omega
        · have hrn : r = 0 := HN.out (fun x => hc (x.2.1 k hk1 hlt))
          have hc2 : Pa.ch s k < 128 ∨ (128 ≤ Pa.ch s k ∧ 192 ≤ Pa.ch s k) := by unfold Pa.cont at hc; omega
          obtain ⟨D, hD⟩ : ∃ D : Int, D = ((Pa.ch s k : Nat) : Int) := ⟨_, rfl⟩
          rw [← hD] at xk
          have i1 : (k : Int) < 4 := by omega
          subst hrn
          rcases hc2 with hc2 | ⟨hc2, hc3⟩
          · have d1 : D < (128 : Int) := by omega
            clear hc hc2 hV hnext hl hD HP HN HY
            go_wp2_with fail
            go_ret
            exact ⟨rfl, rfl⟩
          · have d1 : (128 : Int) ≤ D := by omega
            have d2 : (192 : Int) ≤ D := by omega
            clear hc hc2 hc3 hV hnext hl hD HP HN HY
            go_wp2_with fail
            go_ret
            exact ⟨rfl, rfl⟩
      · obtain rfl : k = 4 := by omega
        by_cases hv1 : V < 65536
        · have hrn : r = 0 := HN.out (fun x => by have := x.2.2.1; omega)
          subst hrn
          clear hV HP HN HY
          go_wp2_with fail
          go_ret
          exact ⟨rfl, rfl⟩
        by_cases hv2 : 1114111 < V
        · have hrn : r = 0 := HN.out (fun x => by have := x.2.2.2.1; omega)
          subst hrn
          clear hV HP HN HY
          go_wp2_with fail
          go_ret
          exact ⟨rfl, rfl⟩
        by_cases hv3 : 55296 ≤ V
        · by_cases hv4 : V < 57344
          · have hrn : r = 0 := HN.out (fun x => by have := x.2.2.2.2; omega)
            subst hrn
            clear hV HP HN HY
            go_wp2_with fail
            go_ret
            exact ⟨rfl, rfl⟩
          · have hrn : r = 4 := HY.out ⟨by omega, HP.out, by omega, by omega, by omega⟩
            subst hrn
            clear hV HP HN HY
            go_wp2_with fail
            go_ret
            exact ⟨rfl, rfl⟩
        · have hrn : r = 4 := HY.out ⟨by omega, HP.out, by omega, by omega, by omega⟩
          subst hrn
          clear hV HP HN HY
          go_wp2_with fail
          go_ret
          exact ⟨rfl, rfl⟩
  · have hrn : r = 0 := HN.out (fun x => by have := x.1; omega)
    subst hrn
    clear HY HN
    go_enter Tryd.func40, Tryd.ntmps40
    go_wp2_with fail
    go_ret
    exact ⟨rfl, rfl⟩

set_option maxRecDepth 100000 in
set_option maxHeartbeats 4000000 in
theorem r_rune_any (s : ByteArray) (w : World) (hs : s.size ≤ 1000000000) : Calls Tryd.prog 40 #[.string s] w (Ret0 (.int .i64 (Pa.rn s)) w) := by
  by_cases h : 0 < s.size
  · by_cases hb : 128 ≤ Pa.ch s 0
    · by_cases g1 : Pa.ch s 0 < 194 ∨ 245 ≤ Pa.ch s 0
      · rw [Pa.rn_bad s h hb g1]
        have x0 := index_ch s 0 h
        have hl := Pa.ch_lt s 0
        have hne : ¬ s.toList = [] := fun e => by have := isEmpty_of_pos h; rw [e] at this; cases this
        obtain ⟨C, hC⟩ : ∃ C : Int, C = ((Pa.ch s 0 : Nat) : Int) := ⟨_, rfl⟩
        replace x0 : ∀ W, (Instr.index 9 (.string s) (.int .i64 0)).run Tryd.prog W = .ok (.int .u8 ((Pa.ch s 0 : Nat) : Int)) W := x0
        rw [← hC] at x0
        have c0 : 0 ≤ C ∧ C < 256 := by omega
        obtain ⟨c0, c0'⟩ := c0
        have c1 : (128 : Int) ≤ C := by omega
        have hcase : C < 194 ∨ 245 ≤ C := by omega
        have hne2 : s.toList.isEmpty = false := isEmpty_of_pos h
        clear hC hb g1 hl
        rcases hcase with g | g
        · go_enter Tryd.func40, Tryd.ntmps40
          go_wp2_with fail
          go_ret
          exact ⟨rfl, rfl⟩
        · have e1 : (224 : Int) ≤ C := by omega
          have e2 : (240 : Int) ≤ C := by omega
          have e3 : (194 : Int) ≤ C := by omega
          go_enter Tryd.func40, Tryd.ntmps40
          go_wp2_with fail
          go_ret
          exact ⟨rfl, rfl⟩
      · by_cases g2 : Pa.ch s 0 < 224
        · exact r_rune_2 s w h hs (by omega) g2
        by_cases g3 : Pa.ch s 0 < 240
        · exact r_rune_3 s w h hs (by omega) g3
        · exact r_rune_4 s w h hs (by omega) (by omega)
    · rw [Pa.rn_one s h (by omega)]
      have x0 := index_ch s 0 h
      have hne : ¬ s.toList = [] := fun e => by have := isEmpty_of_pos h; rw [e] at this; cases this
      obtain ⟨C, hC⟩ : ∃ C : Int, C = ((Pa.ch s 0 : Nat) : Int) := ⟨_, rfl⟩
      replace x0 : ∀ W, (Instr.index 9 (.string s) (.int .i64 0)).run Tryd.prog W = .ok (.int .u8 ((Pa.ch s 0 : Nat) : Int)) W := x0
      rw [← hC] at x0
      have c1 : C < (128 : Int) := by omega
      have c0 : 0 ≤ C := by omega
      have hne2 : s.toList.isEmpty = false := isEmpty_of_pos h
      clear hC hb
      go_enter Tryd.func40, Tryd.ntmps40
      go_wp2_with fail
      go_ret
      exact ⟨rfl, rfl⟩
  · rw [Pa.rn_none s (by omega)]
    have hne : s.toList = [] := List.isEmpty_iff.1 (isEmpty_of_zero (by omega))
    have hne2 : s.toList.isEmpty = true := isEmpty_of_zero (by omega)
    clear h
    go_enter Tryd.func40, Tryd.ntmps40
    go_wp2_with fail
    go_ret
    exact ⟨rfl, rfl⟩
end Go.Proofs.YticodcecillciaaDoor

/- Patterns in the document: is an item right? -/
namespace Go.Proofs.YticodcecillciaaDoor
set_option linter.all false
open Go.RowKit

namespace Pa
theorem decN_err (n a b c d : Nat) (h : (Lib.decodeN n a b c d).1 = 65533) : (Lib.decodeN n a b c d).2 = 1 ∨ (Lib.decodeN n a b c d).2 = 3 := by
  revert h
  unfold Lib.decodeN
  repeat' split
  all_goals first | (intro _; exact .inl rfl) | (intro _; exact .inr rfl) | (simp only; intro h; omega)
theorem lit_rn (t : ByteArray) : lit t = (decide (0 < rn t) && decide (rn t = (t.size : Int))) := by
  unfold lit rn
  by_cases h0 : 0 < t.size
  · have e := decGo_eq t h0
    have he := decN_err t.size (ch t 0) (ch t 1) (ch t 2) (ch t 3)
    have hp := decN_pos t.size (ch t 0) (ch t 1) (ch t 2) (ch t 3)
    rw [← e] at he hp
    generalize (Lib.decodeGo t).1 = R at *
    generalize (Lib.decodeGo t).2 = K at *
    by_cases h1 : R = 65533 ∧ K = 1
    · rw [if_pos (.inr h1), h1.1, h1.2]
      simp
    · rw [if_neg (by omega), Bool.eq_iff_iff]
      simp only [Bool.and_eq_true, Bool.or_eq_true, Bool.not_eq_true', decide_eq_true_eq, decide_eq_false_iff_not]
      omega
  · have e : Lib.decodeGo t = (65533, 0) := by unfold Lib.decodeGo; rw [if_pos (by omega)]
    rw [e]
    simp
end Pa

set_option maxRecDepth 100000 in
set_option maxHeartbeats 2000000 in
theorem r_item_any (x : Pa.It) (w : World) (hs : x.text.size ≤ 1000000000) : Calls Tryd.prog 25 #[itV x] w (RetB (.bool (Pa.rightI x)) w) := by
  obtain ⟨k, t⟩ := x
  have hd := fun w1 => r_rune_any t w1 hs
  obtain ⟨K, hK⟩ : ∃ K, K = Pa.rn t := ⟨_, rfl⟩
  rw [← hK] at hd
  have hr : Pa.rightI ⟨k, t⟩ = if k = 1 then decide (0 < K) && decide (K = t.size) else if k = 2 then decide (t = Pa.ba [48]) || (decide (t = Pa.ba [35]) || decide (t = Pa.ba [63])) else if k = 5 then decide (t = Pa.ba [43]) || decide (t = Pa.ba [45]) else decide (1 ≤ k) && (decide (k ≤ 9) && decide (t.size = 0)) := by
    rw [hK, ← Pa.lit_rn]; rfl
  obtain ⟨r, hrr⟩ : ∃ r, r = Pa.rightI ⟨k, t⟩ := ⟨_, rfl⟩
  rw [← hrr] at hr ⊢
  clear hrr hK
  unfold itV
  have HD := Lib.hid hd
  have HR := Lib.hid hr
  clear hd hr
  by_cases h1 : k = 1
  · subst h1
    have hr := HR.out
    rw [if_pos rfl] at hr
    obtain ⟨b1, hb1⟩ : ∃ b, decide (0 < K) = b := ⟨_, rfl⟩
    obtain ⟨b2, hb2⟩ : ∃ b, (K == (t.size : Int)) = b := ⟨_, rfl⟩
    have e2 : decide (K = (t.size : Int)) = b2 := by rw [← hb2, Bool.eq_iff_iff]; simp
    rw [hb1, e2] at hr
    clear HR e2
    have HR := Lib.hid hr; clear hr
    have HS := Lib.hid hs; clear hs
    cases b1 <;> cases b2 <;>
      (go_enter Tryd.func25, Tryd.ntmps25
       go_wp2_with (go_at_call 40; (with_reducible refine (HD.out _).mono ?_); rintro e w' ⟨rfl, rfl⟩)
       (refine bodyPost_ret (v := .bool r) (by (simp [results, Tryd.results25, go_sem, HR.out]; done)) rfl (RetB.of rfl (by (repeat (first | exact Below.refl _ _ | assumption | refine Below.setCell ?_ (by first | omega | (simp <;> omega)) _ | refine Below.alloc ?_ (by first | omega | (simp <;> omega)) _ | refine Below.drew ?_ | refine below_drewN' ?_ _))))))
  · have h1' : (k == 1) = false := beq_eq_false_iff_ne.2 h1
    have hr := HR.out
    rw [if_neg h1] at hr
    clear HR HD
    by_cases h2 : k = 2
    · subst h2
      rw [if_pos rfl] at hr
      rw [ba_dec, ba_dec, ba_dec] at hr
      obtain ⟨b1, q1⟩ : ∃ b, decide (t.toList = [48]) = b := ⟨_, rfl⟩
      obtain ⟨b2, q2⟩ : ∃ b, decide (t.toList = [35]) = b := ⟨_, rfl⟩
      obtain ⟨b3, q3⟩ : ∃ b, decide (t.toList = [63]) = b := ⟨_, rfl⟩
      rw [q1, q2, q3] at hr
      have HR := Lib.hid hr; clear hr
      cases b1 <;> cases b2 <;> cases b3 <;>
        (first | (replace q1 := of_decide_eq_false q1) | (replace q1 := of_decide_eq_true q1)) <;>
        (first | (replace q2 := of_decide_eq_false q2) | (replace q2 := of_decide_eq_true q2)) <;>
        (first | (replace q3 := of_decide_eq_false q3) | (replace q3 := of_decide_eq_true q3)) <;>
        (first | (exfalso; rw [q1] at q2; cases q2; done) | (exfalso; rw [q1] at q3; cases q3; done) | (exfalso; rw [q2] at q3; cases q3; done) | skip) <;>
        (go_enter Tryd.func25, Tryd.ntmps25
         go_wp2_with fail
         (refine bodyPost_ret (v := .bool r) (by (simp [results, Tryd.results25, go_sem, HR.out, q1, q2, q3]; done)) rfl (RetB.of rfl (by (repeat (first | exact Below.refl _ _ | assumption | refine Below.setCell ?_ (by first | omega | (simp <;> omega)) _ | refine Below.alloc ?_ (by first | omega | (simp <;> omega)) _ | refine Below.drew ?_ | refine below_drewN' ?_ _))))))
    · have h2' : (k == 2) = false := beq_eq_false_iff_ne.2 h2
      rw [if_neg h2] at hr
      by_cases h5 : k = 5
      · subst h5
        rw [if_pos rfl] at hr
        rw [ba_dec, ba_dec] at hr
        obtain ⟨b1, q1⟩ : ∃ b, decide (t.toList = [43]) = b := ⟨_, rfl⟩
        obtain ⟨b2, q2⟩ : ∃ b, decide (t.toList = [45]) = b := ⟨_, rfl⟩
        rw [q1, q2] at hr
        have HR := Lib.hid hr; clear hr
        cases b1 <;> cases b2 <;>
          (first | (replace q1 := of_decide_eq_false q1) | (replace q1 := of_decide_eq_true q1)) <;>
          (first | (replace q2 := of_decide_eq_false q2) | (replace q2 := of_decide_eq_true q2)) <;>
          (first | (exfalso; rw [q1] at q2; cases q2; done) | skip) <;>
          (go_enter Tryd.func25, Tryd.ntmps25
           go_wp2_with fail
           (refine bodyPost_ret (v := .bool r) (by (simp [results, Tryd.results25, go_sem, HR.out, q1, q2]; done)) rfl (RetB.of rfl (by (repeat (first | exact Below.refl _ _ | assumption | refine Below.setCell ?_ (by first | omega | (simp <;> omega)) _ | refine Below.alloc ?_ (by first | omega | (simp <;> omega)) _ | refine Below.drew ?_ | refine below_drewN' ?_ _))))))
      · have h5' : (k == 5) = false := beq_eq_false_iff_ne.2 h5
        rw [if_neg h5] at hr
        clear h1 h2 h5
        have q3 : decide (t.toList = []) = decide (t.size = 0) := by
          by_cases h : t.size = 0
          · rw [decide_eq_true h, decide_eq_true (List.isEmpty_iff.1 (isEmpty_of_zero h))]
          · rw [decide_eq_false h, decide_eq_false (fun e => by have := isEmpty_of_pos (s := t) (by omega); rw [e] at this; cases this)]
        obtain ⟨b1, hb1⟩ : ∃ b, decide (1 ≤ k) = b := ⟨_, rfl⟩
        obtain ⟨b2, hb2⟩ : ∃ b, decide (k ≤ 9) = b := ⟨_, rfl⟩
        obtain ⟨b3, hb3⟩ : ∃ b, decide (t.size = 0) = b := ⟨_, rfl⟩
        rw [hb1, hb2, hb3] at hr
        rw [hb3] at q3
        clear hb3
        have HR := Lib.hid hr; clear hr
        cases b1 <;> cases b2 <;> cases b3 <;>
          (first | (replace q3 := of_decide_eq_false q3) | (replace q3 := of_decide_eq_true q3)) <;>
          (go_enter Tryd.func25, Tryd.ntmps25
           go_wp2_with fail
           (refine bodyPost_ret (v := .bool r) (by (simp [results, Tryd.results25, go_sem, HR.out, hb1, hb2, q3]; done)) rfl (RetB.of rfl (by (repeat (first | exact Below.refl _ _ | assumption | refine Below.setCell ?_ (by first | omega | (simp <;> omega)) _ | refine Below.alloc ?_ (by first | omega | (simp <;> omega)) _ | refine Below.drew ?_ | refine below_drewN' ?_ _))))))
end Go.Proofs.YticodcecillciaaDoor

/- Plain Lean: the document's shapes are the program's. -/
namespace Go.Proofs.YticodcecillciaaDoor.Pa
set_option linter.all false

def dFraction (l : List It) : Int :=
  let k := cutAt [6] l
  if 1 < cnt 6 l ∨ k = 0 ∨ l[k - 1]!.kind ≠ 2 ∨ 0 < cnt 3 l + cnt 4 l + cnt 5 l then 0
  else if cnt 2 (l.drop k) < 1 ∨ 4 < cnt 2 (l.drop k) ∨ 30 < cnt 2 (l.take k) then 0 else 4
def dNumber (s : Sec) : Int :=
  let l := s.items
  let x := cutAt [5] l
  if cnt 2 l = 0 ∨ 1 < cnt 3 l ∨ 1 < cnt 4 l ∨ 1 < cnt 5 l ∨ 30 < cnt 2 (l.take (headN l)) ∨ 30 < cnt 2 ((l.take x).drop (headN l)) then 0
  else if x < l.length then
    if cnt 2 (l.take x) = 0 ∨ cnt 2 (l.drop x) < 1 ∨ 4 < cnt 2 (l.drop x) ∨ 0 < cnt 3 (l.drop x) ∨ s.grouped = true ∨ s.scale ≠ 0 then 0 else 3
  else if (s.grouped = true ∧ ¬ 0 ≤ pair l) ∨ s.scale < 0 ∨ 9 < s.scale ∨ (0 < s.scale ∧ cnt 2 (l.take (headN l)) = 0) then 0 else 2
def dShape (s : Sec) : Int :=
  let l := s.items
  let digits := cnt 2 l
  let bare := s.grouped = false ∧ s.scale = 0
  let rest := cnt 3 l + cnt 4 l + cnt 5 l + cnt 6 l
  if l.all rightI then
    if 0 < cnt 7 l then (if cnt 7 l = 1 ∧ digits + rest + cnt 8 l = 0 ∧ bare then 5 else 0)
    else if 0 < cnt 8 l then (if digits + rest + cnt 9 l = 0 ∧ bare then 6 else 0)
    else if digits + rest = 0 then (if bare then 1 else 0)
    else if 0 < cnt 6 l then (if bare then dFraction l else 0)
    else dNumber s
  else 0

theorem cutAt_cons (ks : List Int) (x : It) (l : List It) : cutAt ks (x :: l) = if ks.contains x.kind then 0 else cutAt ks l + 1 := by
  unfold cutAt; rw [List.findIdx_cons]; cases ks.contains x.kind <;> rfl
theorem cutAt_nil (ks : List Int) : cutAt ks [] = 0 := rfl
theorem cnt_cons (k : Int) (x : It) (l : List It) : cnt k (x :: l) = cnt k l + if x.kind = k then 1 else 0 := by
  unfold cnt; rw [List.countP_cons]; simp
theorem cutAt_len (ks : List Int) (l : List It) : cutAt ks l ≤ l.length := List.findIdx_le_length
theorem cutAt_take (ks : List Int) (l : List It) (n : Nat) (h : n ≤ l.length) : cutAt ks (l.take n) = min (cutAt ks l) n := by
  induction l generalizing n with
  | nil => simp at h; subst h; rfl
  | cons x l ih =>
    cases n with
    | zero => simp [cutAt_nil]
    | succ n =>
      rw [List.take_succ_cons, cutAt_cons, cutAt_cons, ih n (by simpa using h)]
      split
      · simp
      · omega
theorem cnt_zero (k : Int) (l : List It) : cnt k l = 0 ↔ cutAt [k] l = l.length := by
  induction l with
  | nil => simp [cnt, cutAt]
  | cons x l ih =>
    rw [cnt_cons, cutAt_cons, List.length_cons]
    by_cases h : x.kind = k
    · simp [h]
    · have : [k].contains x.kind = false := by simp [h]
      rw [this, if_neg h, if_neg (by simp), Nat.add_zero, ih]
      omega
theorem headN_min (l : List It) : headN l = min (cutAt [3] l) (min (cutAt [5] l) (cutAt [6] l)) := by
  unfold headN
  induction l with
  | nil => rfl
  | cons x l ih =>
    rw [cutAt_cons, cutAt_cons, cutAt_cons, cutAt_cons]
    by_cases h3 : x.kind = 3
    · simp [h3]
    by_cases h5 : x.kind = 5
    · simp [h5]
    by_cases h6 : x.kind = 6
    · simp [h6]
    rw [show [3, 5, 6].contains x.kind = false by simp [h3, h5, h6], show [3].contains x.kind = false by simp [h3], show [5].contains x.kind = false by simp [h5], show [6].contains x.kind = false by simp [h6]]
    simp only [Bool.false_eq_true, if_false]
    rw [ih]; omega
theorem frac_eq (l : List It) (h6 : cnt 6 l = 1) (h : cnt 3 l + cnt 4 l + cnt 5 l = 0) : dFraction l = frac l := by
  unfold dFraction frac
  simp only
  by_cases h0 : 0 < cutAt [6] l
  · by_cases h2 : l[cutAt [6] l - 1]!.kind = 2
    · rw [if_neg (by rw [not_or, not_or, not_or]; exact ⟨by omega, by omega, fun e => e h2, by omega⟩)]
      by_cases hh : cnt 2 (l.drop (cutAt [6] l)) < 1 ∨ 4 < cnt 2 (l.drop (cutAt [6] l)) ∨ 30 < cnt 2 (l.take (cutAt [6] l))
      · rw [if_pos hh, if_neg (by rintro ⟨_, _, a, b, c⟩; omega)]
      · rw [if_neg hh, if_pos ⟨h0, h2, by omega, by omega, by omega⟩]
    · rw [if_pos (.inr (.inr (.inl h2))), if_neg (fun hh => h2 hh.2.1)]
  · rw [if_pos (.inr (.inl (by omega))), if_neg (fun hh => h0 hh.1)]
theorem frac_none (l : List It) (h : 1 < cnt 6 l ∨ 0 < cnt 3 l + cnt 4 l + cnt 5 l) : dFraction l = 0 := by
  unfold dFraction
  simp only
  rw [if_pos]
  rcases h with h | h
  · exact .inl h
  · exact .inr (.inr (.inr h))
/-- The document's numbers, with the program's words. -/
theorem number_eq (s : Sec) (h6 : cnt 6 s.items = 0) (h2 : 0 < cnt 2 s.items) :
    dNumber s = if cnt 3 s.items ≤ 1 ∧ cnt 4 s.items ≤ 1 ∧ cnt 5 s.items ≤ 1 then
      (if numb s.items = 2 then (if 0 ≤ s.scale ∧ s.scale ≤ 9 ∧ (0 < cnt 2 (s.items.take (headN s.items)) ∨ s.scale = 0) ∧ (s.grouped = false ∨ 0 ≤ pair s.items) then 2 else 0)
       else if s.grouped = false ∧ s.scale = 0 then numb s.items else 0) else 0 := by
  obtain ⟨l, g, sc⟩ := s
  simp only at *
  have x5 := cutAt_len [5] l
  have e6 := (cnt_zero 6 l).1 h6
  have hE : cutAt [3] (l.take (cutAt [5] l)) = headN l := by
    rw [cutAt_take _ _ _ x5, headN_min, e6]
    have := cutAt_len [3] l
    omega
  have hz : (l.drop (cutAt [5] l)).length = 0 ↔ ¬ cutAt [5] l < l.length := by rw [List.length_drop]; omega
  have hz3 := cnt_zero 3 (l.drop (cutAt [5] l))
  have hle : headN l ≤ cutAt [5] l := by rw [headN_min]; omega
  have htt : (l.take (cutAt [5] l)).take (headN l) = l.take (headN l) := by rw [List.take_take, Nat.min_eq_left hle]
  unfold dNumber numb
  simp only
  rw [hE, htt]
  generalize cnt 2 (l.take (headN l)) = A
  generalize cnt 2 ((l.take (cutAt [5] l)).drop (headN l)) = Bn
  generalize cnt 2 (l.take (cutAt [5] l)) = A2
  generalize cnt 2 (l.drop (cutAt [5] l)) = Z2
  by_cases hc : cnt 3 l ≤ 1 ∧ cnt 4 l ≤ 1 ∧ cnt 5 l ≤ 1
  · rw [if_pos hc]
    by_cases h30 : 30 < A ∨ 30 < Bn
    · rw [if_pos (by omega), if_pos h30]
      simp
    · rw [if_neg (by omega), if_neg h30]
      by_cases hx : cutAt [5] l < l.length
      · rw [if_pos hx, if_neg (show ¬ (l.drop (cutAt [5] l)).length = 0 from fun e => hz.1 e hx)]
        by_cases hP : cutAt [3] (l.drop (cutAt [5] l)) = (l.drop (cutAt [5] l)).length ∧ 0 < A2 ∧ 1 ≤ Z2 ∧ Z2 ≤ 4
        · rw [if_pos hP]
          have hc3 := hz3.2 hP.1
          rw [if_neg (show ¬ (3 : Int) = 2 by decide)]
          by_cases hg : g = false ∧ sc = 0
          · rw [if_pos hg, if_neg]
            rintro (h | h | h | h | h | h)
            · omega
            · omega
            · omega
            · omega
            · rw [hg.1] at h; cases h
            · exact h hg.2
          · rw [if_neg hg, if_pos]
            by_cases hgg : g = true
            · exact .inr (.inr (.inr (.inr (.inl hgg))))
            · exact .inr (.inr (.inr (.inr (.inr (fun e => hg ⟨by simpa using hgg, e⟩)))))
        · rw [if_neg hP]
          rw [if_neg (show ¬ (0 : Int) = 2 by decide), ite_self, if_pos]
          by_cases h3 : 0 < cnt 3 (l.drop (cutAt [5] l))
          · exact .inr (.inr (.inr (.inl h3)))
          · have := hz3.1 (by omega)
            have : ¬ (0 < A2 ∧ 1 ≤ Z2 ∧ Z2 ≤ 4) := fun hh => hP ⟨this, hh⟩
            omega
      · rw [if_neg hx, if_pos (hz.2 hx)]
        rw [if_pos (show (2 : Int) = 2 from rfl)]
        by_cases hQ : 0 ≤ sc ∧ sc ≤ 9 ∧ (0 < A ∨ sc = 0) ∧ (g = false ∨ 0 ≤ pair l)
        · rw [if_pos hQ, if_neg]
          obtain ⟨q1, q2, q3, q4⟩ := hQ
          rintro (⟨h1, h2⟩ | h | h | h)
          · rcases q4 with q | q
            · rw [q] at h1; cases h1
            · exact h2 q
          · omega
          · omega
          · omega
        · rw [if_neg hQ, if_pos]
          by_cases r1 : sc < 0
          · exact .inr (.inl r1)
          by_cases r2 : 9 < sc
          · exact .inr (.inr (.inl r2))
          by_cases r3 : 0 < sc ∧ A = 0
          · exact .inr (.inr (.inr r3))
          refine .inl ?_
          have r4 : ¬ (g = false ∨ 0 ≤ pair l) := fun h => hQ ⟨by omega, by omega, by omega, h⟩
          rw [not_or] at r4
          exact ⟨by simpa using r4.1, r4.2⟩
  · rw [if_neg hc, if_pos (by omega)]
theorem dShape_eq (s : Sec) : dShape s = shape s := by
  have hn := number_eq s
  have hn0 : cnt 2 s.items = 0 → dNumber s = 0 := fun h => by unfold dNumber; simp only; rw [if_pos (.inl h)]
  obtain ⟨l, g, sc⟩ := s
  unfold dShape shape shape0
  simp only at hn hn0 ⊢
  by_cases hall : ¬ l.all rightI = true
  · rw [if_neg hall, if_neg hall]
  replace hall : l.all rightI = true := Decidable.not_not.1 hall
  rw [if_pos hall, if_pos hall]
  clear hall
  have hf := frac_eq l
  have hf0 := frac_none l
  have hfr : frac l = 4 ∨ frac l = 0 := by
    unfold frac; simp only
    split
    · exact .inl rfl
    · exact .inr rfl
  generalize hD : dFraction l = D at *
  generalize hDN : dNumber ⟨l, g, sc⟩ = DN at *
  generalize hNB : numb l = NB at *
  generalize hFR : frac l = FR at *
  clear hD hDN hNB hFR
  generalize cnt 2 l = c2 at *
  generalize cnt 3 l = c3 at *
  generalize cnt 4 l = c4 at *
  generalize cnt 5 l = c5 at *
  generalize cnt 6 l = c6 at *
  generalize cnt 7 l = c7 at *
  generalize cnt 8 l = c8 at *
  generalize cnt 9 l = c9 at *
  by_cases h7 : 0 < c7
  · rw [if_pos h7]
    by_cases hX : c7 = 1 ∧ c2 + (c3 + c4 + c5 + c6) + c8 = 0
    · obtain ⟨a, b⟩ := hX
      rw [if_neg (show ¬ (0 < c7 + c8 ∧ 0 < c2 + c3 + c4 + c5 + c6) by omega), if_pos (show c7 = 1 ∧ c8 = 0 by omega)]
      rw [if_neg (show ¬ (5 : Int) = 2 by decide)]
      by_cases hg : g = false ∧ sc = 0
      · rw [if_pos hg, if_pos ⟨a, b, hg⟩]
      · rw [if_neg hg, if_neg (fun h => hg h.2.2)]
    · rw [if_neg (fun h => hX ⟨h.1, h.2.1⟩)]
      by_cases hY : 0 < c7 + c8 ∧ 0 < c2 + c3 + c4 + c5 + c6
      · rw [if_pos hY]; simp
      · rw [if_neg hY, if_neg (show ¬ (c7 = 1 ∧ c8 = 0) by omega), if_neg (show ¬ (c7 = 0 ∧ 0 < c8 ∧ c9 = 0) by omega), if_neg (show ¬ (c7 = 0 ∧ c8 = 0 ∧ c2 + c3 + c4 + c5 + c6 = 0) by omega), if_neg (show ¬ (c6 = 1 ∧ c3 + c4 + c5 = 0) by omega), if_neg (show ¬ (c6 = 0 ∧ 0 < c2 ∧ c3 ≤ 1 ∧ c4 ≤ 1 ∧ c5 ≤ 1 ∧ c7 = 0) by omega)]
        simp
  rw [if_neg h7]
  obtain rfl : c7 = 0 := by omega
  by_cases h8 : 0 < c8
  · rw [if_pos h8]
    by_cases hY : 0 < c2 + c3 + c4 + c5 + c6
    · rw [if_pos (show 0 < 0 + c8 ∧ 0 < c2 + c3 + c4 + c5 + c6 by omega), if_neg (by omega)]; simp
    · rw [if_neg (show ¬ (0 < 0 + c8 ∧ 0 < c2 + c3 + c4 + c5 + c6) by omega), if_neg (show ¬ ((0 : Nat) = 1 ∧ c8 = 0) by omega)]
      by_cases h9 : c9 = 0
      · rw [if_pos (show (0 : Nat) = 0 ∧ 0 < c8 ∧ c9 = 0 by omega)]
        rw [if_neg (show ¬ (6 : Int) = 2 by decide)]
        by_cases hg : g = false ∧ sc = 0
        · rw [if_pos hg, if_pos ⟨by omega, hg⟩]
        · rw [if_neg hg, if_neg (fun h => hg h.2)]
      · rw [if_neg (show ¬ ((0 : Nat) = 0 ∧ 0 < c8 ∧ c9 = 0) by omega), if_neg (show ¬ ((0 : Nat) = 0 ∧ c8 = 0 ∧ c2 + c3 + c4 + c5 + c6 = 0) by omega), if_neg (show ¬ (c6 = 1 ∧ c3 + c4 + c5 = 0) by omega), if_neg (show ¬ (c6 = 0 ∧ 0 < c2 ∧ c3 ≤ 1 ∧ c4 ≤ 1 ∧ c5 ≤ 1 ∧ (0 : Nat) = 0) by omega), if_neg (by omega)]
        simp
  rw [if_neg h8]
  obtain rfl : c8 = 0 := by omega
  rw [if_neg (show ¬ ((0 : Nat) < 0 + 0 ∧ 0 < c2 + c3 + c4 + c5 + c6) by omega), if_neg (show ¬ ((0 : Nat) = 1 ∧ (0 : Nat) = 0) by omega), if_neg (show ¬ ((0 : Nat) = 0 ∧ (0 : Nat) < 0 ∧ c9 = 0) by omega)]
  by_cases hN : c2 + c3 + c4 + c5 + c6 = 0
  · rw [if_pos (show c2 + (c3 + c4 + c5 + c6) = 0 by omega), if_pos (show (0 : Nat) = 0 ∧ (0 : Nat) = 0 ∧ c2 + c3 + c4 + c5 + c6 = 0 from ⟨rfl, rfl, hN⟩), if_neg (show ¬ (1 : Int) = 2 by decide)]
  rw [if_neg (show ¬ c2 + (c3 + c4 + c5 + c6) = 0 by omega), if_neg (show ¬ ((0 : Nat) = 0 ∧ (0 : Nat) = 0 ∧ c2 + c3 + c4 + c5 + c6 = 0) from fun h => hN h.2.2)]
  by_cases h6 : 0 < c6
  · rw [if_pos h6]
    by_cases hF : c6 = 1 ∧ c3 + c4 + c5 = 0
    · rw [if_pos hF, hf hF.1 hF.2]
      rcases hfr with e | e <;> rw [e] <;> simp
    · rw [if_neg hF, if_neg (show ¬ (c6 = 0 ∧ 0 < c2 ∧ c3 ≤ 1 ∧ c4 ≤ 1 ∧ c5 ≤ 1 ∧ (0 : Nat) = 0) by omega), hf0 (by omega)]
      simp
  · rw [if_neg h6]
    obtain rfl : c6 = 0 := by omega
    rw [if_neg (show ¬ ((0 : Nat) = 1 ∧ c3 + c4 + c5 = 0) by omega)]
    by_cases h2 : 0 < c2
    · rw [hn rfl h2]
      by_cases hc : c3 ≤ 1 ∧ c4 ≤ 1 ∧ c5 ≤ 1
      · rw [if_pos hc, if_pos (show (0 : Nat) = 0 ∧ 0 < c2 ∧ c3 ≤ 1 ∧ c4 ≤ 1 ∧ c5 ≤ 1 ∧ (0 : Nat) = 0 by omega)]
      · rw [if_neg hc, if_neg (show ¬ ((0 : Nat) = 0 ∧ 0 < c2 ∧ c3 ≤ 1 ∧ c4 ≤ 1 ∧ c5 ≤ 1 ∧ (0 : Nat) = 0) by omega)]; simp
    · have e2 : c2 = 0 := by omega
      rw [if_neg (show ¬ ((0 : Nat) = 0 ∧ 0 < c2 ∧ c3 ≤ 1 ∧ c4 ≤ 1 ∧ c5 ≤ 1 ∧ (0 : Nat) = 0) by omega), hn0 e2]
      simp
end Go.Proofs.YticodcecillciaaDoor.Pa
