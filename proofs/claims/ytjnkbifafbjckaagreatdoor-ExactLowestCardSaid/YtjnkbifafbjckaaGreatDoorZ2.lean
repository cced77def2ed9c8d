/- right, cut, Trim. -/
import Derived.Test.YtjnkbifafbjckaaGreatDoorZ1
import Derived.Deep.QuietTactic
namespace Go.Proofs.YtjnkbifafbjckaaGreatDoor
set_option linter.all false
open Go.RowKit

set_option maxHeartbeats 400000 in
theorem na_right_any (a : Option Addr) (c : Nat) (l : List Nat) (w : World) (h : Sl w a c l) (hn : l.length ≤ 1000000) :
    Calls Tryz.prog 139 #[.slice a l.length c] w (Ret0 (.int .i64 (Na.rt l)) w) := by
  go_enter Tryz.func139, Tryz.ntmps139
  go_wp2_with fail
  go_loop [3] (fun i => ∃ k : Nat, k ≤ l.length ∧ i = .int .i64 k ∧ ∀ j (hj : j < l.length), k ≤ j → l[j] = 0) (fun i => (intOf i).toNat)
  case atStart => exact ⟨l.length, Nat.le_refl _, rfl, fun j hj hk => by omega⟩
  case round =>
    obtain ⟨k, hk, rfl, hz⟩ := hrel
    have HZ := Lib.hid hz; clear hz
    cases k with
    | zero =>
      have HR := Lib.hid (Na.rt_of h.ok (k := 0) hk HZ.out (fun h0 => absurd h0 (by omega))).1
      go_wp2_with fail
      go_ret
      exact Ret0.of (by rw [HR.out]; rfl)
    | succ m =>
      obtain ⟨b, o, rfl, hb, hc⟩ := h.plain (by omega)
      have c1 := hc m (by omega)
      obtain ⟨x, hx⟩ : ∃ x, l[m]'(by omega) = x := ⟨_, rfl⟩
      rw [hx] at c1
      have HX := Lib.hid hx; clear hx hc
      have n0 : decide ((0 : Int) < (m : Int) + 1) = true := decide_eq_true (by omega)
      by_cases hx0 : x = 0
      · subst hx0
        go_wp2_with fail
        go_round
        case rel =>
          refine ⟨m, by omega, by go_num, fun j hj hk => ?_⟩
          by_cases e : j = m
          · subst e; exact HX.out
          · exact HZ.out j hj (by omega)
        case measure => simp [intOf]
      · have HR := Lib.hid (Na.rt_of h.ok (k := m + 1) hk HZ.out (fun _ h2 => by have := HX.out; simpa [this] using hx0)).1
        have e0 : ((x : Int) == 0) = false := by simpa using hx0
        clear hx0
        go_wp2_with fail
        go_ret
        exact Ret0.of (by rw [HR.out]; rfl)

theorem na_cut_any (a : Option Addr) (c : Nat) (l : List Nat) (w : World) (h : Sl w a c l) (hn : l.length ≤ 1000000) :
    Calls Tryz.prog 138 #[.slice a l.length c] w (Ret0 (.slice a (Na.cut l).length c) w) := by
  have H1 := Lib.hid (na_right_any a c l w h hn)
  have h2 := (Na.rt_le h.ok).1
  have h3 := h.cap
  go_enter Tryz.func138, Tryz.ntmps138
  go_wp2_with (first | (go_at_call 139; (with_reducible refine (H1.out).mono ?_); rintro e w' ⟨rfl, rfl⟩))
  go_ret
  exact Ret0.of rfl
end Go.Proofs.YtjnkbifafbjckaaGreatDoor
