/- Shr: what is refused. -/
import Derived.Test.YtcdndcbfmlnpjaaGreatDoorN15
import Derived.Test.YtcdndcbfmlnpjaaGreatDoorNg
namespace Go.Proofs.YtcdndcbfmlnpjaaGreatDoor
set_option linter.all false
open Go.RowKit

/-- A list of the call's own, a bool and an error. -/
def GivesS (q : List Nat × Bool × Int) (w : World) (e : Ending) (w' : World) : Prop := ∃ a c, e = .returned (.tuple #[.slice a q.1.length c, .bool q.2.1, .int .i64 q.2.2]) ∧ Sl w' a c q.1 ∧ Own w' w.heap.size a q.1.length ∧ Below w.heap.size w w'
theorem gives_snil {q : List Nat × Bool × Int} {w w' : World} (b : Bool) (e : Int) (hq : q = ([], b, e)) (hb : Below w.heap.size w w') : GivesS q w (.returned (.tuple #[.slice none 0 0, .bool b, .int .i64 e])) w' := by
  rw [hq]; exact ⟨none, 0, rfl, Sl.nil _ _ _, Own.nil _ _ _, hb⟩

section
variable (a : Option Addr) (c : Nat) (l : List Nat) (n : Int) (w : World) (h : Sl w a c l) (hn : l.length ≤ 1000000) (hi : -9223372036854775808 ≤ n ∧ n ≤ 9223372036854775807)
include h hn hi

set_option maxHeartbeats 1000000 in
theorem na_shr_arg (h0 : n < 0) : Calls Tryz.prog 29 #[.slice a l.length c, .int .i64 n] w (GivesS (Na.shr l n) w) := by
  have e := Lib.hid (gives_snil false 1 (show Na.shr l n = ([], false, 1) from if_pos h0) (Below.refl w.heap.size w))
  go_enter Tryz.func29, Tryz.ntmps29
  go_wp2
  refine bodyPost_ret (v := .tuple #[.slice none 0 0, .bool false, .int .i64 1]) (by simp [results, Tryz.results29, go_sem]) rfl e.out

set_option maxHeartbeats 1000000 in
theorem na_shr_big (h0 : 0 ≤ n) (hb : Na.big l = true) : Calls Tryz.prog 29 #[.slice a l.length c, .int .i64 n] w (GivesS (Na.shr l n) w) := by
  have hB : Below w.heap.size w (w.alloc (Obj.cells #[Value.slice a l.length c] 26)) := (Below.refl _ _).alloc (Nat.le_refl _) _
  have e := Lib.hid (gives_snil false 2 (show Na.shr l n = ([], false, 2) by rw [Na.shr, if_neg (by omega), if_pos hb]) hB)
  have H1 := Lib.hid (na_over1_any h hn true hb)
  clear hb
  go_enter Tryz.func29, Tryz.ntmps29
  go_wp2_with (first | (go_at_call 40; (with_reducible refine (H1.out).mono ?_); rintro e w' ⟨rfl, rfl⟩))
  refine bodyPost_ret (v := .tuple #[.slice none 0 0, .bool false, .int .i64 2]) (by simp [results, Tryz.results29, go_sem]) rfl e.out
end
end Go.Proofs.YtcdndcbfmlnpjaaGreatDoor
