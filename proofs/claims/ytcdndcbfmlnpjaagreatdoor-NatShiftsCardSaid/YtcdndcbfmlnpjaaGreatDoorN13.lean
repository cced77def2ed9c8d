/- Shl. -/
import Derived.Test.YtcdndcbfmlnpjaaGreatDoorN12
namespace Go.Proofs.YtcdndcbfmlnpjaaGreatDoor
set_option linter.all false
open Go.RowKit

theorem na_over1_any {w : World} {a : Option Addr} {c : Nat} {l : List Nat} (h : Sl w a c l) (hn : l.length ≤ 1000000) (r : Bool) (hr : Na.big l = r) :
    Calls Tryz.prog 40 #[.slice (some ⟨w.heap.size, 0, none⟩) 1 1] (w.alloc (Obj.cells #[Value.slice a l.length c] 26)) (Ret0 (.bool r) (w.alloc (Obj.cells #[Value.slice a l.length c] 26))) := by
  have hB : Below w.heap.size w (w.alloc (Obj.cells #[Value.slice a l.length c] 26)) := (Below.refl _ _).alloc (Nat.le_refl _) _
  have hA : Args (w.alloc (Obj.cells #[Value.slice a l.length c] 26)) w.heap.size [⟨a, c, l⟩] := by
    intro k hk
    match k, hk with
    | 0, _ =>
      refine ⟨?_, h.on hB, hn⟩
      show (match (w.heap.push _)[w.heap.size]? with | some (.cells c _ _) => if (none : Option Nat).isSome then none else c[0]? | _ => none) = _
      simp
  have := na_over_any [⟨a, c, l⟩] w.heap.size _ hA (by simp)
  have e : ([⟨a, c, l⟩] : List Arg).any (fun x => Na.big x.l) = r := by rw [← hr]; simp
  rw [e] at this; exact this

theorem gives_nil {q : List Nat × Int} {w w' : World} (e : Int) (hq : q = ([], e)) (hb : Below w.heap.size w w') : GivesE q w (.returned (.tuple #[.slice none 0 0, .int .i64 e])) w' := by
  rw [hq]; exact ⟨none, 0, rfl, Sl.nil _ _ _, Own.nil _ _ _, hb⟩

section
variable (a : Option Addr) (c : Nat) (l : List Nat) (n : Int) (w : World) (h : Sl w a c l) (hn : l.length ≤ 1000000) (hi : -9223372036854775808 ≤ n ∧ n ≤ 9223372036854775807)
include h hn hi

set_option maxHeartbeats 1000000 in
theorem na_shl_arg (h0 : n < 0) : Calls Tryz.prog 27 #[.slice a l.length c, .int .i64 n] w (GivesE (Na.shl l n) w) := by
  have e := Lib.hid (gives_nil 1 (show Na.shl l n = ([], 1) from if_pos h0) (Below.refl w.heap.size w))
  go_enter Tryz.func27, Tryz.ntmps27
  go_wp2
  refine bodyPost_ret (v := .tuple #[.slice none 0 0, .int .i64 1]) (by simp [results, Tryz.results27, go_sem]) rfl e.out

set_option maxHeartbeats 1000000 in
theorem na_shl_big (h0 : 0 ≤ n) (hb : Na.big l = true) : Calls Tryz.prog 27 #[.slice a l.length c, .int .i64 n] w (GivesE (Na.shl l n) w) := by
  have hB : Below w.heap.size w (w.alloc (Obj.cells #[Value.slice a l.length c] 26)) := (Below.refl _ _).alloc (Nat.le_refl _) _
  have e := Lib.hid (gives_nil 2 (show Na.shl l n = ([], 2) by rw [Na.shl, if_neg (by omega), if_pos hb]) hB)
  have H1 := Lib.hid (na_over1_any h hn true hb)
  clear hb
  go_enter Tryz.func27, Tryz.ntmps27
  go_wp2_with (first | (go_at_call 40; (with_reducible refine (H1.out).mono ?_); rintro e w' ⟨rfl, rfl⟩))
  refine bodyPost_ret (v := .tuple #[.slice none 0 0, .int .i64 2]) (by simp [results, Tryz.results27, go_sem]) rfl e.out

set_option maxHeartbeats 1000000 in
theorem na_shl_zero (h0 : 0 ≤ n) (hb : Na.big l = false) (hz : Na.val l = 0) : Calls Tryz.prog 27 #[.slice a l.length c, .int .i64 n] w (GivesE (Na.shl l n) w) := by
  have hB : Below w.heap.size w (w.alloc (Obj.cells #[Value.slice a l.length c] 26)) := (Below.refl _ _).alloc (Nat.le_refl _) _
  have e := Lib.hid (gives_nil 0 (show Na.shl l n = ([], 0) by rw [Na.shl, if_neg (by omega), hb, if_neg (by simp), if_pos hz]) hB)
  have H1 := Lib.hid (na_over1_any h hn false hb)
  have hr : Na.rt l = 0 := by rw [Na.rt, (Na.cut_nil_iff l).2 hz]; rfl
  have H2 := na_right_any a c l _ (h.on hB) hn
  rw [hr] at H2
  have H2' := Lib.hid (show Calls Tryz.prog 37 #[.slice a l.length c] (w.alloc (Obj.cells #[Value.slice a l.length c] 26)) (Ret0 (.int .i64 0) (w.alloc (Obj.cells #[Value.slice a l.length c] 26))) from H2)
  clear hb H2 hr
  go_enter Tryz.func27, Tryz.ntmps27
  go_wp2_with (first | (go_at_call 40; (with_reducible refine (H1.out).mono ?_); rintro e w' ⟨rfl, rfl⟩) | (go_at_call 37; (with_reducible refine (H2'.out).mono ?_); rintro e w' ⟨rfl, rfl⟩))
  refine bodyPost_ret (v := .tuple #[.slice none 0 0, .int .i64 0]) (by simp [results, Tryz.results27, go_sem]) rfl e.out

set_option maxHeartbeats 1000000 in
theorem na_shl_over (h0 : 0 ≤ n) (hb : Na.big l = false) (hz : Na.val l ≠ 0) (ho : 8192 < n ∨ 8192 < (Na.bitLen (Na.val l) : Int) + n) : Calls Tryz.prog 27 #[.slice a l.length c, .int .i64 n] w (GivesE (Na.shl l n) w) := by
  have hB : Below w.heap.size w (w.alloc (Obj.cells #[Value.slice a l.length c] 26)) := (Below.refl _ _).alloc (Nat.le_refl _) _
  have e := Lib.hid (gives_nil 2 (show Na.shl l n = ([], 2) by rw [Na.shl, if_neg (by omega), hb, if_neg (by simp), if_neg hz, if_pos ho]) hB)
  have H1 := Lib.hid (na_over1_any h hn false hb)
  have hr : Na.rt l ≠ 0 := fun e => hz ((Na.cut_nil_iff l).1 (List.eq_nil_of_length_eq_zero e))
  have H2 := na_right_any a c l _ (h.on hB) hn
  obtain ⟨rm, hrm⟩ : ∃ x, x = Na.rt l := ⟨_, rfl⟩
  rw [← hrm] at H2 hr
  have hr0 : ((rm : Int) == 0) = false := by simpa using hr
  have H2' := Lib.hid H2
  have H3 := na_len_any a c l _ (h.on hB) hn
  have hbl : Na.bitLen (Na.val l) ≤ 40000000 := by
    rw [Na.bitLen, if_neg hz]
    have h1 := Na.val_lt l h.ok
    rw [show Na.B ^ l.length = 2 ^ (32 * l.length) by rw [Nat.pow_mul]] at h1
    have := (Nat.log2_lt hz).2 h1
    omega
  obtain ⟨bl, hbe⟩ : ∃ x, x = Na.bitLen (Na.val l) := ⟨_, rfl⟩
  rw [← hbe] at H3 hbl ho
  have H3' := Lib.hid H3
  clear hb H2 hr H3 hbe hrm
  by_cases h1 : 8192 < n
  · clear ho
    go_enter Tryz.func27, Tryz.ntmps27
    go_wp2_with (first | (go_at_call 40; (with_reducible refine (H1.out).mono ?_); rintro e w' ⟨rfl, rfl⟩) | (go_at_call 37; (with_reducible refine (H2'.out).mono ?_); rintro e w' ⟨rfl, rfl⟩))
    refine bodyPost_ret (v := .tuple #[.slice none 0 0, .int .i64 2]) (by simp [results, Tryz.results27, go_sem]) rfl e.out
  · have h2 : 8192 < (bl : Int) + n := by omega
    clear ho
    go_enter Tryz.func27, Tryz.ntmps27
    go_wp2_with (first | (go_at_call 40; (with_reducible refine (H1.out).mono ?_); rintro e w' ⟨rfl, rfl⟩) | (go_at_call 37; (with_reducible refine (H2'.out).mono ?_); rintro e w' ⟨rfl, rfl⟩) | (go_at_call 15; (with_reducible refine (H3'.out).mono ?_); rintro e w' ⟨rfl, rfl⟩))
    refine bodyPost_ret (v := .tuple #[.slice none 0 0, .int .i64 2]) (by simp [results, Tryz.results27, go_sem]) rfl e.out
end
end Go.Proofs.YtcdndcbfmlnpjaaGreatDoor
