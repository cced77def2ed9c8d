/- Of, Value, Len. -/
import Derived.Test.YtcdndcbfmlnpjaaGreatDoorN2
import Derived.Test.YtcdndcbfmlnpjaaGreatDoorNb
namespace Go.Proofs.YtcdndcbfmlnpjaaGreatDoor
set_option linter.all false
open Go.RowKit

theorem GivesB.up {l : List Nat} {w w1 w' : World} {e : Ending} (h : GivesB l w1 e w') (hb : Below w.heap.size w w1) : GivesB l w e w' := by
  obtain ⟨g, rfl, hg, hk, hb'⟩ := h
  have := hb.size
  exact ⟨g, rfl, by omega, hk, hb.trans (hb'.mono (by omega))⟩

set_option maxHeartbeats 400000 in
theorem na_of_any (v : Nat) (hv : v < 18446744073709551616) (w : World) :
    Calls Tryz.prog 11 #[.int .u64 v] w (GivesB (Na.limbs v) w) := by
  have hok : Na.OK [v % 4294967296, v / 4294967296] := fun x hx => by
    simp only [List.mem_cons, List.not_mem_nil, or_false] at hx
    show x < 4294967296
    omega
  have hval : Na.cut [v % 4294967296, v / 4294967296] = Na.limbs v := by
    rw [Na.cut]; congr 1
    simp only [Na.val, Na.B]; omega
  have h0 : Blk (w.alloc (Obj.cells #[Value.int IntKind.u32 ((v : Int) % 4294967296), Value.int IntKind.u32 ((v : Int) / 4294967296)] 63)) w.heap.size [v % 4294967296, v / 4294967296] := by
    show (w.heap.push _)[w.heap.size]? = _; simp [u32s]
  have H1 := Lib.hid (show Calls Tryz.prog 9 #[.slice (some ⟨w.heap.size, 0, none⟩) 2 2] (w.alloc (Obj.cells #[Value.int IntKind.u32 ((v : Int) % 4294967296), Value.int IntKind.u32 ((v : Int) / 4294967296)] 63)) (GivesB (Na.limbs v) (w.alloc (Obj.cells #[Value.int IntKind.u32 ((v : Int) % 4294967296), Value.int IntKind.u32 ((v : Int) / 4294967296)] 63))) from hval ▸ na_trim_any _ _ _ _ (h0.sl hok (Nat.le_refl _)) (by simp))
  have hB : Below w.heap.size w (w.alloc (Obj.cells #[Value.int IntKind.u32 ((v : Int) % 4294967296), Value.int IntKind.u32 ((v : Int) / 4294967296)] 63)) := (Below.refl _ _).alloc (Nat.le_refl _) _
  clear h0 hok hval
  go_enter Tryz.func11, Tryz.ntmps11
  go_wp2_with (first | (go_at_call 9; (with_reducible refine (H1.out).mono ?_); intro e w1 hg; obtain ⟨g, rfl, hg1, hk1, hb1⟩ := GivesB.up hg hB))
  go_ret
  exact ⟨g, rfl, hg1, hk1, hb1⟩

set_option maxHeartbeats 400000 in
theorem na_value_any (a : Option Addr) (c : Nat) (l : List Nat) (w : World) (h : Sl w a c l) (hn : l.length ≤ 1000000) :
    Calls Tryz.prog 13 #[.slice a l.length c] w (Ret0 (.tuple #[.int .u64 (Na.value l).1, .bool (Na.value l).2]) w) := by
  have H1 := Lib.hid (na_cut_any a c l w h hn)
  by_cases h2 : 2 < Na.rt l
  · have e1 := Lib.hid (show Na.value l = (0, false) from if_pos h2)
    replace h2 : 2 < (Na.cut l).length := h2
    go_enter Tryz.func13, Tryz.ntmps13
    go_wp2_with (first | (go_at_call 38; (with_reducible refine (H1.out).mono ?_); rintro e w' ⟨rfl, rfl⟩))
    refine bodyPost_ret (v := .tuple #[.int .u64 0, .bool false]) (by simp [results, Tryz.results13, go_sem]) rfl ⟨by rw [e1.out]; rfl, rfl⟩
  · have e1 := Lib.hid (show Na.value l = (Na.val l, true) from if_neg h2)
    replace h2 : (Na.cut l).length ≤ 2 := by show Na.rt l ≤ 2; omega
    have hc := h.cut
    have hv := Lib.hid (Na.val_cut (a := l))
    obtain ⟨q, hq⟩ : ∃ q, q = Na.cut l := ⟨_, rfl⟩
    rw [← hq] at hc hv H1 h2
    have HQ := Lib.hid hq; clear hq
    go_enter Tryz.func13, Tryz.ntmps13
    go_wp2_with (first | (go_at_call 38; (with_reducible refine (H1.out).mono ?_); rintro e w' ⟨rfl, rfl⟩))
    go_loop [4, 13] (fun v i => ∃ k : Nat, k ≤ q.length ∧ i = .int .i64 k ∧ v = .int .u64 (Na.val (q.take k))) (fun v i => q.length - (intOf i).toNat)
    case atStart => exact ⟨0, Nat.zero_le _, rfl, rfl⟩
    case round =>
      obtain ⟨k, hk, rfl, rfl⟩ := hrel
      by_cases hlt : k < q.length
      · obtain ⟨b, o, rfl, hb, hcell⟩ := hc.plain (by omega)
        have c1 := hcell k hlt
        have hx := hc.lt k hlt
        have hval := Lib.hid (Na.val_take_succ q k hlt)
        obtain ⟨x, hxx⟩ : ∃ x, q[k] = x := ⟨_, rfl⟩
        rw [hxx] at c1 hx hval
        clear hcell hxx
        obtain ⟨V, hV⟩ : ∃ V, V = Na.val (q.take k) := ⟨_, rfl⟩
        rw [← hV] at hval ⊢
        have HV := Lib.hid hV; clear hV
        have hlt2 : V < 2 ^ (32 * k) := by
          rw [HV.out]
          have := Na.val_lt (q.take k) (Na.ok_take hc.ok k)
          rw [List.length_take, show min k q.length = k by omega, show Na.B ^ k = 2 ^ (32 * k) by rw [Nat.pow_mul]] at this
          exact this
        have hB : Na.B ^ k = 2 ^ (32 * k) := by rw [Nat.pow_mul]
        rw [hB] at hval
        have hbits := Na.or_shift V x (32 * k) hlt2 (by
          rcases (show k = 0 ∨ k = 1 by omega) with rfl | rfl
          · omega
          · omega)
        have HB := Lib.hid hbits; clear hbits hlt2 hB
        go_wp2_with fail
        go_round
        case rel => exact ⟨k + 1, by omega, by go_num, by rw [HB.out, hval.out, Nat.mul_comm x]⟩
        case measure => simp [intOf]; omega
      · obtain rfl : k = q.length := by omega
        have e2 := Lib.hid (show Na.val (q.take q.length) = Na.val l by rw [List.take_length, hv.out])
        go_wp2_with fail
        refine bodyPost_ret (v := .tuple #[.int .u64 (Na.val (q.take q.length) : Nat), .bool true]) (by simp [results, Tryz.results13, go_sem]) rfl ⟨by rw [e1.out, e2.out], rfl⟩

theorem na_len_any (a : Option Addr) (c : Nat) (l : List Nat) (w : World) (h : Sl w a c l) (hn : l.length ≤ 1000000) :
    Calls Tryz.prog 15 #[.slice a l.length c] w (Ret0 (.int .i64 (Na.bitLen (Na.val l) : Nat)) w) := by
  have H1 := Lib.hid (na_cut_any a c l w h hn)
  have hle := (Na.rt_le h.ok).1
  have hc := h.cut
  obtain ⟨q, hq⟩ : ∃ q, q = Na.cut l := ⟨_, rfl⟩
  have hnil := Na.cut_nil_iff l
  replace hle : q.length ≤ l.length := by rw [hq]; exact hle
  rw [← hq] at hc H1 hnil
  have HQ := Lib.hid hq; clear hq
  obtain ⟨n, hqn⟩ : ∃ n, n = q.length := ⟨_, rfl⟩
  rw [← hqn] at H1
  cases n with
  | zero =>
    have hz : Na.val l = 0 := hnil.1 (List.eq_nil_of_length_eq_zero hqn.symm)
    have e1 := Lib.hid (show Na.bitLen (Na.val l) = 0 by rw [hz]; rfl)
    clear hqn hz hle hc
    go_enter Tryz.func15, Tryz.ntmps15
    go_wp2_with (first | (go_at_call 38; (with_reducible refine (H1.out).mono ?_); rintro e w' ⟨rfl, rfl⟩))
    go_ret
    exact Ret0.of (by rw [e1.out]; rfl)
  | succ n =>
    have e1 := Lib.hid (Na.bitLen_at l q HQ.out n hqn.symm)
    obtain ⟨b, o, rfl, hb, hcell⟩ := hc.plain (by omega)
    have c1 := hcell n (by omega)
    have hx := hc.lt n (by omega)
    obtain ⟨x, hxx⟩ : ∃ x, q[n]'(by omega) = x := ⟨_, rfl⟩
    rw [hxx] at c1 hx e1
    have hk : Lib.bitLen x ≤ 32 := Lib.bitLen_le x 32 (by omega) hx
    have H2 := Lib.hid (Tryz.bits_Len32 (x : Int) w (by omega) (by omega))
    have hs : n ≤ 1000000 := by omega
    clear hcell hxx hqn hc
    go_enter Tryz.func15, Tryz.ntmps15
    go_wp2_with (first | (go_at_call 38; (with_reducible refine (H1.out).mono ?_); rintro e w' ⟨rfl, rfl⟩) | (go_at_call 39; (with_reducible refine (H2.out).mono ?_); rintro e w' ⟨rfl, rfl⟩))
    go_ret
    exact Ret0.of (by rw [e1.out]; simp)
end Go.Proofs.YtcdndcbfmlnpjaaGreatDoor
