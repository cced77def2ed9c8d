/- The reference: Value, Len, Cmp. -/
import Derived.Test.YtcdndcbfmlnpjaaGreatDoorG1
namespace Go.Proofs.YtcdndcbfmlnpjaaGreatDoor
set_option linter.all false
open Go.RowKit

section
variable (a : Option Addr) (c : Nat) (l : List Nat) (w : World) (h : Sl w a c l) (hz : a = none → c = 0) (hn : l.length ≤ 1000000)
include h hz hn

set_option maxHeartbeats 1000000 in
theorem r1_value_any : Calls Tryz.prog 14 #[.slice a l.length c] w (RetB (.tuple #[.int .u64 (Na.value l).1, .bool (Na.value l).2]) w) := by
  have H1 := Lib.hid (r1_trim_any a c l w h hz hn)
  have hok := Na.ok_cut l
  by_cases h2 : 2 < (Na.cut l).length
  · have e1 := Lib.hid (show Na.value l = (0, false) from if_pos h2)
    go_enter Tryz.func14, Tryz.ntmps14
    go_wp2_with (first | (go_at_call 10; (with_reducible refine (H1.out).mono ?_); rintro e w1 ⟨a1, c1, rfl, hs1, hz1, hr1, hb1⟩))
    refine bodyPost_ret (v := .tuple #[.int .u64 0, .bool false]) (by simp [results, Tryz.results14, go_sem]) rfl ⟨by rw [e1.out]; rfl, hb1⟩
  · have e1 := Lib.hid (show Na.value l = (Na.val l, true) from if_neg h2)
    replace h2 : (Na.cut l).length ≤ 2 := by omega
    have hv := Lib.hid (Na.val_cut (a := l))
    obtain ⟨q, hq⟩ : ∃ q, q = Na.cut l := ⟨_, rfl⟩
    rw [← hq] at hv H1 h2 hok
    have HOK := Lib.hid hok
    clear hq hok
    go_enter Tryz.func14, Tryz.ntmps14
    go_wp2_with (first | (go_at_call 10; (with_reducible refine (H1.out).mono ?_); rintro e w1 ⟨a1, c1, rfl, hs1, hz1, hr1, hb1⟩))
    go_loop [5, 6] (fun v i => ∃ k : Nat, k ≤ q.length ∧ i = .int .i64 ((k : Int) - 1) ∧ v = .int .u64 (Na.val (q.drop k))) (fun _ i => (intOf i + 1).toNat)
    case atStart => exact ⟨q.length, Nat.le_refl _, rfl, by rw [List.drop_length]; rfl⟩
    case round =>
      obtain ⟨k, hk, rfl, rfl⟩ := hrel
      cases k with
      | zero =>
        have e2 := Lib.hid (show Na.val (q.drop 0) = Na.val l by rw [List.drop_zero, hv.out])
        go_wp2_with fail
        refine bodyPost_ret (v := .tuple #[.int .u64 (Na.val (q.drop 0) : Nat), .bool true]) (by simp [results, Tryz.results14, go_sem]) rfl ⟨by rw [e1.out, e2.out], hb1⟩
      | succ m =>
        have hmq : m < q.length := by omega
        obtain ⟨b, o, rfl, hb, hcell⟩ := hs1.plain (by omega)
        have c1' := hcell m hmq
        have hx := hs1.lt m hmq
        have hval := Na.val_drop_at q m hmq
        have hlt : Na.val (q.drop (m + 1)) < 4294967296 := by
          have := Na.val_lt (q.drop (m + 1)) (Na.ok_drop HOK.out _)
          rw [List.length_drop] at this
          exact Nat.lt_of_lt_of_le this (show Na.B ^ (q.length - (m + 1)) ≤ Na.B ^ 1 from Nat.pow_le_pow_right (by decide) (by omega))
        obtain ⟨x, hxx⟩ : ∃ x, q[m] = x := ⟨_, rfl⟩
        rw [hxx] at c1' hx hval
        clear hcell hxx
        obtain ⟨V, hV⟩ : ∃ V, V = Na.val (q.drop (m + 1)) := ⟨_, rfl⟩
        rw [← hV] at hval hlt ⊢
        have HVAL := Lib.hid hval
        have hm1 : ((m : Int) + 1 - 1) = (m : Int) := by omega
        have hmi : (((m + 1 : Nat) : Int) - 1) = (m : Int) := by omega
        rw [hmi]
        clear hV hval
        go_wp2_with fail
        go_round
        case rel => exact ⟨m, by omega, rfl, by first | (rw [HVAL.out]; done) | (rw [HVAL.out]; congr 1; show _ = ((x + 4294967296 * V : Nat) : Int); omega)⟩
        case measure => simp [intOf]

set_option maxHeartbeats 1000000 in
theorem r1_len_any : Calls Tryz.prog 16 #[.slice a l.length c] w (RetB (.int .i64 (Na.bitLen (Na.val l) : Nat)) w) := by
  have H1 := Lib.hid (r1_trim_any a c l w h hz hn)
  have hle := (Na.rt_le h.ok).1
  obtain ⟨q, hq⟩ : ∃ q, q = Na.cut l := ⟨_, rfl⟩
  have hnil := Na.cut_nil_iff l
  replace hle : q.length ≤ l.length := by rw [hq]; exact hle
  have hok := Na.ok_cut l
  rw [← hq] at H1 hnil hok
  obtain ⟨n, hqn⟩ : ∃ n, n = q.length := ⟨_, rfl⟩
  cases n with
  | zero =>
    have hz0 : Na.val l = 0 := hnil.1 (List.eq_nil_of_length_eq_zero hqn.symm)
    have e1 := Lib.hid (show Na.bitLen (Na.val l) = 0 by rw [hz0]; rfl)
    have hql : q.length = 0 := hqn.symm
    clear hqn hz0 hle hq
    go_enter Tryz.func16, Tryz.ntmps16
    go_wp2_with (first | (go_at_call 10; (with_reducible refine (H1.out).mono ?_); rintro e w1 ⟨a1, c1, rfl, hs1, hz1, hr1, hb1⟩))
    go_ret
    exact RetB.of (by rw [e1.out]; rfl) hb1
  | succ n =>
    have hnq : n < q.length := by omega
    have hb := Na.bitLen_at l q hq n hqn.symm
    have hxl := hok _ (List.getElem_mem hnq)
    have hlast : q[n]'hnq ≠ 0 := by
      have hne : Na.cut l ≠ [] := by rw [← hq]; intro e; rw [e] at hnq; simp at hnq
      have h1 : (Na.cut l).getLast hne ≠ 0 := Na.limbs_last (Na.val l) hne
      rw [List.getLast_eq_getElem] at h1
      simp only [← hq, ← hqn] at h1
      simpa using h1
    rw [Na.libBitLen _ hlast (Nat.lt_trans hxl (by decide))] at hb
    have hbx : Na.bitLen (q[n]'hnq) = Nat.log2 (q[n]'hnq) + 1 := by rw [Na.bitLen, if_neg hlast]
    rw [← hbx] at hb
    have hx32 : q[n]'hnq < 4294967296 := hxl
    obtain ⟨x, hx⟩ : ∃ x, x = q[n]'hnq := ⟨_, rfl⟩
    rw [← hx] at hb hx32
    have HX := Lib.hid hx
    have HB := Lib.hid hb
    have HNQ := Lib.hid hqn
    have hn6 : n ≤ 1000000 := by omega
    clear hx hb hqn hbx hlast hxl hok hnil hle hq
    have hql : q.length = n + 1 := HNQ.out.symm
    go_enter Tryz.func16, Tryz.ntmps16
    go_wp2_with (first | (go_at_call 10; (with_reducible refine (H1.out).mono ?_); rintro e w1 ⟨a1, c1, rfl, hs1, hz1, hr1, hb1⟩; obtain ⟨b, o, rfl, hb, hcell⟩ := hs1.plain (by omega); have cx := hcell n (by omega); rw [← HX.out] at cx; clear hcell))
    go_loop [4, 5] (fun nv xv => ∃ m y : Nat, nv = .int .i64 m ∧ xv = .int .u32 y ∧ y ≤ x ∧ m ≤ 40000000 ∧ Hid (m + Na.bitLen y = Na.bitLen (Na.val l))) (fun _ xv => (intOf xv).toNat)
    case atStart => exact ⟨32 * n, x, by go_num, rfl, Nat.le_refl _, by omega, Lib.hid HB.out.symm⟩
    case round =>
      obtain ⟨m, y, rfl, rfl, hy, hm, HM⟩ := hrel
      by_cases hy0 : y = 0
      · have e := Lib.hid (show Na.bitLen (Na.val l) = m by rw [← HM.out, hy0]; rfl)
        have hy1 : y ≤ 0 := by omega
        clear hy0
        go_wp2_with fail
        go_ret
        exact RetB.of (by rw [e.out]; rfl) hb1
      · have hy1 : 0 < y := by omega
        have hbl := Na.bitLen_half hy0
        have HBL := Lib.hid hbl
        have hm2 : m + 1 ≤ 40000000 := by
          have h1 := HM.out
          have h2 := Na.bitLen_pos' hy0
          have h3 := HB.out
          have h4 : Na.bitLen x ≤ 32 := Na.bitLen_le' (k := 32) (by omega)
          omega
        clear hbl hy0
        go_wp2_with fail
        go_round
        case rel => exact ⟨m + 1, y / 2, by go_num, by congr 1, by omega, hm2, Lib.hid (by rw [← HM.out, HBL.out]; omega)⟩
        case measure => simp [intOf]; omega
end
end Go.Proofs.YtcdndcbfmlnpjaaGreatDoor
