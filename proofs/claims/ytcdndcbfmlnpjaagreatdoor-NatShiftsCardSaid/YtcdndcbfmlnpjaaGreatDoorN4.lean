/- Cmp. -/
import Derived.Test.YtcdndcbfmlnpjaaGreatDoorN3
import Derived.Deep.QuietTactic
import Derived.BigQuiet
namespace Go.Proofs.YtcdndcbfmlnpjaaGreatDoor
set_option linter.all false
open Go.RowKit

theorem Na.cmp_lt {a b : List Nat} (h : Na.val a < Na.val b) : Na.cmp a b = -1 := if_pos h
theorem Na.cmp_gt {a b : List Nat} (h : Na.val b < Na.val a) : Na.cmp a b = 1 := by rw [Na.cmp, if_neg (by omega), if_pos h]
theorem Na.cmp_eq {a b : List Nat} (h : Na.val a = Na.val b) : Na.cmp a b = 0 := by rw [Na.cmp, if_neg (by omega), if_neg (by omega)]

set_option maxHeartbeats 1000000 in
theorem na_cmp_any (a : Option Addr) (c : Nat) (l : List Nat) (b : Option Addr) (d : Nat) (m : List Nat) (w : World) (h : Sl w a c l) (h' : Sl w b d m) (hn : l.length ≤ 1000000) (hm : m.length ≤ 1000000) :
    Calls Tryz.prog 17 #[.slice a l.length c, .slice b m.length d] w (RetB (.int .i64 (Na.cmp l m)) w) := by
  have H1 := Lib.hid (na_cut_any a c l w h hn)
  have H2 := Lib.hid (na_cut_any b d m w h' hm)
  have hl1 : (Na.cut l).length ≤ 1000000 := Nat.le_trans (Na.rt_le h.ok).1 hn
  have hl2 : (Na.cut m).length ≤ 1000000 := Nat.le_trans (Na.rt_le h'.ok).1 hm
  have S1 := h.cut
  have S2 := h'.cut
  have hlt : (Na.cut l).length < (Na.cut m).length → Na.val l < Na.val m := Na.lt_of_rt h.ok h'.ok
  have hgt : (Na.cut m).length < (Na.cut l).length → Na.val m < Na.val l := Na.lt_of_rt h'.ok h.ok
  have v1 := Na.val_cut (a := l)
  have v2 := Na.val_cut (a := m)
  obtain ⟨q, hq⟩ : ∃ q, q = Na.cut l := ⟨_, rfl⟩
  obtain ⟨r, hr⟩ : ∃ r, r = Na.cut m := ⟨_, rfl⟩
  rw [← hq] at H1 hl1 S1 hlt hgt v1
  rw [← hr] at H2 hl2 S2 hlt hgt v2
  clear hq hr
  obtain ⟨n, hqn⟩ : ∃ n, q.length = n := ⟨_, rfl⟩
  obtain ⟨k, hrk⟩ : ∃ k, r.length = k := ⟨_, rfl⟩
  rw [hqn] at H1 hl1 hlt hgt
  rw [hrk] at H2 hl2 hlt hgt
  by_cases hnk : n = k
  · subst hnk
    clear hlt hgt
    have b0 : ((n : Int) != n) = false := by simp
    have HQ := Lib.hid hqn; have HR := Lib.hid hrk; have V1 := Lib.hid v1; have V2 := Lib.hid v2
    clear hqn hrk v1 v2
    go_enter Tryz.func17, Tryz.ntmps17
    go_wp2_with (first | (go_at_call 38; (with_reducible refine (H1.out).mono ?_); rintro e w' ⟨rfl, rfl⟩) | (go_at_call 38; (with_reducible refine (H2.out).mono ?_); rintro e w' ⟨rfl, rfl⟩))
    go_loopw [23] (fun i wr => ∃ j : Nat, j ≤ n ∧ i = .int .i64 j ∧ q.drop (n - j) = r.drop (n - j) ∧ Below w.heap.size w wr) (fun i _ => n - (intOf i).toNat)
    case atStart => exact ⟨0, Nat.zero_le _, rfl, by rw [Nat.sub_zero, List.drop_of_length_le (by have := HQ.out; omega), List.drop_of_length_le (by have := HR.out; omega)], Below.refl _ _⟩
    case round =>
      obtain ⟨j, hj, rfl, hd, hbw⟩ := hrel
      have HD := Lib.hid hd; have HB := Lib.hid hbw; clear hd hbw
      by_cases hlt : j < n
      · obtain ⟨t, rfl⟩ : ∃ t, n = j + 1 + t := ⟨n - (j + 1), by omega⟩
        have e1 : j + 1 + t - j = t + 1 := by omega
        have e2 : j + 1 + t - (j + 1) = t := by omega
        obtain ⟨b1, o1, rfl, hb1, hc1⟩ := (S1.on HB.out).plain (by have := HQ.out; omega)
        obtain ⟨b2, o2, rfl, hb2, hc2⟩ := (S2.on HB.out).plain (by have := HR.out; omega)
        have hq1 : t < q.length := by have := HQ.out; omega
        have hr1 : t < r.length := by have := HR.out; omega
        have c1 := hc1 t hq1
        have c2 := hc2 t hr1
        have HE := Lib.hid (show q.drop (t + 1) = r.drop (t + 1) by rw [← e1]; exact HD.out)
        have G1 := Lib.hid (Na.cmp_at S1.ok S2.ok (by have := HQ.out; have := HR.out; omega) t hq1 hr1 HE.out)
        have G2 := Lib.hid (Na.cmp_at S2.ok S1.ok (by have := HQ.out; have := HR.out; omega) t hr1 hq1 HE.out.symm)
        have E2 := Lib.hid e2
        clear e1 e2
        obtain ⟨x, hx⟩ : ∃ x, q[t]'hq1 = x := ⟨_, rfl⟩
        obtain ⟨y, hy⟩ : ∃ y, r[t]'hr1 = y := ⟨_, rfl⟩
        have EQ := Lib.hid (show x = y → q.drop (j + 1 + t - (j + 1)) = r.drop (j + 1 + t - (j + 1)) from fun e => by rw [E2.out, List.drop_eq_getElem_cons hq1, List.drop_eq_getElem_cons hr1, hx, hy, e, HE.out])
        rw [hx] at c1 G1 G2; rw [hy] at c2 G1 G2
        clear hx hy hc1 hc2 HD
        by_cases hxy : x < y
        · have e := Lib.hid (Na.cmp_lt (a := l) (b := m) (by rw [← V1.out, ← V2.out]; exact G1.out hxy))
          go_wp2_with fail
          go_quiet (fail)
          go_wp2_with fail
          go_ret
          exact RetB.of (by rw [e.out]; rfl) (below_drewN' HB.out _)
        · by_cases hyx : y < x
          · have e := Lib.hid (Na.cmp_gt (a := l) (b := m) (by rw [← V1.out, ← V2.out]; exact G2.out hyx))
            go_wp2_with fail
            go_quiet (fail)
            go_wp2_with fail
            go_quiet (fail)
            go_wp2_with fail
            go_ret
            exact RetB.of (by rw [e.out]; rfl) (below_drewN' (below_drewN' HB.out _) _)
          · obtain rfl : x = y := by omega
            have EQ2 := Lib.hid (EQ.out rfl)
            clear EQ
            go_wp2_with fail
            go_quiet (fail)
            go_wp2_with fail
            go_quiet (fail)
            go_wp2_with fail
            go_roundw
            case rel => exact ⟨j + 1, by omega, by go_num, EQ2.out, below_drewN' HB.out _⟩
            case measure => simp [intOf]; omega
      · obtain rfl : j = n := by omega
        have e := Lib.hid (Na.cmp_eq (a := l) (b := m) (by rw [← V1.out, ← V2.out]; have := HD.out; rw [Nat.sub_self, List.drop_zero, List.drop_zero] at this; rw [this]))
        go_wp2_with fail
        go_ret
        exact RetB.of (by rw [e.out]; rfl) HB.out
  · by_cases hlk : n < k
    · have e := Lib.hid (Na.cmp_lt (hlt hlk))
      have b0 : ((n : Int) != k) = true := by simp; omega
      clear hlt hgt hqn hrk v1 v2
      go_enter Tryz.func17, Tryz.ntmps17
      go_wp2_with (first | (go_at_call 38; (with_reducible refine (H1.out).mono ?_); rintro e w' ⟨rfl, rfl⟩) | (go_at_call 38; (with_reducible refine (H2.out).mono ?_); rintro e w' ⟨rfl, rfl⟩))
      go_ret
      exact RetB.of (by rw [e.out]; rfl) (Below.refl _ _)
    · have e := Lib.hid (Na.cmp_gt (hgt (by omega)))
      have b0 : ((n : Int) != k) = true := by simp; omega
      clear hlt hgt hqn hrk v1 v2
      go_enter Tryz.func17, Tryz.ntmps17
      go_wp2_with (first | (go_at_call 38; (with_reducible refine (H1.out).mono ?_); rintro e w' ⟨rfl, rfl⟩) | (go_at_call 38; (with_reducible refine (H2.out).mono ?_); rintro e w' ⟨rfl, rfl⟩))
      go_ret
      exact RetB.of (by rw [e.out]; rfl) (Below.refl _ _)
end Go.Proofs.YtcdndcbfmlnpjaaGreatDoor
