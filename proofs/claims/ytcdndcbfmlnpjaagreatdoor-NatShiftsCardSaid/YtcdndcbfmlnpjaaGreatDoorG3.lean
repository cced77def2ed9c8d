/- The reference: Cmp. -/
import Derived.Test.YtcdndcbfmlnpjaaGreatDoorG2
namespace Go.Proofs.YtcdndcbfmlnpjaaGreatDoor
set_option linter.all false
open Go.RowKit

def cmpLoop1 (q r : List Nat) (w : World) (iv : Value) (wr : World) : Prop := ∃ k : Nat, k ≤ q.length ∧ iv = .int .i64 ((k : Int) - 1) ∧ Hid (q.drop k = r.drop k) ∧ Hid (Below w.heap.size w wr)

set_option maxHeartbeats 2000000 in
theorem r1_cmp_any (a : Option Addr) (c : Nat) (l : List Nat) (b : Option Addr) (d : Nat) (m : List Nat) (w : World) (h : Sl w a c l) (hz : a = none → c = 0) (h' : Sl w b d m) (hz' : b = none → d = 0) (hn : l.length ≤ 1000000) (hm : m.length ≤ 1000000) :
    Calls Tryz.prog 18 #[.slice a l.length c, .slice b m.length d] w (RetB (.int .i64 (Na.cmp l m)) w) := by
  have H1 := Lib.hid (r1_trim_any a c l w h hz hn)
  have H2 := Lib.hid (fun w1 (hb : Below w.heap.size w w1) => r1_trim_any b d m w1 (h'.on hb) hz' hm)
  have v1 := Na.val_cut (a := l)
  have v2 := Na.val_cut (a := m)
  have hlt : (Na.cut l).length < (Na.cut m).length → Na.val l < Na.val m := fun e => Na.lt_of_rt h.ok h'.ok e
  have hgt : (Na.cut m).length < (Na.cut l).length → Na.val m < Na.val l := fun e => Na.lt_of_rt h'.ok h.ok e
  have hl1 : (Na.cut l).length ≤ 1000000 := Nat.le_trans (Na.rt_le h.ok).1 hn
  have hl2 : (Na.cut m).length ≤ 1000000 := Nat.le_trans (Na.rt_le h'.ok).1 hm
  obtain ⟨q, hq⟩ : ∃ q, q = Na.cut l := ⟨_, rfl⟩
  obtain ⟨r, hr⟩ : ∃ q, q = Na.cut m := ⟨_, rfl⟩
  rw [← hq] at H1 v1 hlt hgt hl1
  rw [← hr] at H2 v2 hlt hgt hl2
  clear hq hr
  have V1 := Lib.hid v1; have V2 := Lib.hid v2
  by_cases he : q.length = r.length
  · have HE := Lib.hid he
    have hql : q.length = r.length := he
    clear hlt hgt v1 v2 he
    go_enter Tryz.func18, Tryz.ntmps18
    go_wp2_with (first | (go_at_call 10; (with_reducible refine (H1.out).mono ?_); rintro e w1 ⟨a1, c1, rfl, hs1, hz1, hr1, hb1⟩) | (go_at_call 10; (with_reducible refine (H2.out w1 hb1).mono ?_); rintro e w2 ⟨a2, c2, rfl, hs2, hz2, hr2, hb2⟩))
    have hS1 := hs1.on hb2
    have HB2 := Lib.hid (hb1.trans (hb2.mono hb1.size))
    clear hr1 hr2 hs1
    go_loopw [7] (cmpLoop1 q r w2) (fun i _ => (intOf i + 1).toNat)
    case atStart => exact ⟨q.length, Nat.le_refl _, by rw [HE.out], Lib.hid (by rw [List.drop_length, HE.out, List.drop_length]), Lib.hid (Below.refl _ _)⟩
    case round =>
      obtain ⟨k, hk, rfl, HD, HB⟩ := hrel
      cases k with
      | zero =>
        have e := Lib.hid (Na.cmp_eq (a := l) (b := m) (by rw [← V1.out, ← V2.out]; have := HD.out; rw [List.drop_zero, List.drop_zero] at this; rw [this]))
        go_wp2_with fail
        go_ret
        exact RetB.of (by rw [e.out]; rfl) (HB2.out.trans (HB.out.mono HB2.out.size))
      | succ t =>
        have hq1 : t < q.length := by omega
        have hr1 : t < r.length := by rw [← HE.out]; exact hq1
        obtain ⟨b1, o1, rfl, hb1', hc1⟩ := (hS1.on HB.out).plain (by omega)
        obtain ⟨b2, o2, rfl, hb2', hc2⟩ := (hs2.on HB.out).plain (by omega)
        have k1 := hc1 t hq1
        have k2 := hc2 t hr1
        have G1 := Lib.hid (Na.cmp_at hS1.ok hs2.ok HE.out t hq1 hr1 HD.out)
        have G2 := Lib.hid (Na.cmp_at hs2.ok hS1.ok HE.out.symm t hr1 hq1 HD.out.symm)
        have EQ := Lib.hid (show q[t]'hq1 = r[t]'hr1 → q.drop t = r.drop t from fun e => by rw [List.drop_eq_getElem_cons hq1, List.drop_eq_getElem_cons hr1, e, HD.out])
        obtain ⟨x, hx⟩ : ∃ x, q[t]'hq1 = x := ⟨_, rfl⟩
        obtain ⟨y, hy⟩ : ∃ y, r[t]'hr1 = y := ⟨_, rfl⟩
        rw [hx] at k1 G1 G2 EQ; rw [hy] at k2 G1 G2 EQ
        have hti : (((t + 1 : Nat) : Int) - 1) = (t : Int) := by omega
        rw [hti]
        have htr : t < r.length := hr1
        clear hx hy hc1 hc2 HD hti
        by_cases hxy : x < y
        · have e := Lib.hid (Na.cmp_lt (a := l) (b := m) (by rw [← V1.out, ← V2.out]; exact G1.out hxy))
          go_wp2_with fail
          go_quiet (fail)
          go_wp2_with fail
          go_ret
          exact RetB.of (by rw [e.out]; rfl) (HB2.out.trans ((below_drewN' HB.out _).mono HB2.out.size))
        · by_cases hyx : y < x
          · have e := Lib.hid (Na.cmp_gt (a := l) (b := m) (by rw [← V1.out, ← V2.out]; exact G2.out hyx))
            go_wp2_with fail
            go_quiet (fail)
            go_wp2_with fail
            go_quiet (fail)
            go_wp2_with fail
            go_ret
            exact RetB.of (by rw [e.out]; rfl) (HB2.out.trans ((below_drewN' (below_drewN' HB.out _) _).mono HB2.out.size))
          · obtain rfl : x = y := by omega
            have EQ2 := Lib.hid (EQ.out rfl)
            clear EQ G1 G2
            go_wp2_with fail
            go_quiet (fail)
            go_wp2_with fail
            go_quiet (fail)
            go_wp2_with fail
            go_roundw
            case rel => exact ⟨t, by omega, rfl, EQ2, Lib.hid (below_drewN' HB.out _)⟩
            case measure => simp [intOf]
  · by_cases hlk : q.length < r.length
    · have e := Lib.hid (Na.cmp_lt (hlt hlk))
      have b0 : ((q.length : Int) != r.length) = true := by simp; omega
      clear hlt hgt he v1 v2
      go_enter Tryz.func18, Tryz.ntmps18
      go_wp2_with (first | (go_at_call 10; (with_reducible refine (H1.out).mono ?_); rintro e w1 ⟨a1, c1, rfl, hs1, hz1, hr1, hb1⟩) | (go_at_call 10; (with_reducible refine (H2.out w1 hb1).mono ?_); rintro e w2 ⟨a2, c2, rfl, hs2, hz2, hr2, hb2⟩))
      go_ret
      exact RetB.of (by rw [e.out]; rfl) (hb1.trans (hb2.mono hb1.size))
    · have e := Lib.hid (Na.cmp_gt (hgt (by omega)))
      have b0 : ((q.length : Int) != r.length) = true := by simp; omega
      clear hlt hgt he v1 v2
      go_enter Tryz.func18, Tryz.ntmps18
      go_wp2_with (first | (go_at_call 10; (with_reducible refine (H1.out).mono ?_); rintro e w1 ⟨a1, c1, rfl, hs1, hz1, hr1, hb1⟩) | (go_at_call 10; (with_reducible refine (H2.out w1 hb1).mono ?_); rintro e w2 ⟨a2, c2, rfl, hs2, hz2, hr2, hb2⟩))
      go_ret
      exact RetB.of (by rw [e.out]; rfl) (hb1.trans (hb2.mono hb1.size))
end Go.Proofs.YtcdndcbfmlnpjaaGreatDoor
