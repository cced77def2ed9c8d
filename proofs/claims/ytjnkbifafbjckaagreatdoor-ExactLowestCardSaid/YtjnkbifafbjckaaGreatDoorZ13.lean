/- The reference: Trim, Of. -/
import Derived.Test.YtjnkbifafbjckaaGreatDoorZ9
import Derived.Test.YtjnkbifafbjckaaGreatDoorZ12
import Derived.Test.YtjnkbifafbjckaaGreatDoorZ10
namespace Go.Proofs.YtjnkbifafbjckaaGreatDoor
set_option linter.all false
open Go.RowKit

/-- What a function of the reference answers with: a list of its own. -/
def GivesW (l : List Nat) (w : World) (e : Ending) (w' : World) : Prop := ∃ v, e = .returned v ∧ Row w' w.heap.size v l ∧ Below w.heap.size w w'
theorem Row.slz {w : World} {B : Nat} {v : Value} {l : List Nat} (h : Row w B v l) (hok : Na.OK l) : ∃ a c, v = .slice a l.length c ∧ Sl w a c l ∧ (a = none → c = 0) := by
  have h0 := h
  rcases h.2 with ⟨rfl, hn⟩ | ⟨g, cap, cur, rfl, hb, hg, h1, h2, h3, h4⟩
  · obtain rfl : l = [] := List.eq_nil_of_length_eq_zero hn
    exact ⟨none, 0, rfl, Sl.nil _ _ _, fun _ => rfl⟩
  · obtain ⟨a, c, e, hs, _⟩ := h0.sl hok
    exact ⟨a, c, e, hs, fun e2 => by rw [e2] at e; simp at e⟩
/-- .. as a slice. -/
def GivesZ (l : List Nat) (w : World) (e : Ending) (w' : World) : Prop := ∃ a c, e = .returned (.slice a l.length c) ∧ Sl w' a c l ∧ (a = none → c = 0) ∧ Row w' w.heap.size (.slice a l.length c) l ∧ Below w.heap.size w w'
theorem GivesW.z {l : List Nat} {w w' : World} {e : Ending} (h : GivesW l w e w') (hok : Na.OK l) : GivesZ l w e w' := by
  obtain ⟨v, rfl, hr, hb⟩ := h
  obtain ⟨a, c, rfl, hs, hz⟩ := hr.slz hok
  exact ⟨a, c, rfl, hs, hz, hr, hb⟩

set_option maxHeartbeats 1000000 in
theorem r1_trim_any (a : Option Addr) (c : Nat) (l : List Nat) (w : World) (h : Sl w a c l) (hz : a = none → c = 0) (hn : l.length ≤ 1000000) :
    Calls Tryz.prog 107 #[.slice a l.length c] w (GivesZ (Na.cut l) w) := by
  have HZN := Lib.hid hz
  have hcap := h.cap
  have HFIN := Lib.hid (fun v w' (hr : Row w' w.heap.size v (Na.cut l)) (hb : Below w.heap.size w w') => (GivesW.z ⟨v, rfl, hr, hb⟩ (Na.ok_cut l) : GivesZ (Na.cut l) w (.returned v) w'))
  clear hz
  go_enter Tryz.func107, Tryz.ntmps107
  go_wp2_with fail
  go_loop [3] (fun i => ∃ k : Nat, k ≤ l.length ∧ i = .int .i64 k ∧ ∀ j (hj : j < l.length), k ≤ j → l[j] = 0) (fun i => (intOf i).toNat)
  case atStart => exact ⟨l.length, Nat.le_refl _, rfl, fun j hj hk => by omega⟩
  case round =>
    obtain ⟨k, hk, rfl, hz⟩ := hrel
    have HZ := Lib.hid hz; clear hz
    cases k with
    | zero =>
      have HR := Lib.hid (Na.rt_of h.ok (k := 0) hk HZ.out (fun h0 => absurd h0 (by omega))).2
      go_wp2_with (first | (at_builtin; refine app_u32 rfl _ _ 44 Tryz.underlying44 rfl w.heap.size _ [] rfl (Row.empty w (Nat.le_refl _)) a 0 c (l.take 0) rfl (by simp) ((h.take 0).on ((Below.refl _ _).alloc (Nat.le_refl _) _)) HZN.out (by simp) (by simp) ?_; intro v2 w2 hr2 hg2))
      go_ret
      exact HFIN.out _ _ (by rw [HR.out]; exact hr2.out) (hg2.out _ _ ((Below.refl _ _).alloc (Nat.le_refl _) _) (Nat.le_refl _))
    | succ m =>
      obtain ⟨b, o, rfl, hb, hc⟩ := h.plain (by omega)
      have c1 := hc m (by omega)
      obtain ⟨x, hx⟩ : ∃ x, l[m]'(by omega) = x := ⟨_, rfl⟩
      rw [hx] at c1
      have HX := Lib.hid hx; clear hx hc
      have n0 : decide ((0 : Int) < (m : Int) + 1) = true := decide_eq_true (by omega)
      by_cases hx0 : x = 0
      · subst hx0
        go_wp2_with fail
        go_round
        case rel =>
          refine ⟨m, by omega, by go_num, fun j hj hk => ?_⟩
          by_cases e : j = m
          · subst e; exact HX.out
          · exact HZ.out j hj (by omega)
        case measure => simp [intOf]
      · have HR := Lib.hid (Na.rt_of h.ok (k := m + 1) hk HZ.out (fun _ h2 => by have := HX.out; simpa [this] using hx0)).2
        have e0 : ((x : Int) == 0) = false := by simpa using hx0
        have hm1 : m + 1 ≤ c := by omega
        clear hx0
        go_wp2_with (first | (at_builtin; refine app_u32 rfl _ _ 44 Tryz.underlying44 rfl w.heap.size _ [] rfl (Row.empty w (Nat.le_refl _)) (some ⟨b, o, none⟩) (m + 1) c (l.take (m + 1)) rfl (by rw [List.length_take]; omega) ((h.take (m + 1)).on ((Below.refl _ _).alloc (Nat.le_refl _) _)) HZN.out (by rw [List.length_take]; simp; omega) (by simp) ?_; intro v2 w2 hr2 hg2))
        go_ret
        exact HFIN.out _ _ (by rw [HR.out]; exact hr2.out) (hg2.out _ _ ((Below.refl _ _).alloc (Nat.le_refl _) _) (Nat.le_refl _))

set_option maxHeartbeats 400000 in
theorem r1_of_any (v : Nat) (hv : v < 18446744073709551616) (w : World) :
    Calls Tryz.prog 44 #[.int .u64 v] w (GivesZ (Na.limbs v) w) := by
  have hok : Na.OK [v % 4294967296, v / 4294967296] := fun x hx => by
    simp only [List.mem_cons, List.not_mem_nil, or_false] at hx
    show x < 4294967296
    omega
  have hval : Na.cut [v % 4294967296, v / 4294967296] = Na.limbs v := by
    rw [Na.cut]; congr 1
    simp only [Na.val, Na.B]; omega
  have h0 : Blk (w.alloc (Obj.cells #[Value.int IntKind.u32 ((v : Int) % 4294967296), Value.int IntKind.u32 ((v : Int) / 4294967296)] 72)) w.heap.size [v % 4294967296, v / 4294967296] := by
    show (w.heap.push _)[w.heap.size]? = _; simp [u32s]
  have H1 := Lib.hid (show Calls Tryz.prog 107 #[.slice (some ⟨w.heap.size, 0, none⟩) 2 2] (w.alloc (Obj.cells #[Value.int IntKind.u32 ((v : Int) % 4294967296), Value.int IntKind.u32 ((v : Int) / 4294967296)] 72)) (GivesZ (Na.limbs v) (w.alloc (Obj.cells #[Value.int IntKind.u32 ((v : Int) % 4294967296), Value.int IntKind.u32 ((v : Int) / 4294967296)] 72))) from hval ▸ r1_trim_any _ _ _ _ (h0.sl hok (Nat.le_refl _)) (fun e => by cases e) (by simp))
  have hB : Below w.heap.size w (w.alloc (Obj.cells #[Value.int IntKind.u32 ((v : Int) % 4294967296), Value.int IntKind.u32 ((v : Int) / 4294967296)] 72)) := (Below.refl _ _).alloc (Nat.le_refl _) _
  clear h0 hok hval
  go_enter Tryz.func44, Tryz.ntmps44
  go_wp2_with (first | (go_at_call 107; (with_reducible refine (H1.out).mono ?_); rintro e w1 ⟨a, c, rfl, hs, hz, hr, hb⟩))
  go_ret
  exact ⟨a, c, rfl, hs, hz, hr.mono (by simp), hB.trans (hb.mono hB.size)⟩
end Go.Proofs.YtjnkbifafbjckaaGreatDoor

/- The reference: Value, Len, Cmp. -/
namespace Go.Proofs.YtjnkbifafbjckaaGreatDoor
set_option linter.all false
open Go.RowKit

section
variable (a : Option Addr) (c : Nat) (l : List Nat) (w : World) (h : Sl w a c l) (hz : a = none → c = 0) (hn : l.length ≤ 1000000)
include h hz hn

set_option maxHeartbeats 1000000 in
theorem r1_len_any : Calls Tryz.prog 79 #[.slice a l.length c] w (RetB (.int .i64 (Na.bitLen (Na.val l) : Nat)) w) := by
  have H1 := Lib.hid (r1_trim_any a c l w h hz hn)
  have hle := (Na.rt_le h.ok).1
  obtain ⟨q, hq⟩ : ∃ q, q = Na.cut l := ⟨_, rfl⟩
  have hnil := Na.cut_nil_iff l
  replace hle : q.length ≤ l.length := by rw [hq]; exact hle
  have hok := Na.ok_cut l
  rw [← hq] at H1 hnil hok
  obtain ⟨n, hqn⟩ : ∃ n, n = q.length := ⟨_, rfl⟩
  cases n with
  | zero =>
    have hz0 : Na.val l = 0 := hnil.1 (List.eq_nil_of_length_eq_zero hqn.symm)
    have e1 := Lib.hid (show Na.bitLen (Na.val l) = 0 by rw [hz0]; rfl)
    have hql : q.length = 0 := hqn.symm
    clear hqn hz0 hle hq
    go_enter Tryz.func79, Tryz.ntmps79
    go_wp2_with (first | (go_at_call 107; (with_reducible refine (H1.out).mono ?_); rintro e w1 ⟨a1, c1, rfl, hs1, hz1, hr1, hb1⟩))
    go_ret
    exact RetB.of (by rw [e1.out]; rfl) hb1
  | succ n =>
    have hnq : n < q.length := by omega
    have hb := Na.bitLen_at l q hq n hqn.symm
    have hxl := hok _ (List.getElem_mem hnq)
    have hlast : q[n]'hnq ≠ 0 := by
      have hne : Na.cut l ≠ [] := by rw [← hq]; intro e; rw [e] at hnq; simp at hnq
      have h1 : (Na.cut l).getLast hne ≠ 0 := Na.limbs_last (Na.val l) hne
      rw [List.getLast_eq_getElem] at h1
      simp only [← hq, ← hqn] at h1
      simpa using h1
    rw [Na.libBitLen _ hlast (Nat.lt_trans hxl (by decide))] at hb
    have hbx : Na.bitLen (q[n]'hnq) = Nat.log2 (q[n]'hnq) + 1 := by rw [Na.bitLen, if_neg hlast]
    rw [← hbx] at hb
    have hx32 : q[n]'hnq < 4294967296 := hxl
    obtain ⟨x, hx⟩ : ∃ x, x = q[n]'hnq := ⟨_, rfl⟩
    rw [← hx] at hb hx32
    have HX := Lib.hid hx
    have HB := Lib.hid hb
    have HNQ := Lib.hid hqn
    have hn6 : n ≤ 1000000 := by omega
    clear hx hb hqn hbx hlast hxl hok hnil hle hq
    have hql : q.length = n + 1 := HNQ.out.symm
    go_enter Tryz.func79, Tryz.ntmps79
    go_wp2_with (first | (go_at_call 107; (with_reducible refine (H1.out).mono ?_); rintro e w1 ⟨a1, c1, rfl, hs1, hz1, hr1, hb1⟩; obtain ⟨b, o, rfl, hb, hcell⟩ := hs1.plain (by omega); have cx := hcell n (by omega); rw [← HX.out] at cx; clear hcell))
    go_loop [4, 5] (fun nv xv => ∃ m y : Nat, nv = .int .i64 m ∧ xv = .int .u32 y ∧ y ≤ x ∧ m ≤ 40000000 ∧ Hid (m + Na.bitLen y = Na.bitLen (Na.val l))) (fun _ xv => (intOf xv).toNat)
    case atStart => exact ⟨32 * n, x, by go_num, rfl, Nat.le_refl _, by omega, Lib.hid HB.out.symm⟩
    case round =>
      obtain ⟨m, y, rfl, rfl, hy, hm, HM⟩ := hrel
      by_cases hy0 : y = 0
      · have e := Lib.hid (show Na.bitLen (Na.val l) = m by rw [← HM.out, hy0]; rfl)
        have hy1 : y ≤ 0 := by omega
        clear hy0
        go_wp2_with fail
        go_ret
        exact RetB.of (by rw [e.out]; rfl) hb1
      · have hy1 : 0 < y := by omega
        have hbl := Na.bitLen_half hy0
        have HBL := Lib.hid hbl
        have hm2 : m + 1 ≤ 40000000 := by
          have h1 := HM.out
          have h2 := Na.bitLen_pos' hy0
          have h3 := HB.out
          have h4 : Na.bitLen x ≤ 32 := Na.bitLen_le' (k := 32) (by omega)
          omega
        clear hbl hy0
        go_wp2_with fail
        go_round
        case rel => exact ⟨m + 1, y / 2, by go_num, by congr 1, by omega, hm2, Lib.hid (by rw [← HM.out, HBL.out]; omega)⟩
        case measure => simp [intOf]; omega
end
end Go.Proofs.YtjnkbifafbjckaaGreatDoor

/- The reference: Cmp. -/
namespace Go.Proofs.YtjnkbifafbjckaaGreatDoor
set_option linter.all false
open Go.RowKit

def cmpLoop1 (q r : List Nat) (w : World) (iv : Value) (wr : World) : Prop := ∃ k : Nat, k ≤ q.length ∧ iv = .int .i64 ((k : Int) - 1) ∧ Hid (q.drop k = r.drop k) ∧ Hid (Below w.heap.size w wr)

set_option maxHeartbeats 2000000 in
theorem r1_cmp_any (a : Option Addr) (c : Nat) (l : List Nat) (b : Option Addr) (d : Nat) (m : List Nat) (w : World) (h : Sl w a c l) (hz : a = none → c = 0) (h' : Sl w b d m) (hz' : b = none → d = 0) (hn : l.length ≤ 1000000) (hm : m.length ≤ 1000000) :
    Calls Tryz.prog 106 #[.slice a l.length c, .slice b m.length d] w (RetB (.int .i64 (Na.cmp l m)) w) := by
  have H1 := Lib.hid (r1_trim_any a c l w h hz hn)
  have H2 := Lib.hid (fun w1 (hb : Below w.heap.size w w1) => r1_trim_any b d m w1 (h'.on hb) hz' hm)
  have v1 := Na.val_cut (a := l)
  have v2 := Na.val_cut (a := m)
  have hlt : (Na.cut l).length < (Na.cut m).length → Na.val l < Na.val m := fun e => Na.lt_of_rt h.ok h'.ok e
  have hgt : (Na.cut m).length < (Na.cut l).length → Na.val m < Na.val l := fun e => Na.lt_of_rt h'.ok h.ok e
  have hl1 : (Na.cut l).length ≤ 1000000 := Nat.le_trans (Na.rt_le h.ok).1 hn
  have hl2 : (Na.cut m).length ≤ 1000000 := Nat.le_trans (Na.rt_le h'.ok).1 hm
  obtain ⟨q, hq⟩ : ∃ q, q = Na.cut l := ⟨_, rfl⟩
  obtain ⟨r, hr⟩ : ∃ q, q = Na.cut m := ⟨_, rfl⟩
  rw [← hq] at H1 v1 hlt hgt hl1
  rw [← hr] at H2 v2 hlt hgt hl2
  clear hq hr
  have V1 := Lib.hid v1; have V2 := Lib.hid v2
  by_cases he : q.length = r.length
  · have HE := Lib.hid he
    have hql : q.length = r.length := he
    clear hlt hgt v1 v2 he
    go_enter Tryz.func106, Tryz.ntmps106
    go_wp2_with (first | (go_at_call 107; (with_reducible refine (H1.out).mono ?_); rintro e w1 ⟨a1, c1, rfl, hs1, hz1, hr1, hb1⟩) | (go_at_call 107; (with_reducible refine (H2.out w1 hb1).mono ?_); rintro e w2 ⟨a2, c2, rfl, hs2, hz2, hr2, hb2⟩))
    have hS1 := hs1.on hb2
    have HB2 := Lib.hid (hb1.trans (hb2.mono hb1.size))
    clear hr1 hr2 hs1
    go_loopw [7] (cmpLoop1 q r w2) (fun i _ => (intOf i + 1).toNat)
    case atStart => exact ⟨q.length, Nat.le_refl _, by rw [HE.out], Lib.hid (by rw [List.drop_length, HE.out, List.drop_length]), Lib.hid (Below.refl _ _)⟩
    case round =>
      obtain ⟨k, hk, rfl, HD, HB⟩ := hrel
      cases k with
      | zero =>
        have e := Lib.hid (Na.cmp_eq (a := l) (b := m) (by rw [← V1.out, ← V2.out]; have := HD.out; rw [List.drop_zero, List.drop_zero] at this; rw [this]))
        go_wp2_with fail
        go_ret
        exact RetB.of (by rw [e.out]; rfl) (HB2.out.trans (HB.out.mono HB2.out.size))
      | succ t =>
        have hq1 : t < q.length := by omega
        have hr1 : t < r.length := by rw [← HE.out]; exact hq1
        obtain ⟨b1, o1, rfl, hb1', hc1⟩ := (hS1.on HB.out).plain (by omega)
        obtain ⟨b2, o2, rfl, hb2', hc2⟩ := (hs2.on HB.out).plain (by omega)
        have k1 := hc1 t hq1
        have k2 := hc2 t hr1
        have G1 := Lib.hid (Na.cmp_at hS1.ok hs2.ok HE.out t hq1 hr1 HD.out)
        have G2 := Lib.hid (Na.cmp_at hs2.ok hS1.ok HE.out.symm t hr1 hq1 HD.out.symm)
        have EQ := Lib.hid (show q[t]'hq1 = r[t]'hr1 → q.drop t = r.drop t from fun e => by rw [List.drop_eq_getElem_cons hq1, List.drop_eq_getElem_cons hr1, e, HD.out])
        obtain ⟨x, hx⟩ : ∃ x, q[t]'hq1 = x := ⟨_, rfl⟩
        obtain ⟨y, hy⟩ : ∃ y, r[t]'hr1 = y := ⟨_, rfl⟩
        rw [hx] at k1 G1 G2 EQ; rw [hy] at k2 G1 G2 EQ
        have hti : (((t + 1 : Nat) : Int) - 1) = (t : Int) := by omega
        rw [hti]
        have htr : t < r.length := hr1
        clear hx hy hc1 hc2 HD hti
        by_cases hxy : x < y
        · have e := Lib.hid (Na.cmp_lt (a := l) (b := m) (by rw [← V1.out, ← V2.out]; exact G1.out hxy))
          go_wp2_with fail
          go_quiet (fail)
          go_wp2_with fail
          go_ret
          exact RetB.of (by rw [e.out]; rfl) (HB2.out.trans ((below_drewN' HB.out _).mono HB2.out.size))
        · by_cases hyx : y < x
          · have e := Lib.hid (Na.cmp_gt (a := l) (b := m) (by rw [← V1.out, ← V2.out]; exact G2.out hyx))
            go_wp2_with fail
            go_quiet (fail)
            go_wp2_with fail
            go_quiet (fail)
            go_wp2_with fail
            go_ret
            exact RetB.of (by rw [e.out]; rfl) (HB2.out.trans ((below_drewN' (below_drewN' HB.out _) _).mono HB2.out.size))
          · obtain rfl : x = y := by omega
            have EQ2 := Lib.hid (EQ.out rfl)
            clear EQ G1 G2
            go_wp2_with fail
            go_quiet (fail)
            go_wp2_with fail
            go_quiet (fail)
            go_wp2_with fail
            go_roundw
            case rel => exact ⟨t, by omega, rfl, EQ2, Lib.hid (below_drewN' HB.out _)⟩
            case measure => simp [intOf]
  · by_cases hlk : q.length < r.length
    · have e := Lib.hid (Na.cmp_lt (hlt hlk))
      have b0 : ((q.length : Int) != r.length) = true := by simp; omega
      clear hlt hgt he v1 v2
      go_enter Tryz.func106, Tryz.ntmps106
      go_wp2_with (first | (go_at_call 107; (with_reducible refine (H1.out).mono ?_); rintro e w1 ⟨a1, c1, rfl, hs1, hz1, hr1, hb1⟩) | (go_at_call 107; (with_reducible refine (H2.out w1 hb1).mono ?_); rintro e w2 ⟨a2, c2, rfl, hs2, hz2, hr2, hb2⟩))
      go_ret
      exact RetB.of (by rw [e.out]; rfl) (hb1.trans (hb2.mono hb1.size))
    · have e := Lib.hid (Na.cmp_gt (hgt (by omega)))
      have b0 : ((q.length : Int) != r.length) = true := by simp; omega
      clear hlt hgt he v1 v2
      go_enter Tryz.func106, Tryz.ntmps106
      go_wp2_with (first | (go_at_call 107; (with_reducible refine (H1.out).mono ?_); rintro e w1 ⟨a1, c1, rfl, hs1, hz1, hr1, hb1⟩) | (go_at_call 107; (with_reducible refine (H2.out w1 hb1).mono ?_); rintro e w2 ⟨a2, c2, rfl, hs2, hz2, hr2, hb2⟩))
      go_ret
      exact RetB.of (by rw [e.out]; rfl) (hb1.trans (hb2.mono hb1.size))
end Go.Proofs.YtjnkbifafbjckaaGreatDoor
