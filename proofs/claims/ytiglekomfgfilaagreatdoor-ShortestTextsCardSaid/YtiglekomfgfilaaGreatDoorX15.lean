/- append of limbs to a list of the call's own. -/
import Derived.Test.YtiglekomfgfilaaGreatDoorX1
import Derived.Laws.AppendOwn
import Derived.Laws.OwnMore
import Derived.Laws.AppendOwnNone
import Derived.Test.YtiglekomfgfilaaGreatDoorX11
import Derived.Test.YtiglekomfgfilaaGreatDoorX6
namespace Go.Proofs.YtiglekomfgfilaaGreatDoor
set_option linter.all false
open Go.RowKit
def Row (w : World) (B : Nat) (v : Value) (l : List Nat) : Prop := w.ownsRow B 81 1 v l.length (u32s l)
theorem Row.sl {w : World} {B : Nat} {v : Value} {l : List Nat} (h : Row w B v l) (hok : Na.OK l) : ∃ a c, v = .slice a l.length c ∧ Sl w a c l ∧ Own w B a l.length := by
  have h0 := h
  rcases h.2 with ⟨rfl, hn⟩ | ⟨g, cap, cur, rfl, hb, hg, h1, h2, h3, h4⟩
  · obtain rfl : l = [] := List.eq_nil_of_length_eq_zero hn
    exact ⟨none, 0, rfl, Sl.nil _ _ _, Own.nil _ _ _⟩
  · refine ⟨some ⟨g, 0, none⟩, cap, rfl, ⟨fun _ => ⟨g, 0, rfl, (Array.getElem?_eq_some_iff.1 hg).1, fun k hk => ?_⟩, h1, hok⟩, fun _ => ⟨g, 0, rfl, hb, fun k _ => ?_⟩⟩
    · have := World.ownsRow.cellAt h0 k (by omega)
      rw [Nat.zero_add, this, u32s_get l k hk]
    · rw [Nat.zero_add]; exact World.ownsRow.frozenAt h0 k
theorem Row.empty (w : World) {B : Nat} (hB : B ≤ w.heap.size) : Row (w.alloc (.cells #[] 81)) B (.slice (some ⟨w.heap.size, 0, none⟩) 0 0) [] :=
  World.ownsRow_lit w #[] 0 hB (Nat.zero_le _) rfl
theorem Row.nil (w : World) (B : Nat) : Row w B (.slice none 0 0) [] := World.ownsRow_nil _ _ _ _
theorem Row.lt {w : World} {B : Nat} {v : Value} {l : List Nat} (h : Row w B v l) : ∀ k, v.ownBlock = some k → B ≤ k ∧ k < w.heap.size := World.ownsRow.lt h
theorem Row.mono {w : World} {B B' : Nat} {v : Value} {l : List Nat} (h : Row w B v l) (hB : B' ≤ B) : Row w B' v l := by
  refine ⟨h.1, h.2.imp id ?_⟩
  rintro ⟨g, cap, cur, h1, h2, h3⟩
  exact ⟨g, cap, cur, h1, by omega, h3⟩
theorem Row.alloc {w : World} {B : Nat} {v : Value} {l : List Nat} (h : Row w B v l) (o : Obj) : Row (w.alloc o) B v l := World.ownsRow.alloc h o
theorem app_u32 {w : World} {ops : Array Oper} {rest : List Oper} {o : Oper} {act : Act} {Q : Exit → Act → World → Prop} (hgd : o.guard = none) (s x : Operand) (t : TypeId) (ht : Tryz.prog.underlying t = some (.slice 81))
    (hop : o.op = .call { callee := .builtin .append, args := #[s, x], argTypes := #[t, t] }) (B : Nat) (v : Value) (l : List Nat) (hs : act.eval s = v) (hown : Row w B v l) (ad : Option Addr) (n c : Nat) (m : List Nat) (hx : act.eval x = .slice ad n c) (hn : m.length = n) (hm : Sl w ad c m)
    (hnil : ad = none → c = 0) (hlen : l.length + m.length ≤ 1000000) (hB : B ≤ w.heap.size)
    (hK : ∀ v' w', Hid (Row w' B v' (l ++ m)) → Hid (∀ B' w0, Below B' w0 w → B' ≤ B → Below B' w0 w') → wpList Tryz.prog ops Q rest (act.put o.dst v') w') : wpList Tryz.prog ops Q (o :: rest) act w := by
  subst hn
  obtain ⟨ti, hi, hz0, hz1, hz2⟩ := info_parts infoU32
  cases ad with
  | none =>
    have hm0 : m = [] := by
      rcases Nat.eq_zero_or_pos m.length with h | h
      · exact List.eq_nil_of_length_eq_zero h
      · obtain ⟨_, _, e, _⟩ := hm.plain h; cases e
    subst hm0
    obtain rfl := hnil rfl
    exact wpList_append_own_none hgd s x t hop B 81 ti 1 ht hi v l.length (u32s l) hs hown hx (hK v w (Lib.hid (by rw [List.append_nil]; exact hown)) (Lib.hid fun B' w0 hb _ => hb))
  | some a =>
    refine wpList_append_own w hgd s x t hop B 81 ti (.int .u32 0) 1 4 ht hi hz0 hz1 hz2 rfl (by decide) v l.length (u32s l) hs hown a m.length c (u32s m) hx (by rw [u32s_len]; omega) ?_ (u32s_one _) (by unfold maxLen; omega) (by omega) hB ?_
    · intro j u hu
      have hj : j < m.length := by have := (List.getElem?_eq_some_iff.1 hu).1; rwa [u32s_len] at this
      obtain ⟨ad', e, hc⟩ := hm.cells (by omega)
      cases e
      exact hc j u hu
    · intro v' w' h1 h2 _
      refine hK v' w' (Lib.hid ?_) (Lib.hid fun B' w0 hb hB' => hb.grown h2 (by omega) (fun k e => by have := (hown.lt k e).1; omega))
      show w'.ownsRow _ _ _ _ (l ++ m).length _
      rw [List.length_append, u32s, List.map_append]; exact h1
end Go.Proofs.YtiglekomfgfilaaGreatDoor

/- The reference: Trim, Of. -/
namespace Go.Proofs.YtiglekomfgfilaaGreatDoor
set_option maxRecDepth 100000
set_option maxHeartbeats 1000000
set_option linter.all false
open Go.RowKit
def GivesW (l : List Nat) (w : World) (e : Ending) (w' : World) : Prop := ∃ v, e = .returned v ∧ Row w' w.heap.size v l ∧ Below w.heap.size w w'
theorem Row.slz {w : World} {B : Nat} {v : Value} {l : List Nat} (h : Row w B v l) (hok : Na.OK l) : ∃ a c, v = .slice a l.length c ∧ Sl w a c l ∧ (a = none → c = 0) := by
  have h0 := h
  rcases h.2 with ⟨rfl, hn⟩ | ⟨g, cap, cur, rfl, hb, hg, h1, h2, h3, h4⟩
  · obtain rfl : l = [] := List.eq_nil_of_length_eq_zero hn
    exact ⟨none, 0, rfl, Sl.nil _ _ _, fun _ => rfl⟩
  · obtain ⟨a, c, e, hs, _⟩ := h0.sl hok
    exact ⟨a, c, e, hs, fun e2 => by rw [e2] at e; simp at e⟩
def GivesZ (l : List Nat) (w : World) (e : Ending) (w' : World) : Prop := ∃ a c, e = .returned (.slice a l.length c) ∧ Sl w' a c l ∧ (a = none → c = 0) ∧ Row w' w.heap.size (.slice a l.length c) l ∧ Below w.heap.size w w'
theorem GivesW.z {l : List Nat} {w w' : World} {e : Ending} (h : GivesW l w e w') (hok : Na.OK l) : GivesZ l w e w' := by
  obtain ⟨v, rfl, hr, hb⟩ := h
  obtain ⟨a, c, rfl, hs, hz⟩ := hr.slz hok
  exact ⟨a, c, rfl, hs, hz, hr, hb⟩
theorem r1_trim_any (a : Option Addr) (c : Nat) (l : List Nat) (w : World) (h : Sl w a c l) (hz : a = none → c = 0) (hn : l.length ≤ 1000000) :
    Calls Tryz.prog 83 #[.slice a l.length c] w (GivesZ (Na.cut l) w) := by
  have HZN := Lib.hid hz
  have hcap := h.cap
  have HFIN := Lib.hid (fun v w' (hr : Row w' w.heap.size v (Na.cut l)) (hb : Below w.heap.size w w') => (GivesW.z ⟨v, rfl, hr, hb⟩ (Na.ok_cut l) : GivesZ (Na.cut l) w (.returned v) w'))
  clear hz
  go_enter Tryz.func83, Tryz.ntmps83
  go_wp2_with fail
  go_loop [3] (fun i => ∃ k : Nat, k ≤ l.length ∧ i = .int .i64 k ∧ ∀ j (hj : j < l.length), k ≤ j → l[j] = 0) (fun i => (intOf i).toNat)
  case atStart => exact ⟨l.length, Nat.le_refl _, rfl, fun j hj hk => by omega⟩
  case round =>
    obtain ⟨k, hk, rfl, hz⟩ := hrel
    have HZ := Lib.hid hz; clear hz
    cases k with
    | zero =>
      have HR := Lib.hid (Na.rt_of h.ok (k := 0) hk HZ.out (fun h0 => absurd h0 (by omega))).2
      go_wp2_with (first | (at_builtin; refine app_u32 rfl _ _ 64 Tryz.underlying64 rfl w.heap.size _ [] rfl (Row.empty w (Nat.le_refl _)) a 0 c (l.take 0) rfl (by simp) ((h.take 0).on ((Below.refl _ _).alloc (Nat.le_refl _) _)) HZN.out (by simp) (by simp) ?_; intro v2 w2 hr2 hg2))
      go_ret
      exact HFIN.out _ _ (by rw [HR.out]; exact hr2.out) (hg2.out _ _ ((Below.refl _ _).alloc (Nat.le_refl _) _) (Nat.le_refl _))
    | succ m =>
      obtain ⟨b, o, rfl, hb, hc⟩ := h.plain (by omega)
      have c1 := hc m (by omega)
      obtain ⟨x, hx⟩ : ∃ x, l[m]'(by omega) = x := ⟨_, rfl⟩
      rw [hx] at c1
      have HX := Lib.hid hx; clear hx hc
      have n0 : decide ((0 : Int) < (m : Int) + 1) = true := decide_eq_true (by omega)
      by_cases hx0 : x = 0
      · subst hx0
        go_wp2_with fail
        go_round
        case rel =>
          refine ⟨m, by omega, by go_num, fun j hj hk => ?_⟩
          by_cases e : j = m
          · subst e; exact HX.out
          · exact HZ.out j hj (by omega)
        case measure => simp [intOf]
      · have HR := Lib.hid (Na.rt_of h.ok (k := m + 1) hk HZ.out (fun _ h2 => by have := HX.out; simpa [this] using hx0)).2
        have e0 : ((x : Int) == 0) = false := by simpa using hx0
        have hm1 : m + 1 ≤ c := by omega
        clear hx0
        go_wp2_with (first | (at_builtin; refine app_u32 rfl _ _ 64 Tryz.underlying64 rfl w.heap.size _ [] rfl (Row.empty w (Nat.le_refl _)) (some ⟨b, o, none⟩) (m + 1) c (l.take (m + 1)) rfl (by rw [List.length_take]; omega) ((h.take (m + 1)).on ((Below.refl _ _).alloc (Nat.le_refl _) _)) HZN.out (by rw [List.length_take]; simp; omega) (by simp) ?_; intro v2 w2 hr2 hg2))
        go_ret
        exact HFIN.out _ _ (by rw [HR.out]; exact hr2.out) (hg2.out _ _ ((Below.refl _ _).alloc (Nat.le_refl _) _) (Nat.le_refl _))
theorem r1_of_any (v : Nat) (hv : v < 18446744073709551616) (w : World) :
    Calls Tryz.prog 89 #[.int .u64 v] w (GivesZ (Na.limbs v) w) := by
  have hok : Na.OK [v % 4294967296, v / 4294967296] := fun x hx => by
    simp only [List.mem_cons, List.not_mem_nil, or_false] at hx
    show x < 4294967296
    omega
  have hval : Na.cut [v % 4294967296, v / 4294967296] = Na.limbs v := by
    rw [Na.cut]; congr 1
    simp only [Na.val, Na.B]; omega
  have h0 : Blk (w.alloc (Obj.cells #[Value.int IntKind.u32 ((v : Int) % 4294967296), Value.int IntKind.u32 ((v : Int) / 4294967296)] 81)) w.heap.size [v % 4294967296, v / 4294967296] := by
    show (w.heap.push _)[w.heap.size]? = _; simp [u32s]
  have H1 := Lib.hid (show Calls Tryz.prog 83 #[.slice (some ⟨w.heap.size, 0, none⟩) 2 2] (w.alloc (Obj.cells #[Value.int IntKind.u32 ((v : Int) % 4294967296), Value.int IntKind.u32 ((v : Int) / 4294967296)] 81)) (GivesZ (Na.limbs v) (w.alloc (Obj.cells #[Value.int IntKind.u32 ((v : Int) % 4294967296), Value.int IntKind.u32 ((v : Int) / 4294967296)] 81))) from hval ▸ r1_trim_any _ _ _ _ (h0.sl hok (Nat.le_refl _)) (fun e => by cases e) (by simp))
  have hB : Below w.heap.size w (w.alloc (Obj.cells #[Value.int IntKind.u32 ((v : Int) % 4294967296), Value.int IntKind.u32 ((v : Int) / 4294967296)] 81)) := (Below.refl _ _).alloc (Nat.le_refl _) _
  clear h0 hok hval
  go_enter Tryz.func89, Tryz.ntmps89
  go_wp2_with (first | (go_at_call 83; (with_reducible refine (H1.out).mono ?_); rintro e w1 ⟨a, c, rfl, hs, hz, hr, hb⟩))
  go_ret
  exact ⟨a, c, rfl, hs, hz, hr.mono (by simp), hB.trans (hb.mono hB.size)⟩
end Go.Proofs.YtiglekomfgfilaaGreatDoor

/- The reference: Value, Len, Cmp. -/
namespace Go.Proofs.YtiglekomfgfilaaGreatDoor
set_option maxRecDepth 100000
set_option maxHeartbeats 1000000
set_option linter.all false
open Go.RowKit
section
variable (a : Option Addr) (c : Nat) (l : List Nat) (w : World) (h : Sl w a c l) (hz : a = none → c = 0) (hn : l.length ≤ 1000000)
include h hz hn
theorem r1_len_any : Calls Tryz.prog 52 #[.slice a l.length c] w (RetB (.int .i64 (Na.bitLen (Na.val l) : Nat)) w) := by
  have H1 := Lib.hid (r1_trim_any a c l w h hz hn)
  have hle := (Na.rt_le h.ok).1
  obtain ⟨q, hq⟩ : ∃ q, q = Na.cut l := ⟨_, rfl⟩
  have hnil := Na.cut_nil_iff l
  replace hle : q.length ≤ l.length := by rw [hq]; exact hle
  have hok := Na.ok_cut l
  rw [← hq] at H1 hnil hok
  obtain ⟨n, hqn⟩ : ∃ n, n = q.length := ⟨_, rfl⟩
  cases n with
  | zero =>
    have hz0 : Na.val l = 0 := hnil.1 (List.eq_nil_of_length_eq_zero hqn.symm)
    have e1 := Lib.hid (show Na.bitLen (Na.val l) = 0 by rw [hz0]; rfl)
    have hql : q.length = 0 := hqn.symm
    clear hqn hz0 hle hq
    go_enter Tryz.func52, Tryz.ntmps52
    go_wp2_with (first | (go_at_call 83; (with_reducible refine (H1.out).mono ?_); rintro e w1 ⟨a1, c1, rfl, hs1, hz1, hr1, hb1⟩))
    go_ret
    exact RetB.of (by rw [e1.out]; rfl) hb1
  | succ n =>
    have hnq : n < q.length := by omega
    have hb := Na.bitLen_at l q hq n hqn.symm
    have hxl := hok _ (List.getElem_mem hnq)
    have hlast : q[n]'hnq ≠ 0 := by
      have hne : Na.cut l ≠ [] := by rw [← hq]; intro e; rw [e] at hnq; simp at hnq
      have h1 : (Na.cut l).getLast hne ≠ 0 := Na.limbs_last (Na.val l) hne
      rw [List.getLast_eq_getElem] at h1
      simp only [← hq, ← hqn] at h1
      simpa using h1
    rw [Na.libBitLen _ hlast (Nat.lt_trans hxl (by decide))] at hb
    have hbx : Na.bitLen (q[n]'hnq) = Nat.log2 (q[n]'hnq) + 1 := by rw [Na.bitLen, if_neg hlast]
    rw [← hbx] at hb
    have hx32 : q[n]'hnq < 4294967296 := hxl
    obtain ⟨x, hx⟩ : ∃ x, x = q[n]'hnq := ⟨_, rfl⟩
    rw [← hx] at hb hx32
    have HX := Lib.hid hx
    have HB := Lib.hid hb
    have HNQ := Lib.hid hqn
    have hn6 : n ≤ 1000000 := by omega
    clear hx hb hqn hbx hlast hxl hok hnil hle hq
    have hql : q.length = n + 1 := HNQ.out.symm
    go_enter Tryz.func52, Tryz.ntmps52
    go_wp2_with (first | (go_at_call 83; (with_reducible refine (H1.out).mono ?_); rintro e w1 ⟨a1, c1, rfl, hs1, hz1, hr1, hb1⟩; obtain ⟨b, o, rfl, hb, hcell⟩ := hs1.plain (by omega); have cx := hcell n (by omega); rw [← HX.out] at cx; clear hcell))
    go_loop [4, 5] (fun nv xv => ∃ m y : Nat, nv = .int .i64 m ∧ xv = .int .u32 y ∧ y ≤ x ∧ m ≤ 40000000 ∧ Hid (m + Na.bitLen y = Na.bitLen (Na.val l))) (fun _ xv => (intOf xv).toNat)
    case atStart => exact ⟨32 * n, x, by go_num, rfl, Nat.le_refl _, by omega, Lib.hid HB.out.symm⟩
    case round =>
      obtain ⟨m, y, rfl, rfl, hy, hm, HM⟩ := hrel
      by_cases hy0 : y = 0
      · have e := Lib.hid (show Na.bitLen (Na.val l) = m by rw [← HM.out, hy0]; rfl)
        have hy1 : y ≤ 0 := by omega
        clear hy0
        go_wp2_with fail
        go_ret
        exact RetB.of (by rw [e.out]; rfl) hb1
      · have hy1 : 0 < y := by omega
        have hbl := Na.bitLen_half hy0
        have HBL := Lib.hid hbl
        have hm2 : m + 1 ≤ 40000000 := by
          have h1 := HM.out
          have h2 := Na.bitLen_pos' hy0
          have h3 := HB.out
          have h4 : Na.bitLen x ≤ 32 := Na.bitLen_le' (k := 32) (by omega)
          omega
        clear hbl hy0
        go_wp2_with fail
        go_round
        case rel => exact ⟨m + 1, y / 2, by go_num, by congr 1, by omega, hm2, Lib.hid (by rw [← HM.out, HBL.out]; omega)⟩
        case measure => simp [intOf]; omega
end
end Go.Proofs.YtiglekomfgfilaaGreatDoor

/- The reference: Cmp. -/
namespace Go.Proofs.YtiglekomfgfilaaGreatDoor
set_option maxRecDepth 100000
set_option maxHeartbeats 2000000
set_option linter.all false
open Go.RowKit
def cmpLoop1 (q r : List Nat) (w : World) (iv : Value) (wr : World) : Prop := ∃ k : Nat, k ≤ q.length ∧ iv = .int .i64 ((k : Int) - 1) ∧ Hid (q.drop k = r.drop k) ∧ Hid (Below w.heap.size w wr)
theorem r1_cmp_any (a : Option Addr) (c : Nat) (l : List Nat) (b : Option Addr) (d : Nat) (m : List Nat) (w : World) (h : Sl w a c l) (hz : a = none → c = 0) (h' : Sl w b d m) (hz' : b = none → d = 0) (hn : l.length ≤ 1000000) (hm : m.length ≤ 1000000) :
    Calls Tryz.prog 85 #[.slice a l.length c, .slice b m.length d] w (RetB (.int .i64 (Na.cmp l m)) w) := by
  have H1 := Lib.hid (r1_trim_any a c l w h hz hn)
  have H2 := Lib.hid (fun w1 (hb : Below w.heap.size w w1) => r1_trim_any b d m w1 (h'.on hb) hz' hm)
  have v1 := Na.val_cut (a := l)
  have v2 := Na.val_cut (a := m)
  have hlt : (Na.cut l).length < (Na.cut m).length → Na.val l < Na.val m := fun e => Na.lt_of_rt h.ok h'.ok e
  have hgt : (Na.cut m).length < (Na.cut l).length → Na.val m < Na.val l := fun e => Na.lt_of_rt h'.ok h.ok e
  have hl1 : (Na.cut l).length ≤ 1000000 := Nat.le_trans (Na.rt_le h.ok).1 hn
  have hl2 : (Na.cut m).length ≤ 1000000 := Nat.le_trans (Na.rt_le h'.ok).1 hm
  obtain ⟨q, hq⟩ : ∃ q, q = Na.cut l := ⟨_, rfl⟩
  obtain ⟨r, hr⟩ : ∃ q, q = Na.cut m := ⟨_, rfl⟩
  rw [← hq] at H1 v1 hlt hgt hl1
  rw [← hr] at H2 v2 hlt hgt hl2
  clear hq hr
  have V1 := Lib.hid v1; have V2 := Lib.hid v2
  by_cases he : q.length = r.length
  · have HE := Lib.hid he
    have hql : q.length = r.length := he
    clear hlt hgt v1 v2 he
    go_enter Tryz.func85, Tryz.ntmps85
    go_wp2_with (first | (go_at_call 83; (with_reducible refine (H1.out).mono ?_); rintro e w1 ⟨a1, c1, rfl, hs1, hz1, hr1, hb1⟩) | (go_at_call 83; (with_reducible refine (H2.out w1 hb1).mono ?_); rintro e w2 ⟨a2, c2, rfl, hs2, hz2, hr2, hb2⟩))
    have hS1 := hs1.on hb2
    have HB2 := Lib.hid (hb1.trans (hb2.mono hb1.size))
    clear hr1 hr2 hs1
    go_loopw [7] (cmpLoop1 q r w2) (fun i _ => (intOf i + 1).toNat)
    case atStart => exact ⟨q.length, Nat.le_refl _, by rw [HE.out], Lib.hid (by rw [List.drop_length, HE.out, List.drop_length]), Lib.hid (Below.refl _ _)⟩
    case round =>
      obtain ⟨k, hk, rfl, HD, HB⟩ := hrel
      cases k with
      | zero =>
        have e := Lib.hid (Na.cmp_eq (a := l) (b := m) (by rw [← V1.out, ← V2.out]; have := HD.out; rw [List.drop_zero, List.drop_zero] at this; rw [this]))
        go_wp2_with fail
        go_ret
        exact RetB.of (by rw [e.out]; rfl) (HB2.out.trans (HB.out.mono HB2.out.size))
      | succ t =>
        have hq1 : t < q.length := by omega
        have hr1 : t < r.length := by rw [← HE.out]; exact hq1
        obtain ⟨b1, o1, rfl, hb1', hc1⟩ := (hS1.on HB.out).plain (by omega)
        obtain ⟨b2, o2, rfl, hb2', hc2⟩ := (hs2.on HB.out).plain (by omega)
        have k1 := hc1 t hq1
        have k2 := hc2 t hr1
        have G1 := Lib.hid (Na.cmp_at hS1.ok hs2.ok HE.out t hq1 hr1 HD.out)
        have G2 := Lib.hid (Na.cmp_at hs2.ok hS1.ok HE.out.symm t hr1 hq1 HD.out.symm)
        have EQ := Lib.hid (show q[t]'hq1 = r[t]'hr1 → q.drop t = r.drop t from fun e => by rw [List.drop_eq_getElem_cons hq1, List.drop_eq_getElem_cons hr1, e, HD.out])
        obtain ⟨x, hx⟩ : ∃ x, q[t]'hq1 = x := ⟨_, rfl⟩
        obtain ⟨y, hy⟩ : ∃ y, r[t]'hr1 = y := ⟨_, rfl⟩
        rw [hx] at k1 G1 G2 EQ; rw [hy] at k2 G1 G2 EQ
        have hti : (((t + 1 : Nat) : Int) - 1) = (t : Int) := by omega
        rw [hti]
        have htr : t < r.length := hr1
        clear hx hy hc1 hc2 HD hti
        by_cases hxy : x < y
        · have e := Lib.hid (Na.cmp_lt (a := l) (b := m) (by rw [← V1.out, ← V2.out]; exact G1.out hxy))
          go_wp2_with fail
          go_quiet (fail)
          go_wp2_with fail
          go_ret
          exact RetB.of (by rw [e.out]; rfl) (HB2.out.trans ((below_drewN' HB.out _).mono HB2.out.size))
        · by_cases hyx : y < x
          · have e := Lib.hid (Na.cmp_gt (a := l) (b := m) (by rw [← V1.out, ← V2.out]; exact G2.out hyx))
            go_wp2_with fail
            go_quiet (fail)
            go_wp2_with fail
            go_quiet (fail)
            go_wp2_with fail
            go_ret
            exact RetB.of (by rw [e.out]; rfl) (HB2.out.trans ((below_drewN' (below_drewN' HB.out _) _).mono HB2.out.size))
          · obtain rfl : x = y := by omega
            have EQ2 := Lib.hid (EQ.out rfl)
            clear EQ G1 G2
            go_wp2_with fail
            go_quiet (fail)
            go_wp2_with fail
            go_quiet (fail)
            go_wp2_with fail
            go_roundw
            case rel => exact ⟨t, by omega, rfl, EQ2, Lib.hid (below_drewN' HB.out _)⟩
            case measure => simp [intOf]
  · by_cases hlk : q.length < r.length
    · have e := Lib.hid (Na.cmp_lt (hlt hlk))
      have b0 : ((q.length : Int) != r.length) = true := by simp; omega
      clear hlt hgt he v1 v2
      go_enter Tryz.func85, Tryz.ntmps85
      go_wp2_with (first | (go_at_call 83; (with_reducible refine (H1.out).mono ?_); rintro e w1 ⟨a1, c1, rfl, hs1, hz1, hr1, hb1⟩) | (go_at_call 83; (with_reducible refine (H2.out w1 hb1).mono ?_); rintro e w2 ⟨a2, c2, rfl, hs2, hz2, hr2, hb2⟩))
      go_ret
      exact RetB.of (by rw [e.out]; rfl) (hb1.trans (hb2.mono hb1.size))
    · have e := Lib.hid (Na.cmp_gt (hgt (by omega)))
      have b0 : ((q.length : Int) != r.length) = true := by simp; omega
      clear hlt hgt he v1 v2
      go_enter Tryz.func85, Tryz.ntmps85
      go_wp2_with (first | (go_at_call 83; (with_reducible refine (H1.out).mono ?_); rintro e w1 ⟨a1, c1, rfl, hs1, hz1, hr1, hb1⟩) | (go_at_call 83; (with_reducible refine (H2.out w1 hb1).mono ?_); rintro e w2 ⟨a2, c2, rfl, hs2, hz2, hr2, hb2⟩))
      go_ret
      exact RetB.of (by rw [e.out]; rfl) (hb1.trans (hb2.mono hb1.size))
end Go.Proofs.YtiglekomfgfilaaGreatDoor

/- The reference: Big, limb, Plus, Times, fits, Add, Mul, Twice, Shl, Pow, Bit, Shr. -/
namespace Go.Proofs.YtiglekomfgfilaaGreatDoor
set_option maxRecDepth 100000
set_option maxHeartbeats 4000000
set_option linter.all false
open Go.RowKit
def Na.limb (l : List Nat) (i : Nat) : Nat := (l[i]?).getD 0
theorem r1_limb_any (a : Option Addr) (c : Nat) (l : List Nat) (i : Nat) (w : World) (h : Sl w a c l) (hn : l.length ≤ 1000000) (hi : i ≤ 9223372036854775807) :
    Calls Tryz.prog 111 #[.slice a l.length c, .int .i64 i] w (Ret0 (.int .u64 (Na.limb l i : Nat)) w) := by
  by_cases hlt : i < l.length
  · obtain ⟨b, o, rfl, hb, hc⟩ := h.plain (by omega)
    have c1 := hc i hlt
    have hx := h.lt i hlt
    have e := Lib.hid (show Na.limb l i = l[i] by rw [Na.limb, List.getElem?_eq_getElem hlt]; rfl)
    obtain ⟨x, hxe⟩ : ∃ x, l[i] = x := ⟨_, rfl⟩
    rw [hxe] at c1 hx e
    clear hc hxe
    go_enter Tryz.func111, Tryz.ntmps111
    go_wp2
    go_ret
    exact Ret0.of (by rw [e.out]; rfl)
  · have e := Lib.hid (show Na.limb l i = 0 by rw [Na.limb, List.getElem?_eq_none (by omega)]; rfl)
    go_enter Tryz.func111, Tryz.ntmps111
    go_wp2
    go_ret
    exact Ret0.of (by rw [e.out]; rfl)
theorem lit_sl (w : World) (x : Nat) (hx : x < 4294967296) : Sl (w.alloc (.cells #[Value.int .u32 (x : Int)] 81)) (some ⟨w.heap.size, 0, none⟩) 1 [x] := by
  have hk : Blk (w.alloc (.cells #[Value.int .u32 (x : Int)] 81)) w.heap.size [x] := by
    show (w.heap.push _)[w.heap.size]? = _; simp [u32s]
  exact hk.sl (fun y hy => by rw [List.mem_singleton.1 hy]; exact hx) (Nat.le_refl _)
theorem Na.limb_lt {l : List Nat} (h : Na.OK l) (i : Nat) : Na.limb l i < 4294967296 := by
  rw [Na.limb]
  cases e : l[i]? with
  | none => decide
  | some x => obtain ⟨hi, rfl⟩ := List.getElem?_eq_some_iff.1 e; exact h _ (List.getElem_mem hi)
theorem Na.take_limb (l : List Nat) (k : Nat) : Na.val (l.take (k + 1)) = Na.val (l.take k) + Na.B ^ k * Na.limb l k := by
  by_cases h : k < l.length
  · rw [Na.val_take_succ l k h, Na.limb, List.getElem?_eq_getElem h]; rfl
  · rw [Na.take_more l k (by omega), Na.limb, List.getElem?_eq_none (by omega)]; rfl
theorem Na.ok_snoc {o : List Nat} {x : Nat} (h : Na.OK o) (hx : x < 4294967296) : Na.OK (o ++ [x]) := fun y hy => by
  rcases List.mem_append.1 hy with h1 | h1
  · exact h y h1
  · rw [List.mem_singleton.1 h1]; exact hx
theorem Na.plus_step {o P Q : List Nat} {k x y c s : Nat} (hl : o.length = k) (inv : Na.val o + Na.B ^ k * c = Na.val (P.take k) + Na.val (Q.take k)) (hP : Na.val (P.take (k + 1)) = Na.val (P.take k) + Na.B ^ k * x) (hQ : Na.val (Q.take (k + 1)) = Na.val (Q.take k) + Na.B ^ k * y) (hs : s = x + y + c) :
    Na.val (o ++ [s % 4294967296]) + Na.B ^ (k + 1) * (s / 4294967296) = Na.val (P.take (k + 1)) + Na.val (Q.take (k + 1)) := by
  have h1 := Na.split_digit (Na.B ^ k) s
  rw [Na.val_app, hl, hP, hQ, Nat.pow_succ]
  have h2 : Na.B ^ k * s = Na.B ^ k * x + Na.B ^ k * y + Na.B ^ k * c := by rw [hs, Nat.mul_add, Nat.mul_add]
  simp only [Na.val, Na.B, Nat.mul_zero, Nat.add_zero] at h1 h2 inv ⊢
  omega
theorem GivesZ.up {l : List Nat} {w w1 w' : World} {e : Ending} (h : GivesZ l w1 e w') (hb : Below w.heap.size w w1) : GivesZ l w e w' := by
  obtain ⟨a, c, rfl, hs, hz, hr, hb'⟩ := h
  exact ⟨a, c, rfl, hs, hz, hr.mono hb.size, hb.trans (hb'.mono hb.size)⟩
def plusLoop (P Q : List Nat) (w : World) (ov cv iv : Value) (wr : World) : Prop := ∃ (k c : Nat) (o : List Nat), k ≤ P.length + Q.length ∧ iv = .int .i64 k ∧ cv = .int .u64 c ∧ c ≤ 1 ∧ Hid (Row wr w.heap.size ov o) ∧ Hid (o.length = k) ∧ Hid (Na.OK o) ∧
  Hid (Na.val o + Na.B ^ k * c = Na.val (P.take k) + Na.val (Q.take k)) ∧ Hid (Below w.heap.size w wr) ∧ Hid (k ≤ P.length ∨ k ≤ Q.length)
theorem r1_plus_any (a : Option Addr) (c : Nat) (l : List Nat) (b : Option Addr) (d : Nat) (m : List Nat) (w : World) (h : Sl w a c l) (h' : Sl w b d m) (hn : l.length ≤ 100000) (hm : m.length ≤ 100000) :
    Calls Tryz.prog 79 #[.slice a l.length c, .slice b m.length d] w (GivesZ (Na.limbs (Na.val l + Na.val m)) w) := by
  have HS := Lib.hid h; have HS' := Lib.hid h'
  clear h h'
  go_enter Tryz.func79, Tryz.ntmps79
  go_wp2_with fail
  go_loopw [5, 6, 7] (plusLoop l m w) (fun _ _ i _ => l.length + m.length - (intOf i).toNat)
  case atStart => exact ⟨0, 0, [], Nat.zero_le _, rfl, rfl, by omega, Lib.hid (Row.nil _ _), Lib.hid rfl, Lib.hid (fun _ h => by cases h), Lib.hid (by simp [Na.val]), Lib.hid (Below.refl _ _), Lib.hid (Or.inl (Nat.zero_le _))⟩
  case round =>
    obtain ⟨k, cc, o, hk, rfl, rfl, hcc, HR, HL, HO, HInv, HB, HK⟩ := hrel
    have L1 := Lib.hid (r1_limb_any a c l k wr (HS.out.on HB.out) (by omega) (by omega))
    have L2 := Lib.hid (r1_limb_any b d m k wr (HS'.out.on HB.out) (by omega) (by omega))
    have hx := Na.limb_lt HS.out.ok k
    have hy := Na.limb_lt HS'.out.ok k
    have P1 := Na.take_limb l k
    have P2 := Na.take_limb m k
    obtain ⟨x, hxe⟩ : ∃ x, Na.limb l k = x := ⟨_, rfl⟩
    obtain ⟨y, hye⟩ : ∃ x, Na.limb m k = x := ⟨_, rfl⟩
    rw [hxe] at hx P1 L1
    rw [hye] at hy P2 L2
    obtain ⟨s, hs⟩ : ∃ s, s = x + y + cc := ⟨_, rfl⟩
    have hsi : (x : Int) + (y : Int) + (cc : Int) = (s : Int) := by omega
    have HST := Lib.hid (Na.plus_step HL.out HInv.out P1 P2 hs)
    obtain ⟨z, hz⟩ : ∃ z, z = s % 4294967296 := ⟨_, rfl⟩
    obtain ⟨c2, hc2⟩ : ∃ z, z = s / 4294967296 := ⟨_, rfl⟩
    rw [← hz, ← hc2] at HST
    have hzi : (s : Int) % 4294967296 = (z : Int) := by omega
    have hci : (s : Int) / 4294967296 = (c2 : Int) := by omega
    have hzl : z < 4294967296 := by omega
    have hc2l : c2 ≤ 1 := by omega
    have hsl : s < 18446744073709551616 := by omega
    by_cases hgo : k < l.length ∨ k < m.length
    · have HOZ := Lib.hid (Na.ok_snoc HO.out hzl)
      have HSL := Lib.hid (lit_sl wr z hzl)
      have hk2 : k + 1 ≤ l.length + m.length := by omega
      have HK2 := Lib.hid (show k + 1 ≤ l.length ∨ k + 1 ≤ m.length by omega)
      have hol : o.length ≤ 200000 := by have := HL.out; omega
      clear hxe hye hs hz hc2 P1 P2 HInv
      rcases Nat.lt_or_ge k l.length with hlt | hge
      all_goals (
        first
        | (have hd : decide ((k : Int) < (l.length : Int)) = true := decide_eq_true (by omega))
        | (have hlt2 : k < m.length := (by omega))
        clear hgo
        go_wp2_with (first | (go_at_call 111; (with_reducible refine (L1.out).mono ?_); rintro e w' ⟨rfl, rfl⟩) | (go_at_call 111; (with_reducible refine (L2.out).mono ?_); rintro e w' ⟨rfl, rfl⟩) | (at_builtin; refine app_u32 rfl _ _ 64 Tryz.underlying64 rfl w.heap.size u5 o rfl (HR.out.alloc _) (some ⟨wr.heap.size, 0, none⟩) 1 1 [z] rfl rfl HSL.out (fun e => by cases e) (by simp; omega) (by have := HB.out.size; simp; omega) ?_; intro v2 w2 hr2 hg2))
        have hB2 : Below w.heap.size w w2 := hg2.out _ _ (HB.out.alloc HB.out.size _) (Nat.le_refl _)
        go_wp2_with fail
        go_roundw
        case rel => exact ⟨k + 1, c2, o ++ [z], hk2, by go_num, rfl, hc2l, hr2, Lib.hid (by rw [List.length_append, HL.out]; rfl), HOZ, HST, Lib.hid hB2, HK2⟩
        case measure => simp [intOf]; omega)
    · have hx0 : x = 0 := by rw [← hxe, Na.limb, List.getElem?_eq_none (by omega)]; rfl
      have hval : Na.val (o ++ [cc]) = Na.val l + Na.val m := by
        have h1 := HInv.out
        rw [List.take_of_length_le (l := l) (by omega), List.take_of_length_le (l := m) (by omega)] at h1
        rw [Na.val_app, HL.out, ← h1]; simp [Na.val]
      have hccl : cc < 4294967296 := by omega
      have HOZ := Lib.hid (Na.ok_snoc HO.out hccl)
      have HSL := Lib.hid (lit_sl wr cc hccl)
      have hcut : Na.cut (o ++ [cc]) = Na.limbs (Na.val l + Na.val m) := by rw [Na.cut, hval]
      have hol : o.length ≤ 200000 := by have := HL.out; omega
      have hd1 : decide (k < l.length) = false := decide_eq_false (by omega)
      have hd2 : decide (k < m.length) = false := decide_eq_false (by omega)
      have HT := Lib.hid (fun w2 a2 c2 (hs : Sl w2 a2 c2 (o ++ [cc])) (hz : a2 = none → c2 = 0) => (by
        have := r1_trim_any a2 c2 (o ++ [cc]) w2 hs hz (by rw [List.length_append]; simp; omega)
        rw [hcut] at this; exact this : Calls Tryz.prog 83 #[.slice a2 (o ++ [cc]).length c2] w2 (GivesZ (Na.limbs (Na.val l + Na.val m)) w2)))
      have HOL := Lib.hid (show (o ++ [cc]).length = o.length + 1 by simp)
      rw [HOL.out] at HT
      clear hxe hye hs hz hc2 P1 P2 HInv hval hcut hgo hx0 HST hzi hci hsi
      go_wp2_with (first | (at_builtin; refine app_u32 rfl _ _ 64 Tryz.underlying64 rfl w.heap.size u5 o rfl (HR.out.alloc _) (some ⟨wr.heap.size, 0, none⟩) 1 1 [cc] rfl rfl HSL.out (fun e => by cases e) (by simp; omega) (by have := HB.out.size; simp; omega) ?_; intro v2 w2 hr2 hg2; have hB2 : Below w.heap.size w w2 := hg2.out _ _ (HB.out.alloc HB.out.size _) (Nat.le_refl _); obtain ⟨a2, c2', rfl, hs2, hz2⟩ := hr2.out.slz HOZ.out) | (go_at_call 83; (with_reducible refine (HT.out w2 a2 c2' hs2 hz2).mono ?_); rintro e w3 hg3; obtain ⟨a3, c3, rfl, hs3, hz3, hr3, hb3⟩ := GivesZ.up hg3 hB2))
      go_ret
      exact ⟨a3, c3, rfl, hs3, hz3, hr3, hb3⟩
theorem mk_u32s {w : World} {ops : Array Oper} {rest : List Oper} {o : Oper} {a : Act} {Q : Exit → Act → World → Prop} (hg : o.guard = none) (l c : Operand) (hop : o.op = Op.makeSlice 64 l c)
    (L C : Int) (n : Nat) (hl : a.eval l = .int .i64 L) (hc : a.eval c = .int .i64 C) (hL : L = (n : Int)) (hC : C = (n : Int)) (hn : n ≤ 1000000)
    (hK : ∀ w', Hid (Blk w' w.heap.size (List.replicate n 0)) → Hid (∀ B w0, Below B w0 w → B ≤ w.heap.size → Below B w0 w') → wpList Tryz.prog ops Q rest (a.put o.dst (.slice (some ⟨w.heap.size, 0, none⟩) n n)) w') :
    wpList Tryz.prog ops Q (o :: rest) a w := by
  obtain ⟨ti, hi, hz0, hz1, hz2⟩ := info_parts infoU32
  refine wpList_make_full w hg l c 64 hop w.heap.size 81 ti (.int .u32 0) 1 Tryz.underlying64 hi hz0 hz1 .i64 .i64 L C n hl hc hL hC (by rw [hz2]; omega) (by unfold maxLen; omega) (Nat.le_refl _) fun w' h1 h2 => hK w' (Lib.hid ?_) (Lib.hid fun B w0 hb hB => hb.grown h2 hB (fun k e => by cases e))
  exact Blk.made (by simpa [Value.cells] using h1)
def timOuter (n m' g : Nat) (q r : List Nat) (w : World) (iv : Value) (wr : World) : Prop := ∃ (k : Nat) (o : List Nat), k ≤ n ∧ iv = .int .i64 k ∧ Hid (Blk wr g o) ∧ Hid (o.length = n + m' + 1) ∧ Hid (Na.OK o) ∧ Hid (Na.val (o.take (k + m')) = Na.val (q.take k) * Na.val r) ∧ Hid (o.drop (n + m') = [0]) ∧ Hid (Below w.heap.size w wr)
def timInner (n m' g i x : Nat) (q r : List Nat) (w : World) (cv jv : Value) (wr : World) : Prop := ∃ (j c : Nat) (o : List Nat), j ≤ m' ∧ jv = .int .i64 j ∧ cv = .int .u64 c ∧ c < 4294967296 ∧ Hid (Blk wr g o) ∧ Hid (o.length = n + m' + 1) ∧ Hid (Na.OK o) ∧
  Hid (Na.val (o.take (i + m')) + Na.B ^ (i + j) * c = Na.val (q.take i) * Na.val r + Na.B ^ i * x * Na.val (r.take j)) ∧ Hid (o.drop (n + m') = [0]) ∧ Hid (Below w.heap.size w wr)
theorem Na.drop_keep {o : List Nat} {k j v : Nat} {t : List Nat} (h : o.drop k = t) (hj : j < k) : (o.set j v).drop k = t := by
  rw [List.drop_set, if_pos hj]; exact h
theorem r1_times_any (a : Option Addr) (c : Nat) (q : List Nat) (b : Option Addr) (d : Nat) (r : List Nat) (w : World) (h : Sl w a c q) (h' : Sl w b d r) (hn : q.length ≤ 100000) (hm : r.length ≤ 100000) :
    Calls Tryz.prog 50 #[.slice a q.length c, .slice b r.length d] w (GivesZ (Na.limbs (Na.val q * Na.val r)) w) := by
  have S1 := Lib.hid h; have S2 := Lib.hid h'
  obtain ⟨n, hqn⟩ : ∃ n, q.length = n := ⟨_, rfl⟩
  obtain ⟨k', hrk⟩ : ∃ k, r.length = k := ⟨_, rfl⟩
  rw [hqn, hrk]
  rw [hqn] at hn; rw [hrk] at hm
  have HQ := Lib.hid hqn; have HR := Lib.hid hrk
  clear hqn hrk h h'
  go_enter Tryz.func50, Tryz.ntmps50
  go_wp2_with (first | (at_make; refine mk_u32s rfl _ _ rfl _ _ (n + k' + 1) rfl rfl (by simp) (by simp) (by omega) ?_))
  intro w1 hK hgrow
  have hHB := Lib.hid (hgrow.out _ _ (Below.refl _ _) (Nat.le_refl _))
  obtain ⟨g, hgg, hg⟩ : ∃ g, g = w.heap.size ∧ w.heap.size ≤ g := ⟨_, rfl, by omega⟩
  rw [← hgg] at hK ⊢
  clear hgg hgrow
  go_wp2_with fail
  go_loopw [6] (timOuter n k' g q r w) (fun i _ => n - (intOf i).toNat)
  case atStart => exact ⟨0, _, Nat.zero_le _, rfl, hK, Lib.hid (by simp), Lib.hid (by intro x hx; rw [List.eq_of_mem_replicate hx]; decide), Lib.hid (by rw [List.take_replicate, Na.val_zeros]; simp [Na.val]), Lib.hid (by rw [List.drop_replicate, show n + k' + 1 - (n + k') = 1 by omega]; rfl), hHB⟩
  case round =>
    clear hK hHB
    obtain ⟨i, o, hik, rfl, HBl, HOl, HOk, HInv, HZ, HBe⟩ := hrel
    by_cases hlt : i < n
    · have hq1 : i < q.length := by have := HQ.out; omega
      have hx := S1.out.lt i hq1
      have VP := Lib.hid (Na.val_take_succ q i hq1)
      obtain ⟨x, hxe⟩ : ∃ x, q[i]'hq1 = x := ⟨_, rfl⟩
      rw [hxe] at hx VP
      have HXE := Lib.hid hxe
      clear hxe
      go_wp2_with fail
      go_loopw [7, 8] (timInner n k' g i x q r w) (fun _ j _ => k' - (intOf j).toNat)
      case atStart => exact ⟨0, 0, o, Nat.zero_le _, rfl, rfl, by omega, HBl, HOl, HOk, Lib.hid (by rw [HInv.out]; simp [Na.val]), HZ, HBe⟩
      case round =>
        clear HBl HOl HOk HInv HZ HBe
        obtain ⟨j, cc, o2, hjk, rfl, rfl, hcc, HBl, HOl, HOk, HInv, HZ, HBe⟩ := hrel
        by_cases hlt2 : j < k'
        · have hr1 : j < r.length := by have := HR.out; omega
          obtain ⟨b1, o1, rfl, hb1, hc1⟩ := (S1.out.on HBe.out).plain (by omega)
          have c1 := hc1 i hq1
          rw [HXE.out] at c1
          obtain ⟨b2, o3, rfl, hb2, hc2⟩ := (S2.out.on HBe.out).plain (by omega)
          have c2 := hc2 j hr1
          have hy := S2.out.lt j hr1
          have VQ := Lib.hid (Na.val_take_succ r j hr1)
          obtain ⟨y, hye⟩ : ∃ x, r[j]'hr1 = x := ⟨_, rfl⟩
          rw [hye] at c2 hy VQ
          clear hc1 hc2 hye
          have ho1 : i + j < o2.length := by have := HOl.out; omega
          have co := HBl.out.cell (i + j) ho1
          have fo := HBl.out.frozen (i + j)
          have hz : o2[i + j] < 4294967296 := HOk.out _ (List.getElem_mem ho1)
          obtain ⟨z, hze⟩ : ∃ x, o2[i + j]'ho1 = x := ⟨_, rfl⟩
          rw [hze] at co hz
          obtain ⟨hp1, hp2⟩ := Na.prod_le x y z cc hx hy hz hcc
          have HS := Lib.hid (Na.mul_step o2 (i + k') i j x y z cc _ _ _ (by omega) ho1 hze HInv.out VQ.out)
          clear hze
          obtain ⟨p, hp⟩ : ∃ p, p = x * y := ⟨_, rfl⟩
          rw [← hp] at hp1 hp2 HS
          have hpi : (x : Int) * (y : Int) = (p : Int) := by rw [hp]; simp
          have hcn : (p + z + cc) / 4294967296 < 4294967296 := by omega
          have HZ2 := Lib.hid (Na.drop_keep (v := (p + z + cc) % 4294967296) (j := i + j) HZ.out (by omega))
          clear hp
          go_wp2_with fail
          go_quiet (fail)
          go_wp2_with fail
          go_roundw
          case rel => exact ⟨j + 1, (p + z + cc) / 4294967296, o2.set (i + j) ((p + z + cc) % 4294967296), by omega, by go_num, by go_num, hcn, Lib.hid (HBl.out.drew.set _ _), Lib.hid (by rw [List.length_set]; exact HOl.out), Lib.hid (Na.ok_set HOk.out _ _ (by omega)), HS, HZ2, Lib.hid (by have hbe := HBe.out; (repeat (first | exact Below.refl _ _ | assumption | refine Below.setCell ?_ (by first | omega | (simp <;> omega)) _ | refine Below.alloc ?_ (by first | omega | (simp <;> omega)) _ | refine Below.drew ?_ | refine below_drewN' ?_ _)))⟩
          case measure => simp [intOf]; omega
        · obtain rfl : j = k' := by omega
          have ho1 : i + j < o2.length := by have := HOl.out; omega
          have co := HBl.out.cell (i + j) ho1
          have fo := HBl.out.frozen (i + j)
          have HS := Lib.hid (show Na.val ((o2.set (i + j) cc).take (i + 1 + j)) = Na.val (q.take (i + 1)) * Na.val r by
            rw [show i + 1 + j = i + j + 1 by omega, Na.val_set_take o2 _ cc ho1, HInv.out, List.take_of_length_le (l := r) (by rw [HR.out]; exact Nat.le_refl _)]
            exact Na.mul_row q r i x VP.out)
          have HZ2 := Lib.hid (Na.drop_keep (v := cc) (j := i + j) HZ.out (by omega))
          go_wp2_with fail
          go_roundw
          case rel => exact ⟨i + 1, o2.set (i + j) cc, by omega, by go_num, Lib.hid (HBl.out.set _ _), Lib.hid (by rw [List.length_set]; exact HOl.out), Lib.hid (Na.ok_set HOk.out _ _ hcc), HS, HZ2, Lib.hid (by have hbe := HBe.out; (repeat (first | exact Below.refl _ _ | assumption | refine Below.setCell ?_ (by first | omega | (simp <;> omega)) _ | refine Below.alloc ?_ (by first | omega | (simp <;> omega)) _ | refine Below.drew ?_ | refine below_drewN' ?_ _)))⟩
          case measure => simp [intOf]; omega
    · obtain rfl : i = n := by omega
      have hv : Na.val o = Na.val q * Na.val r := by
        have h1 := HInv.out
        rw [List.take_of_length_le (l := q) (by rw [HQ.out]; exact Nat.le_refl _)] at h1
        rw [Na.val_take_drop o (i + k') (by rw [HOl.out]; omega), HZ.out, h1]
        simp [Na.val]
      have hcut : Na.cut o = Na.limbs (Na.val q * Na.val r) := by rw [Na.cut, hv]
      have ht := r1_trim_any (some ⟨g, 0, none⟩) (i + k' + 1) o wr (HBl.out.sl HOk.out (by rw [HOl.out]; exact Nat.le_refl _)) (fun e => by cases e) (by rw [HOl.out]; omega)
      rw [HOl.out, hcut] at ht
      have HT := Lib.hid ht
      clear hv hcut ht
      go_wp2_with (first | (go_at_call 83; (with_reducible refine (HT.out).mono ?_); rintro e w3 hg3; obtain ⟨a3, c3, rfl, hs3, hz3, hr3, hb3⟩ := GivesZ.up hg3 HBe.out))
      go_ret
      exact ⟨a3, c3, rfl, hs3, hz3, hr3, hb3⟩
theorem Na.len_sum {x y j k : Nat} (h : x < Na.B ^ j) (h' : y < Na.B ^ k) : (Na.limbs (x + y)).length ≤ j + k + 1 := by
  refine Na.limbs_len_le _ _ ?_
  have h1 : x < Na.B ^ (j + k) := Nat.lt_of_lt_of_le h (Nat.pow_le_pow_right (by decide) (by omega))
  have h2 : y < Na.B ^ (j + k) := Nat.lt_of_lt_of_le h' (Nat.pow_le_pow_right (by decide) (by omega))
  rw [Nat.pow_succ]
  have : Na.B ^ (j + k) * 2 ≤ Na.B ^ (j + k) * Na.B := Nat.mul_le_mul_left _ (by decide)
  omega
theorem Na.len_prod {x y j k : Nat} (h : x < Na.B ^ j) (h' : y < Na.B ^ k) : (Na.limbs (x * y)).length ≤ j + k := by
  refine Na.limbs_len_le _ _ ?_
  rw [Nat.pow_add]
  exact Nat.mul_lt_mul_of_lt_of_le h (Nat.le_of_lt h') (Nat.pow_pos (by decide))
def GvF (q : List Nat × Int) (w : World) (e : Ending) (w' : World) : Prop := ∃ a c, e = .returned (.tuple #[.slice a q.1.length c, .int .i64 q.2]) ∧ Sl w' a c q.1 ∧ Below w.heap.size w w'
theorem GvF.up {q : List Nat × Int} {w w1 w' : World} {e : Ending} (h : GvF q w1 e w') (hb : Below w.heap.size w w1) : GvF q w e w' := by
  obtain ⟨a, c, rfl, hs, hb'⟩ := h
  exact ⟨a, c, rfl, hs, hb.trans (hb'.mono hb.size)⟩
theorem Na.twice_step {o P : List Nat} {k x c s M : Nat} (hl : o.length = k) (inv : Na.val o + Na.B ^ k * c = 2 * Na.val (P.take k) + M) (hP : Na.val (P.take (k + 1)) = Na.val (P.take k) + Na.B ^ k * x) (hs : s = 2 * x + c) :
    Na.val (o ++ [s % 4294967296]) + Na.B ^ (k + 1) * (s / 4294967296) = 2 * Na.val (P.take (k + 1)) + M := by
  have h1 := Na.split_digit (Na.B ^ k) s
  rw [Na.val_app, hl, hP, Nat.pow_succ]
  have h2 : Na.B ^ k * s = 2 * (Na.B ^ k * x) + Na.B ^ k * c := by rw [hs, Nat.mul_add, Nat.mul_left_comm]
  simp only [Na.val, Na.B, Nat.mul_zero, Nat.add_zero] at h1 h2 inv ⊢
  omega
def twiceLoop (P : List Nat) (M : Nat) (w : World) (ov cv iv : Value) (wr : World) : Prop := ∃ (k c : Nat) (o : List Nat), k ≤ P.length ∧ iv = .int .i64 k ∧ cv = .int .u64 c ∧ c ≤ 1 ∧ Hid (Row wr w.heap.size ov o) ∧ Hid (o.length = k) ∧ Hid (Na.OK o) ∧
  Hid (Na.val o + Na.B ^ k * c = 2 * Na.val (P.take k) + M) ∧ Hid (Below w.heap.size w wr)
theorem r1_twice_any (a : Option Addr) (c : Nat) (l : List Nat) (more : Bool) (w : World) (h : Sl w a c l) (hn : l.length ≤ 100000) :
    Calls Tryz.prog 84 #[.slice a l.length c, .bool more] w (GivesZ (Na.limbs (2 * Na.val l + more.toNat)) w) := by
  have HS := Lib.hid h
  obtain ⟨M, hM⟩ : ∃ M, M = more.toNat := ⟨_, rfl⟩
  rw [← hM]
  have hM1 : M ≤ 1 := by rw [hM]; cases more <;> decide
  obtain ⟨n, hnl⟩ : ∃ n, l.length = n := ⟨_, rfl⟩
  have HN := Lib.hid hnl
  rw [hnl]; rw [hnl] at hn
  clear h hnl
  have hcase : (M = 0 ∧ more = false) ∨ (M = 1 ∧ more = true) := by rw [hM]; cases more <;> simp
  clear hM
  rcases hcase with ⟨rfl, rfl⟩ | ⟨rfl, rfl⟩
  all_goals (
    go_enter Tryz.func84, Tryz.ntmps84
    go_wp2_with fail
    first
    | go_loopw [5, 6, 7] (twiceLoop l 0 w) (fun _ _ i _ => n - (intOf i).toNat)
      case atStart => exact ⟨0, 0, [], Nat.zero_le _, rfl, rfl, by omega, Lib.hid (Row.nil _ _), Lib.hid rfl, Lib.hid (fun _ h => by cases h), Lib.hid (by simp [Na.val]), Lib.hid (Below.refl _ _)⟩
    | go_loopw [5, 6, 7] (twiceLoop l 1 w) (fun _ _ i _ => n - (intOf i).toNat)
      case atStart => exact ⟨0, 1, [], Nat.zero_le _, rfl, rfl, by omega, Lib.hid (Row.nil _ _), Lib.hid rfl, Lib.hid (fun _ h => by cases h), Lib.hid (by simp [Na.val]), Lib.hid (Below.refl _ _)⟩
    case round =>
      obtain ⟨k, cc, o, hk, rfl, rfl, hcc, HR, HL, HO, HInv, HB⟩ := hrel
      rw [HN.out] at hk
      by_cases hlt : k < n
      · have hk1 : k < l.length := by rw [HN.out]; exact hlt
        obtain ⟨b, ob, rfl, hbl, hcell⟩ := (HS.out.on HB.out).plain (by omega)
        have c1 := hcell k hk1
        have hx := HS.out.lt k hk1
        have P1 := Na.val_take_succ l k hk1
        obtain ⟨x, hxe⟩ : ∃ x, l[k]'hk1 = x := ⟨_, rfl⟩
        rw [hxe] at c1 hx P1
        obtain ⟨s, hs⟩ : ∃ s, s = 2 * x + cc := ⟨_, rfl⟩
        have hsi : 2 * (x : Int) + (cc : Int) = (s : Int) := by omega
        have HST := Lib.hid (Na.twice_step HL.out HInv.out P1 hs)
        obtain ⟨z, hz⟩ : ∃ z, z = s % 4294967296 := ⟨_, rfl⟩
        obtain ⟨c2, hc2⟩ : ∃ z, z = s / 4294967296 := ⟨_, rfl⟩
        rw [← hz, ← hc2] at HST
        have hzi : (s : Int) % 4294967296 = (z : Int) := by omega
        have hci : (s : Int) / 4294967296 = (c2 : Int) := by omega
        have hzl : z < 4294967296 := by omega
        have hc2l : c2 ≤ 1 := by omega
        have hsl : s < 18446744073709551616 := by omega
        have HOZ := Lib.hid (Na.ok_snoc HO.out hzl)
        have HSL := Lib.hid (lit_sl wr z hzl)
        have hol : o.length ≤ 200000 := by have := HL.out; omega
        clear hxe hs hz hc2 P1 HInv hcell
        go_wp2_with (first | (at_builtin; refine app_u32 rfl _ _ 64 Tryz.underlying64 rfl w.heap.size u5 o rfl (HR.out.alloc _) (some ⟨wr.heap.size, 0, none⟩) 1 1 [z] rfl rfl HSL.out (fun e => by cases e) (by simp; omega) (by have := HB.out.size; simp; omega) ?_; intro v2 w2 hr2 hg2))
        have hB2 : Below w.heap.size w w2 := hg2.out _ _ (HB.out.alloc HB.out.size _) (Nat.le_refl _)
        go_wp2_with fail
        go_roundw
        case rel => exact ⟨k + 1, c2, o ++ [z], by rw [HN.out]; omega, by go_num, rfl, hc2l, hr2, Lib.hid (by rw [List.length_append, HL.out]; rfl), HOZ, HST, Lib.hid hB2⟩
        case measure => simp [intOf]; omega
      · obtain rfl : k = n := by omega
        have hval := HInv.out
        rw [List.take_of_length_le (l := l) (by rw [HN.out]; exact Nat.le_refl _)] at hval
        have hccl : cc < 4294967296 := by omega
        have HOZ := Lib.hid (Na.ok_snoc HO.out hccl)
        have HSL := Lib.hid (lit_sl wr cc hccl)
        have hv2 : Na.val (o ++ [cc]) = Na.val o + Na.B ^ k * cc := by rw [Na.val_app, HL.out]; simp [Na.val]
        have hol : o.length ≤ 200000 := by have := HL.out; omega
        have HT := Lib.hid (fun w2 a2 c2 (hs : Sl w2 a2 c2 (o ++ [cc])) (hz : a2 = none → c2 = 0) => (by
          have := r1_trim_any a2 c2 (o ++ [cc]) w2 hs hz (by rw [List.length_append]; simp; omega)
          rw [show (o ++ [cc]).length = o.length + 1 by simp, Na.cut, hv2, hval] at this
          exact this : Calls Tryz.prog 83 #[.slice a2 (o.length + 1) c2] w2 (GivesZ _ w2)))
        clear hval hv2 HInv
        go_wp2_with (first | (at_builtin; refine app_u32 rfl _ _ 64 Tryz.underlying64 rfl w.heap.size u5 o rfl (HR.out.alloc _) (some ⟨wr.heap.size, 0, none⟩) 1 1 [cc] rfl rfl HSL.out (fun e => by cases e) (by simp; omega) (by have := HB.out.size; simp; omega) ?_; intro v2 w2 hr2 hg2; have hB2 : Below w.heap.size w w2 := hg2.out _ _ (HB.out.alloc HB.out.size _) (Nat.le_refl _); obtain ⟨a2, c2', rfl, hs2, hz2⟩ := hr2.out.slz HOZ.out) | (go_at_call 83; (with_reducible refine (HT.out w2 a2 c2' hs2 hz2).mono ?_); rintro e w3 hg3; obtain ⟨a3, c3, rfl, hs3, hz3, hr3, hb3⟩ := GivesZ.up hg3 hB2))
        go_ret
        exact ⟨a3, c3, rfl, hs3, hz3, hr3, hb3⟩)
theorem Blk.row {w : World} {g B : Nat} {o : List Nat} (h : Blk w g o) (hB : B ≤ g) (hl : o.length ≤ 1000000) : Row w B (.slice (some ⟨g, 0, none⟩) o.length o.length) o :=
  ⟨by rw [u32s_len, Nat.mul_one], .inr ⟨g, o.length, (u32s o).toArray, rfl, hB, h, Nat.le_refl _, by unfold maxLen; omega, by simp [u32s], by rw [Nat.mul_one]; exact List.take_of_length_le (by simp [u32s])⟩⟩
section
variable (a : Option Addr) (c : Nat) (l : List Nat) (n : Int) (w : World) (h : Sl w a c l) (hz : a = none → c = 0) (hn : l.length ≤ 100000) (hi : -9223372036854775808 ≤ n ∧ n ≤ 9223372036854775807)
include h hz hn hi
end
def Na.bit (N i : Nat) : Bool := decide (N / 2 ^ i % 2 = 1)
theorem Na.bit_limb {l : List Nat} (h : Na.OK l) (i k r : Nat) (hi : i = 32 * k + r) (hr : r < 32) : Na.val l / 2 ^ i % 2 = Na.limb l k / 2 ^ r % 2 := by
  by_cases hk : k < l.length
  · have h1 := Na.val_take_drop l k (by omega)
    rw [Na.val_drop_at l k hk] at h1
    have h2 : Na.val (l.take k) < Na.B ^ k := by
      have := Na.val_lt (l.take k) (Na.ok_take h k)
      rwa [List.length_take, Nat.min_eq_left (by omega)] at this
    have h3 : Na.limb l k = l[k] := by rw [Na.limb, List.getElem?_eq_getElem hk]; rfl
    rw [hi, Nat.pow_add, ← Nat.div_div_eq_div_mul, show 2 ^ (32 * k) = Na.B ^ k by rw [Nat.pow_mul], h1, Nat.add_mul_div_left _ _ (Nat.pow_pos (by decide)), Nat.div_eq_of_lt h2, Nat.zero_add, h3]
    have e : Na.B = 2 ^ r * (2 * 2 ^ (31 - r)) := by rw [← Nat.pow_succ', ← Nat.pow_add, show r + (31 - r).succ = 32 by omega]
    rw [e, Nat.mul_assoc, Nat.add_mul_div_left _ _ (Nat.pow_pos (by decide)), Nat.mul_assoc, Nat.add_mul_mod_self_left]
  · have h1 := Na.val_lt l h
    have h2 : Na.val l < 2 ^ i := by
      rw [show Na.B ^ l.length = 2 ^ (32 * l.length) by rw [Nat.pow_mul]] at h1
      exact Nat.lt_of_lt_of_le h1 (Nat.pow_le_pow_right (by decide) (by omega))
    rw [Nat.div_eq_of_lt h2, Na.limb, List.getElem?_eq_none (by omega)]; simp
theorem r1_bit_any (a : Option Addr) (c : Nat) (l : List Nat) (i : Nat) (w : World) (h : Sl w a c l) (hn : l.length ≤ 1000000) (hi : i ≤ 100000000) :
    Calls Tryz.prog 81 #[.slice a l.length c, .int .i64 i] w (Ret0 (.bool (Na.bit (Na.val l) i)) w) := by
  obtain ⟨k, hk⟩ : ∃ k, k = i / 32 := ⟨_, rfl⟩
  obtain ⟨r, hr⟩ : ∃ k, k = i % 32 := ⟨_, rfl⟩
  have H1 := Lib.hid (r1_limb_any a c l k w h hn (by omega))
  have hbl := Na.bit_limb h.ok i k r (by omega) (by omega)
  have hx := Na.limb_lt h.ok k
  obtain ⟨x, hxe⟩ : ∃ x, x = Na.limb l k := ⟨_, rfl⟩
  rw [← hxe] at H1 hbl hx
  have hki : (i : Int) / 32 = (k : Int) := by omega
  have hri : (i : Int) % 32 = (r : Int) := by omega
  have hr32 : r < 32 := by omega
  obtain ⟨M, hM⟩ : ∃ M, M = 2 ^ r := ⟨_, rfl⟩
  have hMi : ((2 : Int) ^ r) = (M : Int) := by rw [hM]; simp
  have hM1 : 1 ≤ M := by rw [hM]; exact Nat.pow_pos (by decide)
  have e := Lib.hid (show ((x : Int) / (M : Int) % 2 == 1) = Na.bit (Na.val l) i by
    rw [Na.bit, hbl, hM, Bool.eq_iff_iff]
    simp only [beq_iff_eq, decide_eq_true_eq]
    omega)
  clear hbl hxe hk hr hM
  go_enter Tryz.func81, Tryz.ntmps81
  go_wp2_with (first | (go_at_call 111; (with_reducible refine (H1.out).mono ?_); rintro e w' ⟨rfl, rfl⟩))
  go_ret
  exact Ret0.of (by rw [← e.out]; rfl)
section
variable (a : Option Addr) (c : Nat) (l : List Nat) (n : Int) (w : World) (h : Sl w a c l) (hz : a = none → c = 0) (hn : l.length ≤ 100000) (hi : -9223372036854775808 ≤ n ∧ n ≤ 9223372036854775807)
include h hz hn hi
end
end Go.Proofs.YtiglekomfgfilaaGreatDoor
