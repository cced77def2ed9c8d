/- Add. -/
import Derived.Test.YtjnkbifafbjckaaGreatDoorZ4
namespace Go.Proofs.YtjnkbifafbjckaaGreatDoor
set_option linter.all false
open Go.RowKit

theorem Na.not_big {l m : List Nat} (h : (Na.big l || Na.big m) = false) : (Na.cut l).length ≤ 256 ∧ (Na.cut m).length ≤ 256 := by
  obtain ⟨h1, h2⟩ := Bool.or_eq_false_iff.1 h
  exact ⟨Nat.le_of_not_lt (of_decide_eq_false h1), Nat.le_of_not_lt (of_decide_eq_false h2)⟩
theorem args2 {w : World} {a b : Option Addr} {c d : Nat} {l m : List Nat} (h : Sl w a c l) (h' : Sl w b d m) (hn : l.length ≤ 1000000) (hm : m.length ≤ 1000000) (t : TypeId) :
    Args (w.alloc (Obj.cells #[Value.slice a l.length c, Value.slice b m.length d] t)) w.heap.size [⟨a, c, l⟩, ⟨b, d, m⟩] := by
  have hB : Below w.heap.size w (w.alloc (Obj.cells #[Value.slice a l.length c, Value.slice b m.length d] t)) := (Below.refl _ _).alloc (Nat.le_refl _) _
  have hc : ∀ k v, #[Value.slice a l.length c, Value.slice b m.length d][k]? = some v → (w.alloc (Obj.cells #[Value.slice a l.length c, Value.slice b m.length d] t)).cell? ⟨w.heap.size, k, none⟩ = some v := fun k v hv => by
    show (match (w.heap.push _)[w.heap.size]? with | some (.cells c _ _) => if (none : Option Nat).isSome then none else c[k]? | _ => none) = some v
    simp [hv]
  intro k hk
  match k, hk with
  | 0, _ => exact ⟨hc 0 _ rfl, h.on hB, hn⟩
  | 1, _ => exact ⟨hc 1 _ rfl, h'.on hB, hm⟩

theorem na_over2_any {w : World} {a b : Option Addr} {c d : Nat} {l m : List Nat} (h : Sl w a c l) (h' : Sl w b d m) (hn : l.length ≤ 1000000) (hm : m.length ≤ 1000000) (r : Bool) (hr : (Na.big l || Na.big m) = r) :
    Calls Tryz.prog 137 #[.slice (some ⟨w.heap.size, 0, none⟩) 2 2] (w.alloc (Obj.cells #[Value.slice a l.length c, Value.slice b m.length d] 85)) (Ret0 (.bool r) (w.alloc (Obj.cells #[Value.slice a l.length c, Value.slice b m.length d] 85))) := by
  have := na_over_any [⟨a, c, l⟩, ⟨b, d, m⟩] w.heap.size _ (args2 h h' hn hm 85) (Nat.le_refl _)
  have e : ([⟨a, c, l⟩, ⟨b, d, m⟩] : List Arg).any (fun x => Na.big x.l) = r := by rw [← hr]; simp
  rw [e] at this; exact this

theorem FitsR.gives {g : Nat} {l : List Nat} {w w1 w' : World} {e : Ending} (h : FitsR (some ⟨g, 0, none⟩) l w1 e w') (hb : Below w.heap.size w w1) (hg : w.heap.size ≤ g) (hk : Blk w1 g l) : GivesE (Na.fits (Na.val l)) w e w' := by
  obtain ⟨rfl, a', c', rfl, hs, ho⟩ := h
  refine ⟨a', c', rfl, hs, ?_, hb⟩
  rcases ho with rfl | ho
  · exact hk.own hg
  · rw [ho]; exact Own.nil _ _ _

def addLoop (n g : Nat) (P Q : List Nat) (w : World) (cv i : Value) (wr : World) : Prop := ∃ (k cc : Nat) (o : List Nat), k ≤ n ∧ i = .int .i64 k ∧ cv = .int .u32 cc ∧ cc ≤ 1 ∧ Hid (Blk wr g o) ∧ Hid (o.length = n + 1) ∧ Hid (Na.OK (o.take k)) ∧
  Hid (Na.val (o.take k) + Na.B ^ k * cc = Na.val (P.take k) + Na.val (Q.take k)) ∧ Hid (Below w.heap.size w wr)

set_option maxHeartbeats 1000000 in
theorem na_add_big (a : Option Addr) (c : Nat) (l : List Nat) (b : Option Addr) (d : Nat) (m : List Nat) (w : World) (h : Sl w a c l) (h' : Sl w b d m) (hn : l.length ≤ 1000000) (hm : m.length ≤ 1000000) (hbig : (Na.big l || Na.big m) = true) :
    Calls Tryz.prog 88 #[.slice a l.length c, .slice b m.length d] w (GivesE (Na.add l m) w) := by
  have H1 := Lib.hid (na_over2_any h h' hn hm true hbig)
  have e2 := Lib.hid (show Na.add l m = ([], 2) from if_pos hbig)
  have hB : Below w.heap.size w (w.alloc (Obj.cells #[Value.slice a l.length c, Value.slice b m.length d] 85)) := (Below.refl _ _).alloc (Nat.le_refl _) _
  clear hbig
  go_enter Tryz.func88, Tryz.ntmps88
  go_wp2_with (first | (go_at_call 137; (with_reducible refine (H1.out).mono ?_); rintro e w' ⟨rfl, rfl⟩))
  refine bodyPost_ret (v := .tuple #[.slice none 0 0, .int .i64 2]) (by simp [results, Tryz.results88, go_sem]) rfl ⟨none, 0, ?_, ?_, ?_, hB⟩ <;> rw [e2.out]
  · rfl
  · exact Sl.nil _ _ _
  · exact Own.nil _ _ _
/-- Add, no number too big. -/
theorem placeholder : True := trivial

set_option maxHeartbeats 2000000 in
theorem na_add_ok (a : Option Addr) (c : Nat) (l : List Nat) (b : Option Addr) (d : Nat) (m : List Nat) (w : World) (h : Sl w a c l) (h' : Sl w b d m) (hn : l.length ≤ 1000000) (hm : m.length ≤ 1000000) (hbig : (Na.big l || Na.big m) = false) :
    Calls Tryz.prog 88 #[.slice a l.length c, .slice b m.length d] w (GivesE (Na.add l m) w) := by
  have H1 := Lib.hid (na_over2_any h h' hn hm false hbig)
  have E2 := Lib.hid (show Na.add l m = Na.fits (Na.val l + Na.val m) from if_neg (by simp [hbig]))
  have hB : Below w.heap.size w (w.alloc (Obj.cells #[Value.slice a l.length c, Value.slice b m.length d] 85)) := (Below.refl _ _).alloc (Nat.le_refl _) _
  have H2 := Lib.hid (na_cut_any a c l _ (h.on hB) hn)
  have H3 := Lib.hid (na_cut_any b d m _ (h'.on hB) hm)
  obtain ⟨hl1, hl2⟩ := Na.not_big hbig
  have S1 := h.cut
  have S2 := h'.cut
  have V1 := Lib.hid (Na.val_cut (a := l))
  have V2 := Lib.hid (Na.val_cut (a := m))
  obtain ⟨q, hq⟩ : ∃ q, q = Na.cut l := ⟨_, rfl⟩
  obtain ⟨r, hr⟩ : ∃ r, r = Na.cut m := ⟨_, rfl⟩
  rw [← hq] at H2 hl1 S1 V1
  rw [← hr] at H3 hl2 S2 V2
  clear hq hr hbig
  obtain ⟨n, hqn⟩ : ∃ n, q.length = n := ⟨_, rfl⟩
  obtain ⟨k', hrk⟩ : ∃ k, r.length = k := ⟨_, rfl⟩
  rw [hqn] at H2 hl1
  rw [hrk] at H3 hl2
  have HQ := Lib.hid hqn; have HR := Lib.hid hrk
  clear hqn hrk
  obtain ⟨ti, hi, hz0, hz1, hz2⟩ := info_parts infoU32
  by_cases hlt : n < k'
  · go_enter Tryz.func88, Tryz.ntmps88
    go_wp2_with (first | (go_at_call 137; (with_reducible refine (H1.out).mono ?_); rintro e w' ⟨rfl, rfl⟩) | (go_at_call 138; (with_reducible refine (H2.out).mono ?_); rintro e w' ⟨rfl, rfl⟩) | (go_at_call 138; (with_reducible refine (H3.out).mono ?_); rintro e w' ⟨rfl, rfl⟩) | (at_make; refine wpList_make_full _ rfl _ _ 85 rfl w.heap.size 72 ti (.int .u32 0) 1 Tryz.underlying85 hi hz0 hz1 .i64 .i64 _ _ (k' + 1) rfl rfl rfl rfl (by rw [hz2]; omega) (by unfold maxLen; omega) (by simp [World.size_alloc]) ?_))
    intro w1 hown hgrow
    have hB1 : Below w.heap.size w w1 := hB.grown hgrow (by simp [World.size_alloc]) (fun k e => by cases e)
    have hK := Lib.hid (Blk.made hown)
    have hHB := Lib.hid hB1
    have hgw : w.heap.size + 1 < w1.heap.size := by
      have := hK.out.lt; simpa [World.size_alloc] using this
    clear hown hgrow hz2 hz1 hz0 hi ti hB hB1
    go_wp2_with fail
    go_loopw [7, 31] (addLoop k' (w.heap.size + 1) r q w) (fun _ i _ => k' - (intOf i).toNat)
    case atStart => exact ⟨0, 0, _, Nat.zero_le _, rfl, rfl, by omega, hK, Lib.hid (by simp), Lib.hid (by intro x hx; cases hx), Lib.hid (by simp [Na.val]), hHB⟩
    case round =>
      obtain ⟨k, cc, o, hk, rfl, rfl, hcc, HBl, HOl, HOk, HInv, HBe⟩ := hrel
      by_cases hlt2 : k < k'
      · have hq1 : k < r.length := by have := HR.out; omega
        obtain ⟨b1, o1, rfl, hb1, hc1⟩ := (S2.on HBe.out).plain (by omega)
        have c1 := hc1 k hq1
        have hx := S2.lt k hq1
        have VP := Lib.hid (Na.val_take_succ r k hq1)
        obtain ⟨x, hxe⟩ : ∃ x, r[k]'hq1 = x := ⟨_, rfl⟩
        rw [hxe] at c1 hx VP
        clear hc1 hxe
        have ho1 : k < o.length := by have := HOl.out; omega
        have co := HBl.out.cell k ho1
        have fo := HBl.out.frozen k
        by_cases hy : k < n
        · have hr1 : k < q.length := by have := HQ.out; omega
          obtain ⟨b2, o2, rfl, hb2, hc2⟩ := (S1.on HBe.out).plain (by omega)
          have c2 := hc2 k hr1
          have hyl := S1.lt k hr1
          have VQ := Lib.hid (Na.val_take_succ q k hr1)
          obtain ⟨y, hye⟩ : ∃ x, q[k]'hr1 = x := ⟨_, rfl⟩
          rw [hye] at c2 hyl VQ
          clear hc2 hye
          have HA32 := Lib.hid (add32_any x y cc hx hyl (by omega) wr)
          have HS := Lib.hid (Na.add_step o r q k x y cc ho1 HInv.out VP.out VQ.out)
          have HO2 := Lib.hid (Na.ok_set_take o k ((x + y + cc) % 4294967296) ho1 HOk.out (by omega))
          have hcc2 : (x + y + cc) / 4294967296 ≤ 1 := by omega
          obtain ⟨v, hv⟩ : ∃ v, v = (x + y + cc) % 4294967296 := ⟨_, rfl⟩
          obtain ⟨cn, hcn⟩ : ∃ v, v = (x + y + cc) / 4294967296 := ⟨_, rfl⟩
          rw [← hv, ← hcn] at HS HA32
          rw [← hv] at HO2
          rw [← hcn] at hcc2
          clear hv hcn
          go_wp2_with (first | (go_at_call 143; (with_reducible refine (HA32.out).mono ?_); rintro e w' ⟨rfl, rfl⟩))
          go_roundw
          case rel => exact ⟨k + 1, cn, o.set k v, by omega, by go_num, rfl, hcc2, Lib.hid (HBl.out.set k v), Lib.hid (by rw [List.length_set]; exact HOl.out), HO2, HS, Lib.hid (by have hbe := HBe.out; (repeat (first | exact Below.refl _ _ | assumption | refine Below.setCell ?_ (by first | omega | (simp <;> omega)) _ | refine Below.alloc ?_ (by first | omega | (simp <;> omega)) _ | refine Below.drew ?_ | refine below_drewN' ?_ _)))⟩
          case measure => simp [intOf]; omega
        · have VQ := Lib.hid (Na.take_more q k (by have := HQ.out; omega))
          have HA32 := Lib.hid (show Calls Tryz.prog 143 #[.int .u32 x, .int .u32 0, .int .u32 cc] wr _ from add32_any x 0 cc hx (by omega) (by omega) wr)
          have HS := Lib.hid (Na.add_step o r q k x 0 cc ho1 HInv.out VP.out VQ.out)
          have HO2 := Lib.hid (Na.ok_set_take o k ((x + 0 + cc) % 4294967296) ho1 HOk.out (by omega))
          have hcc2 : (x + 0 + cc) / 4294967296 ≤ 1 := by omega
          obtain ⟨v, hv⟩ : ∃ v, v = (x + 0 + cc) % 4294967296 := ⟨_, rfl⟩
          obtain ⟨cn, hcn⟩ : ∃ v, v = (x + 0 + cc) / 4294967296 := ⟨_, rfl⟩
          rw [← hv, ← hcn] at HS HA32
          rw [← hv] at HO2
          rw [← hcn] at hcc2
          clear hv hcn
          go_wp2_with (first | (go_at_call 143; (with_reducible refine (HA32.out).mono ?_); rintro e w' ⟨rfl, rfl⟩))
          go_roundw
          case rel => exact ⟨k + 1, cn, o.set k v, by omega, by go_num, rfl, hcc2, Lib.hid (HBl.out.set k v), Lib.hid (by rw [List.length_set]; exact HOl.out), HO2, HS, Lib.hid (by have hbe := HBe.out; (repeat (first | exact Below.refl _ _ | assumption | refine Below.setCell ?_ (by first | omega | (simp <;> omega)) _ | refine Below.alloc ?_ (by first | omega | (simp <;> omega)) _ | refine Below.drew ?_ | refine below_drewN' ?_ _)))⟩
          case measure => simp [intOf]; omega
      · obtain rfl : k = k' := by omega
        have ho1 : k < o.length := by have := HOl.out; omega
        have co := HBl.out.cell k ho1
        have fo := HBl.out.frozen k
        have hlen : (o.set k cc).length = k + 1 := by rw [List.length_set, HOl.out]
        have hv : Na.val (o.set k cc) = Na.val l + Na.val m := by
          have e1 := Na.val_set_take o k cc ho1
          rw [List.take_of_length_le (l := o.set k cc) (by omega), HInv.out, List.take_of_length_le (l := r) (by rw [HR.out]; exact Nat.le_refl _), List.take_of_length_le (l := q) (by have := HQ.out; omega), V1.out, V2.out] at e1
          rw [e1]; exact Nat.add_comm _ _
        have hok : Na.OK (o.set k cc) := by
          have := Na.ok_set_take o k cc ho1 HOk.out (by omega); rwa [List.take_of_length_le (by omega)] at this
        have HS := HBl.out.set k cc
        have HF := na_fits_any (some ⟨w.heap.size + 1, 0, none⟩) (k + 1) (o.set k cc) _ (HS.sl hok (by omega)) (by omega)
        rw [hlen] at HF
        have hbf : Below w.heap.size w (wr.setCell ⟨w.heap.size + 1, k, none⟩ (.int .u32 (cc : Int))) := (by have hbe := HBe.out; (repeat (first | exact Below.refl _ _ | assumption | refine Below.setCell ?_ (by first | omega | (simp <;> omega)) _ | refine Below.alloc ?_ (by first | omega | (simp <;> omega)) _ | refine Below.drew ?_ | refine below_drewN' ?_ _)))
        have HG := Lib.hid (fun e w' (hg : FitsR (some ⟨w.heap.size + 1, 0, none⟩) (o.set k cc) (wr.setCell ⟨w.heap.size + 1, k, none⟩ (.int .u32 (cc : Int))) e w') => (by have := hg.gives hbf (by omega) HS; rwa [hv, ← E2.out] at this : GivesE (Na.add l m) w e w'))
        have HF' := Lib.hid HF
        clear hv hok hlen HS HF hbf
        go_wp2_with (first | (go_at_call 144; (with_reducible refine (HF'.out).mono ?_); intro e w' hg; obtain ⟨a', c', rfl, hs, ho, hb⟩ := HG.out e w' hg))
        refine bodyPost_ret (v := .tuple #[.slice a' (Na.add l m).1.length c', .int .i64 (Na.add l m).2]) (by simp [results, Tryz.results88, go_sem]) rfl ⟨a', c', rfl, hs, ho, hb⟩
  · go_enter Tryz.func88, Tryz.ntmps88
    go_wp2_with (first | (go_at_call 137; (with_reducible refine (H1.out).mono ?_); rintro e w' ⟨rfl, rfl⟩) | (go_at_call 138; (with_reducible refine (H2.out).mono ?_); rintro e w' ⟨rfl, rfl⟩) | (go_at_call 138; (with_reducible refine (H3.out).mono ?_); rintro e w' ⟨rfl, rfl⟩) | (at_make; refine wpList_make_full _ rfl _ _ 85 rfl w.heap.size 72 ti (.int .u32 0) 1 Tryz.underlying85 hi hz0 hz1 .i64 .i64 _ _ (n + 1) rfl rfl rfl rfl (by rw [hz2]; omega) (by unfold maxLen; omega) (by simp [World.size_alloc]) ?_))
    intro w1 hown hgrow
    have hB1 : Below w.heap.size w w1 := hB.grown hgrow (by simp [World.size_alloc]) (fun k e => by cases e)
    have hK := Lib.hid (Blk.made hown)
    have hHB := Lib.hid hB1
    have hgw : w.heap.size + 1 < w1.heap.size := by
      have := hK.out.lt; simpa [World.size_alloc] using this
    clear hown hgrow hz2 hz1 hz0 hi ti hB hB1
    go_wp2_with fail
    go_loopw [7, 31] (addLoop n (w.heap.size + 1) q r w) (fun _ i _ => n - (intOf i).toNat)
    case atStart => exact ⟨0, 0, _, Nat.zero_le _, rfl, rfl, by omega, hK, Lib.hid (by simp), Lib.hid (by intro x hx; cases hx), Lib.hid (by simp [Na.val]), hHB⟩
    case round =>
      obtain ⟨k, cc, o, hk, rfl, rfl, hcc, HBl, HOl, HOk, HInv, HBe⟩ := hrel
      by_cases hlt2 : k < n
      · have hq1 : k < q.length := by have := HQ.out; omega
        obtain ⟨b1, o1, rfl, hb1, hc1⟩ := (S1.on HBe.out).plain (by omega)
        have c1 := hc1 k hq1
        have hx := S1.lt k hq1
        have VP := Lib.hid (Na.val_take_succ q k hq1)
        obtain ⟨x, hxe⟩ : ∃ x, q[k]'hq1 = x := ⟨_, rfl⟩
        rw [hxe] at c1 hx VP
        clear hc1 hxe
        have ho1 : k < o.length := by have := HOl.out; omega
        have co := HBl.out.cell k ho1
        have fo := HBl.out.frozen k
        by_cases hy : k < k'
        · have hr1 : k < r.length := by have := HR.out; omega
          obtain ⟨b2, o2, rfl, hb2, hc2⟩ := (S2.on HBe.out).plain (by omega)
          have c2 := hc2 k hr1
          have hyl := S2.lt k hr1
          have VQ := Lib.hid (Na.val_take_succ r k hr1)
          obtain ⟨y, hye⟩ : ∃ x, r[k]'hr1 = x := ⟨_, rfl⟩
          rw [hye] at c2 hyl VQ
          clear hc2 hye
          have HA32 := Lib.hid (add32_any x y cc hx hyl (by omega) wr)
          have HS := Lib.hid (Na.add_step o q r k x y cc ho1 HInv.out VP.out VQ.out)
          have HO2 := Lib.hid (Na.ok_set_take o k ((x + y + cc) % 4294967296) ho1 HOk.out (by omega))
          have hcc2 : (x + y + cc) / 4294967296 ≤ 1 := by omega
          obtain ⟨v, hv⟩ : ∃ v, v = (x + y + cc) % 4294967296 := ⟨_, rfl⟩
          obtain ⟨cn, hcn⟩ : ∃ v, v = (x + y + cc) / 4294967296 := ⟨_, rfl⟩
          rw [← hv, ← hcn] at HS HA32
          rw [← hv] at HO2
          rw [← hcn] at hcc2
          clear hv hcn
          go_wp2_with (first | (go_at_call 143; (with_reducible refine (HA32.out).mono ?_); rintro e w' ⟨rfl, rfl⟩))
          go_roundw
          case rel => exact ⟨k + 1, cn, o.set k v, by omega, by go_num, rfl, hcc2, Lib.hid (HBl.out.set k v), Lib.hid (by rw [List.length_set]; exact HOl.out), HO2, HS, Lib.hid (by have hbe := HBe.out; (repeat (first | exact Below.refl _ _ | assumption | refine Below.setCell ?_ (by first | omega | (simp <;> omega)) _ | refine Below.alloc ?_ (by first | omega | (simp <;> omega)) _ | refine Below.drew ?_ | refine below_drewN' ?_ _)))⟩
          case measure => simp [intOf]; omega
        · have VQ := Lib.hid (Na.take_more r k (by have := HR.out; omega))
          have HA32 := Lib.hid (show Calls Tryz.prog 143 #[.int .u32 x, .int .u32 0, .int .u32 cc] wr _ from add32_any x 0 cc hx (by omega) (by omega) wr)
          have HS := Lib.hid (Na.add_step o q r k x 0 cc ho1 HInv.out VP.out VQ.out)
          have HO2 := Lib.hid (Na.ok_set_take o k ((x + 0 + cc) % 4294967296) ho1 HOk.out (by omega))
          have hcc2 : (x + 0 + cc) / 4294967296 ≤ 1 := by omega
          obtain ⟨v, hv⟩ : ∃ v, v = (x + 0 + cc) % 4294967296 := ⟨_, rfl⟩
          obtain ⟨cn, hcn⟩ : ∃ v, v = (x + 0 + cc) / 4294967296 := ⟨_, rfl⟩
          rw [← hv, ← hcn] at HS HA32
          rw [← hv] at HO2
          rw [← hcn] at hcc2
          clear hv hcn
          go_wp2_with (first | (go_at_call 143; (with_reducible refine (HA32.out).mono ?_); rintro e w' ⟨rfl, rfl⟩))
          go_roundw
          case rel => exact ⟨k + 1, cn, o.set k v, by omega, by go_num, rfl, hcc2, Lib.hid (HBl.out.set k v), Lib.hid (by rw [List.length_set]; exact HOl.out), HO2, HS, Lib.hid (by have hbe := HBe.out; (repeat (first | exact Below.refl _ _ | assumption | refine Below.setCell ?_ (by first | omega | (simp <;> omega)) _ | refine Below.alloc ?_ (by first | omega | (simp <;> omega)) _ | refine Below.drew ?_ | refine below_drewN' ?_ _)))⟩
          case measure => simp [intOf]; omega
      · obtain rfl : k = n := by omega
        have ho1 : k < o.length := by have := HOl.out; omega
        have co := HBl.out.cell k ho1
        have fo := HBl.out.frozen k
        have hlen : (o.set k cc).length = k + 1 := by rw [List.length_set, HOl.out]
        have hv : Na.val (o.set k cc) = Na.val l + Na.val m := by
          have e1 := Na.val_set_take o k cc ho1
          rw [List.take_of_length_le (l := o.set k cc) (by omega), HInv.out, List.take_of_length_le (l := q) (by rw [HQ.out]; exact Nat.le_refl _), List.take_of_length_le (l := r) (by have := HR.out; omega), V1.out, V2.out] at e1
          rw [e1]
        have hok : Na.OK (o.set k cc) := by
          have := Na.ok_set_take o k cc ho1 HOk.out (by omega); rwa [List.take_of_length_le (by omega)] at this
        have HS := HBl.out.set k cc
        have HF := na_fits_any (some ⟨w.heap.size + 1, 0, none⟩) (k + 1) (o.set k cc) _ (HS.sl hok (by omega)) (by omega)
        rw [hlen] at HF
        have hbf : Below w.heap.size w (wr.setCell ⟨w.heap.size + 1, k, none⟩ (.int .u32 (cc : Int))) := (by have hbe := HBe.out; (repeat (first | exact Below.refl _ _ | assumption | refine Below.setCell ?_ (by first | omega | (simp <;> omega)) _ | refine Below.alloc ?_ (by first | omega | (simp <;> omega)) _ | refine Below.drew ?_ | refine below_drewN' ?_ _)))
        have HG := Lib.hid (fun e w' (hg : FitsR (some ⟨w.heap.size + 1, 0, none⟩) (o.set k cc) (wr.setCell ⟨w.heap.size + 1, k, none⟩ (.int .u32 (cc : Int))) e w') => (by have := hg.gives hbf (by omega) HS; rwa [hv, ← E2.out] at this : GivesE (Na.add l m) w e w'))
        have HF' := Lib.hid HF
        clear hv hok hlen HS HF hbf
        go_wp2_with (first | (go_at_call 144; (with_reducible refine (HF'.out).mono ?_); intro e w' hg; obtain ⟨a', c', rfl, hs, ho, hb⟩ := HG.out e w' hg))
        refine bodyPost_ret (v := .tuple #[.slice a' (Na.add l m).1.length c', .int .i64 (Na.add l m).2]) (by simp [results, Tryz.results88, go_sem]) rfl ⟨a', c', rfl, hs, ho, hb⟩

theorem na_add_any (a : Option Addr) (c : Nat) (l : List Nat) (b : Option Addr) (d : Nat) (m : List Nat) (w : World) (h : Sl w a c l) (h' : Sl w b d m) (hn : l.length ≤ 1000000) (hm : m.length ≤ 1000000) :
    Calls Tryz.prog 88 #[.slice a l.length c, .slice b m.length d] w (GivesE (Na.add l m) w) := by
  cases e : (Na.big l || Na.big m) with
  | true => exact na_add_big a c l b d m w h h' hn hm e
  | false => exact na_add_ok a c l b d m w h h' hn hm e
end Go.Proofs.YtjnkbifafbjckaaGreatDoor

/- Sub. -/
namespace Go.Proofs.YtjnkbifafbjckaaGreatDoor
set_option linter.all false
open Go.RowKit

theorem Na.sub_step (o P Q : List Nat) (k x y cc v cn : Nat) (hk : k < o.length) (inv : Na.val (o.take k) + Na.val (Q.take k) = Na.val (P.take k) + Na.B ^ k * cc) (hP : Na.val (P.take (k + 1)) = Na.val (P.take k) + Na.B ^ k * x)
    (hQ : Na.val (Q.take (k + 1)) = Na.val (Q.take k) + Na.B ^ k * y) (hs : v + y + cc = x + 4294967296 * cn) : Na.val ((o.set k v).take (k + 1)) + Na.val (Q.take (k + 1)) = Na.val (P.take (k + 1)) + Na.B ^ (k + 1) * cn := by
  have h1 := congrArg (Na.B ^ k * ·) hs
  simp only [Nat.mul_add, ← Nat.mul_assoc] at h1
  rw [Na.val_set_take o k _ hk, hP, hQ, Nat.pow_succ]
  simp only [Na.B] at h1 inv ⊢
  omega

def subLoop (n g : Nat) (P Q : List Nat) (w : World) (cv i : Value) (wr : World) : Prop := ∃ (k cc : Nat) (o : List Nat), k ≤ n ∧ i = .int .i64 k ∧ cv = .int .u32 cc ∧ cc ≤ 1 ∧ Hid (Blk wr g o) ∧ Hid (o.length = n) ∧ Hid (Na.OK (o.take k)) ∧
  Hid (Na.val (o.take k) + Na.val (Q.take k) = Na.val (P.take k) + Na.B ^ k * cc) ∧ Hid (Below w.heap.size w wr)

set_option maxHeartbeats 1000000 in
theorem na_sub_big (a : Option Addr) (c : Nat) (l : List Nat) (b : Option Addr) (d : Nat) (m : List Nat) (w : World) (h : Sl w a c l) (h' : Sl w b d m) (hn : l.length ≤ 1000000) (hm : m.length ≤ 1000000) (hbig : (Na.big l || Na.big m) = true) :
    Calls Tryz.prog 83 #[.slice a l.length c, .slice b m.length d] w (GivesE (Na.sub l m) w) := by
  have H1 := Lib.hid (na_over2_any h h' hn hm true hbig)
  have e2 := Lib.hid (show Na.sub l m = ([], 2) from if_pos hbig)
  have hB : Below w.heap.size w (w.alloc (Obj.cells #[Value.slice a l.length c, Value.slice b m.length d] 85)) := (Below.refl _ _).alloc (Nat.le_refl _) _
  clear hbig
  go_enter Tryz.func83, Tryz.ntmps83
  go_wp2_with (first | (go_at_call 137; (with_reducible refine (H1.out).mono ?_); rintro e w' ⟨rfl, rfl⟩))
  refine bodyPost_ret (v := .tuple #[.slice none 0 0, .int .i64 2]) (by simp [results, Tryz.results83, go_sem]) rfl ⟨none, 0, ?_, ?_, ?_, hB⟩ <;> rw [e2.out]
  · rfl
  · exact Sl.nil _ _ _
  · exact Own.nil _ _ _

set_option maxHeartbeats 2000000 in
theorem na_sub_ok (a : Option Addr) (c : Nat) (l : List Nat) (b : Option Addr) (d : Nat) (m : List Nat) (w : World) (h : Sl w a c l) (h' : Sl w b d m) (hn : l.length ≤ 1000000) (hm : m.length ≤ 1000000) (hbig : (Na.big l || Na.big m) = false) :
    Calls Tryz.prog 83 #[.slice a l.length c, .slice b m.length d] w (GivesE (Na.sub l m) w) := by
  have H1 := Lib.hid (na_over2_any h h' hn hm false hbig)
  have hB : Below w.heap.size w (w.alloc (Obj.cells #[Value.slice a l.length c, Value.slice b m.length d] 85)) := (Below.refl _ _).alloc (Nat.le_refl _) _
  have HC := Lib.hid (na_cmp_any a c l b d m _ (h.on hB) (h'.on hB) hn hm)
  have H2 := Lib.hid (fun wr (hb : Below w.heap.size w wr) => na_cut_any a c l wr (h.on hb) hn)
  have H3 := Lib.hid (fun wr (hb : Below w.heap.size w wr) => na_cut_any b d m wr (h'.on hb) hm)
  by_cases hcmp : Na.val l < Na.val m
  · have E2 := Lib.hid (show Na.sub l m = ([], 6) by rw [Na.sub, hbig, if_neg (by simp), if_pos hcmp])
    rw [Na.cmp_lt hcmp] at HC
    clear hbig hcmp H2 H3
    go_enter Tryz.func83, Tryz.ntmps83
    go_wp2_with (first | (go_at_call 137; (with_reducible refine (H1.out).mono ?_); rintro e w' ⟨rfl, rfl⟩) | (go_at_call 85; (with_reducible refine (HC.out).mono ?_); rintro e w2 ⟨rfl, hb2⟩))
    have hb : Below w.heap.size w w2 := hB.trans (hb2.mono (by simp [World.size_alloc]))
    refine bodyPost_ret (v := .tuple #[.slice none 0 0, .int .i64 6]) (by simp [results, Tryz.results83, go_sem]) rfl ⟨none, 0, ?_, ?_, ?_, hb⟩ <;> rw [E2.out]
    · rfl
    · exact Sl.nil _ _ _
    · exact Own.nil _ _ _
  · have E2 := Lib.hid (show Na.sub l m = (Na.limbs (Na.val l - Na.val m), 0) by rw [Na.sub, hbig, if_neg (by simp), if_neg hcmp])
    have hc0 : ∃ r : Int, r = Na.cmp l m ∧ decide (r < 0) = false := ⟨_, rfl, decide_eq_false (by rw [Na.cmp, if_neg hcmp]; split <;> omega)⟩
    obtain ⟨r0, hr0, hr1⟩ := hc0
    rw [← hr0] at HC
    have HGE := Lib.hid hcmp
    obtain ⟨hl1, hl2⟩ := Na.not_big hbig
    have hle : (Na.cut m).length ≤ (Na.cut l).length := Nat.le_of_not_lt fun hlt => hcmp (Na.lt_of_rt h.ok h'.ok hlt)
    have S1 := h.cut
    have S2 := h'.cut
    have V1 := Lib.hid (Na.val_cut (a := l))
    have V2 := Lib.hid (Na.val_cut (a := m))
    obtain ⟨q, hq⟩ : ∃ q, q = Na.cut l := ⟨_, rfl⟩
    obtain ⟨r, hr⟩ : ∃ r, r = Na.cut m := ⟨_, rfl⟩
    rw [← hq] at H2 hl1 S1 V1 hle
    rw [← hr] at H3 hl2 S2 V2 hle
    clear hq hr hbig hcmp hr0
    obtain ⟨n, hqn⟩ : ∃ n, q.length = n := ⟨_, rfl⟩
    obtain ⟨k', hrk⟩ : ∃ k, r.length = k := ⟨_, rfl⟩
    rw [hqn] at H2 hl1 hle
    rw [hrk] at H3 hl2 hle
    have HQ := Lib.hid hqn; have HR := Lib.hid hrk
    clear hqn hrk
    obtain ⟨ti, hi, hz0, hz1, hz2⟩ := info_parts infoU32
    go_enter Tryz.func83, Tryz.ntmps83
    go_wp2_with (first | (go_at_call 137; (with_reducible refine (H1.out).mono ?_); rintro e w' ⟨rfl, rfl⟩) | (go_at_call 85; (with_reducible refine (HC.out).mono ?_); rintro e w2 ⟨rfl, hb2⟩; have hB2 : Below w.heap.size w w2 := hB.trans (hb2.mono (by simp [World.size_alloc]))) | (go_at_call 138; (with_reducible refine (H2.out _ hB2).mono ?_); rintro e w' ⟨rfl, rfl⟩) | (go_at_call 138; (with_reducible refine (H3.out _ hB2).mono ?_); rintro e w' ⟨rfl, rfl⟩) | (at_make; refine wpList_make_full _ rfl _ _ 85 rfl w.heap.size 72 ti (.int .u32 0) 1 Tryz.underlying85 hi hz0 hz1 .i64 .i64 _ _ n rfl rfl rfl rfl (by rw [hz2]; omega) (by unfold maxLen; omega) hB2.size ?_))
    intro w3 hown hgrow
    have hB3 : Below w.heap.size w w3 := hB2.grown hgrow hB2.size (fun k e => by cases e)
    have hK := Lib.hid (Blk.made hown)
    have hHB := Lib.hid hB3
    have hg := hB2.size
    obtain ⟨g, hgg⟩ : ∃ g, g = w2.heap.size := ⟨_, rfl⟩
    rw [← hgg] at hK hg ⊢
    clear hown hgrow hz2 hz1 hz0 hi ti hB hB2 hB3 hb2 hgg H1 HC hr1
    go_wp2_with fail
    go_loopw [7, 29] (subLoop n g q r w) (fun _ i _ => n - (intOf i).toNat)
    case atStart => exact ⟨0, 0, _, Nat.zero_le _, rfl, rfl, by omega, hK, Lib.hid (by simp), Lib.hid (by intro x hx; cases hx), Lib.hid (by simp [Na.val]), hHB⟩
    case round =>
      obtain ⟨k, cc, o, hk, rfl, rfl, hcc, HBl, HOl, HOk, HInv, HBe⟩ := hrel
      by_cases hlt2 : k < n
      · have hq1 : k < q.length := by have := HQ.out; omega
        obtain ⟨b1, o1, rfl, hb1, hc1⟩ := (S1.on HBe.out).plain (by omega)
        have c1 := hc1 k hq1
        have hx := S1.lt k hq1
        have VP := Lib.hid (Na.val_take_succ q k hq1)
        obtain ⟨x, hxe⟩ : ∃ x, q[k]'hq1 = x := ⟨_, rfl⟩
        rw [hxe] at c1 hx VP
        clear hc1 hxe
        have ho1 : k < o.length := by have := HOl.out; omega
        have co := HBl.out.cell k ho1
        have fo := HBl.out.frozen k
        by_cases hy : k < k'
        · have hr1 : k < r.length := by have := HR.out; omega
          obtain ⟨b2, o2, rfl, hb2, hc2⟩ := (S2.on HBe.out).plain (by omega)
          have c2 := hc2 k hr1
          have hyl := S2.lt k hr1
          have VQ := Lib.hid (Na.val_take_succ r k hr1)
          obtain ⟨y, hye⟩ : ∃ x, r[k]'hr1 = x := ⟨_, rfl⟩
          rw [hye] at c2 hyl VQ
          clear hc2 hye
          have HA32 := Lib.hid (sub32_any x y cc hx hyl hcc wr)
          have HE := Lib.hid (show (x + 4294967296 - y - cc) % 4294967296 + y + cc = x + 4294967296 * (if x < y + cc then 1 else 0) by split <;> omega)
          have hcc2 : (if x < y + cc then 1 else 0) ≤ 1 := by split <;> omega
          have HO2 := Lib.hid (Na.ok_set_take o k ((x + 4294967296 - y - cc) % 4294967296) ho1 HOk.out (by omega))
          obtain ⟨v, hv⟩ : ∃ v, v = (x + 4294967296 - y - cc) % 4294967296 := ⟨_, rfl⟩
          obtain ⟨cn, hcn⟩ : ∃ v, v = if x < y + cc then 1 else 0 := ⟨_, rfl⟩
          rw [← hv] at HO2
          rw [← hv, ← hcn] at HE HA32
          rw [← hcn] at hcc2
          clear hv hcn
          have HS := Lib.hid (Na.sub_step o q r k x y cc v cn ho1 HInv.out VP.out VQ.out HE.out)
          clear HE
          go_wp2_with (first | (go_at_call 142; (with_reducible refine (HA32.out).mono ?_); rintro e w' ⟨rfl, rfl⟩))
          go_roundw
          case rel => exact ⟨k + 1, cn, o.set k v, by omega, by go_num, rfl, hcc2, Lib.hid (HBl.out.set k v), Lib.hid (by rw [List.length_set]; exact HOl.out), HO2, HS, Lib.hid (by have hbe := HBe.out; (repeat (first | exact Below.refl _ _ | assumption | refine Below.setCell ?_ (by first | omega | (simp <;> omega)) _ | refine Below.alloc ?_ (by first | omega | (simp <;> omega)) _ | refine Below.drew ?_ | refine below_drewN' ?_ _)))⟩
          case measure => simp [intOf]; omega
        · have VQ := Lib.hid (Na.take_more r k (by have := HR.out; omega))
          have HA32 := Lib.hid (show Calls Tryz.prog 142 #[.int .u32 x, .int .u32 0, .int .u32 cc] wr _ from sub32_any x 0 cc hx (by omega) hcc wr)
          have HE := Lib.hid (show (x + 4294967296 - 0 - cc) % 4294967296 + 0 + cc = x + 4294967296 * (if x < 0 + cc then 1 else 0) by split <;> omega)
          have hcc2 : (if x < 0 + cc then 1 else 0) ≤ 1 := by split <;> omega
          have HO2 := Lib.hid (Na.ok_set_take o k ((x + 4294967296 - 0 - cc) % 4294967296) ho1 HOk.out (by omega))
          obtain ⟨v, hv⟩ : ∃ v, v = (x + 4294967296 - 0 - cc) % 4294967296 := ⟨_, rfl⟩
          obtain ⟨cn, hcn⟩ : ∃ v, v = if x < 0 + cc then 1 else 0 := ⟨_, rfl⟩
          rw [← hv] at HO2
          rw [← hv, ← hcn] at HE HA32
          rw [← hcn] at hcc2
          clear hv hcn
          have HS := Lib.hid (Na.sub_step o q r k x 0 cc v cn ho1 HInv.out VP.out VQ.out HE.out)
          clear HE
          go_wp2_with (first | (go_at_call 142; (with_reducible refine (HA32.out).mono ?_); rintro e w' ⟨rfl, rfl⟩))
          go_roundw
          case rel => exact ⟨k + 1, cn, o.set k v, by omega, by go_num, rfl, hcc2, Lib.hid (HBl.out.set k v), Lib.hid (by rw [List.length_set]; exact HOl.out), HO2, HS, Lib.hid (by have hbe := HBe.out; (repeat (first | exact Below.refl _ _ | assumption | refine Below.setCell ?_ (by first | omega | (simp <;> omega)) _ | refine Below.alloc ?_ (by first | omega | (simp <;> omega)) _ | refine Below.drew ?_ | refine below_drewN' ?_ _)))⟩
          case measure => simp [intOf]; omega
      · obtain rfl : k = n := by omega
        have hok : Na.OK o := by have := HOk.out; rwa [List.take_of_length_le (by rw [HOl.out]; exact Nat.le_refl _)] at this
        have hval : Na.val o = Na.val l - Na.val m := by
          have e1 := HInv.out
          have e3 := Na.val_lt o hok
          rw [HOl.out] at e3
          rw [List.take_of_length_le (l := o) (by rw [HOl.out]; exact Nat.le_refl _), List.take_of_length_le (l := q) (by rw [HQ.out]; exact Nat.le_refl _), List.take_of_length_le (l := r) (by have := HR.out; omega), V1.out, V2.out] at e1
          have hge := HGE.out
          rcases (show cc = 0 ∨ cc = 1 by omega) with rfl | rfl
          · omega
          · omega
        have hcut : Na.cut o = Na.limbs (Na.val l - Na.val m) := by rw [Na.cut, hval]
        have HF := na_cut_any (some ⟨g, 0, none⟩) k o wr (HBl.out.sl hok (by rw [HOl.out]; exact Nat.le_refl _)) (by rw [HOl.out]; omega)
        have HSl : Sl wr (some ⟨g, 0, none⟩) k (Na.cut o) := (HBl.out.sl hok (by rw [HOl.out]; exact Nat.le_refl _)).cut
        rw [HOl.out, hcut] at HF
        rw [hcut] at HSl
        have HF' := Lib.hid HF
        clear hval hcut HF
        go_wp2_with (first | (go_at_call 138; (with_reducible refine (HF'.out).mono ?_); rintro e w' ⟨rfl, rfl⟩))
        refine bodyPost_ret (v := .tuple #[.slice (some ⟨g, 0, none⟩) (Na.limbs (Na.val l - Na.val m)).length k, .int .i64 0]) (by simp [results, Tryz.results83, go_sem]) rfl ⟨some ⟨g, 0, none⟩, k, ?_, ?_, HBl.out.own (by omega), HBe.out⟩ <;> rw [E2.out]
        exact HSl

theorem na_sub_any (a : Option Addr) (c : Nat) (l : List Nat) (b : Option Addr) (d : Nat) (m : List Nat) (w : World) (h : Sl w a c l) (h' : Sl w b d m) (hn : l.length ≤ 1000000) (hm : m.length ≤ 1000000) :
    Calls Tryz.prog 83 #[.slice a l.length c, .slice b m.length d] w (GivesE (Na.sub l m) w) := by
  cases e : (Na.big l || Na.big m) with
  | true => exact na_sub_big a c l b d m w h h' hn hm e
  | false => exact na_sub_ok a c l b d m w h h' hn hm e
end Go.Proofs.YtjnkbifafbjckaaGreatDoor

/- Plain Lean: the product, limb by limb. -/
namespace Go.Proofs.YtjnkbifafbjckaaGreatDoor.Na
set_option linter.all false
open Go

theorem val_set (o : List Nat) (j v : Nat) : ∀ h : j < o.length, val (o.set j v) + B ^ j * o[j] = val o + B ^ j * v := by
  induction o generalizing j with
  | nil => intro h; simp at h
  | cons x o ih =>
    intro h
    cases j with
    | zero => simp [val]; omega
    | succ j =>
      have hj : j < o.length := by simpa using h
      have := congrArg (B * ·) (ih j hj)
      simp only [Nat.mul_add, ← Nat.mul_assoc] at this
      simp only [List.set_cons_succ, val, List.getElem_cons_succ, Nat.pow_succ, Nat.mul_comm (B ^ j) B]
      omega
theorem ok_set {o : List Nat} (h : OK o) (j v : Nat) (hv : v < 4294967296) : OK (o.set j v) := by
  intro x hx
  rcases List.mem_or_eq_of_mem_set hx with hx | rfl
  · exact h x hx
  · exact hv
theorem val_set_in (o : List Nat) (N j v : Nat) (hj : j < N) (h : j < o.length) : val ((o.set j v).take N) + B ^ j * o[j] = val (o.take N) + B ^ j * v := by
  rw [List.take_set]
  have h2 : j < (o.take N).length := by rw [List.length_take]; omega
  have := val_set (o.take N) j v h2
  rw [List.getElem_take] at this; exact this
theorem prod_le (x y z c : Nat) (hx : x < 4294967296) (hy : y < 4294967296) (hz : z < 4294967296) (hc : c < 4294967296) : x * y ≤ 18446744065119617025 ∧ x * y + z + c < 18446744073709551616 := by
  have := Nat.mul_le_mul (show x ≤ 4294967295 by omega) (show y ≤ 4294967295 by omega)
  omega
theorem mul_step (o : List Nat) (N i j x y z c M rk rk1 : Nat) (hj : i + j < N) (h : i + j < o.length) (hz : o[i + j] = z) (inv : val (o.take N) + B ^ (i + j) * c = M + B ^ i * x * rk) (hr : rk1 = rk + B ^ j * y) :
    val ((o.set (i + j) ((x * y + z + c) % 4294967296)).take N) + B ^ (i + j + 1) * ((x * y + z + c) / 4294967296) = M + B ^ i * x * rk1 := by
  have h1 := val_set_in o N (i + j) ((x * y + z + c) % 4294967296) hj h
  have h2 := split_digit (B ^ (i + j)) (x * y + z + c)
  rw [hz] at h1
  have h3 : B ^ i * x * (B ^ j * y) = B ^ (i + j) * (x * y) := by
    rw [Nat.pow_add, Nat.mul_assoc, Nat.mul_assoc, Nat.mul_left_comm x]
  rw [hr, Nat.mul_add (B ^ i * x), h3, Nat.pow_succ]
  rw [Nat.mul_add, Nat.mul_add] at h2
  simp only [B] at h1 h2 inv ⊢
  omega
theorem mul_row (q r : List Nat) (i x : Nat) (h : val (q.take (i + 1)) = val (q.take i) + B ^ i * x) : val (q.take i) * val r + B ^ i * x * val r = val (q.take (i + 1)) * val r := by
  rw [h, Nat.add_mul]
end Go.Proofs.YtjnkbifafbjckaaGreatDoor.Na
