/- Sub. -/
import Derived.Test.YtcdndcbfmlnpjaaGreatDoorN6
namespace Go.Proofs.YtcdndcbfmlnpjaaGreatDoor
set_option linter.all false
open Go.RowKit

theorem Na.sub_step (o P Q : List Nat) (k x y cc v cn : Nat) (hk : k < o.length) (inv : Na.val (o.take k) + Na.val (Q.take k) = Na.val (P.take k) + Na.B ^ k * cc) (hP : Na.val (P.take (k + 1)) = Na.val (P.take k) + Na.B ^ k * x)
    (hQ : Na.val (Q.take (k + 1)) = Na.val (Q.take k) + Na.B ^ k * y) (hs : v + y + cc = x + 4294967296 * cn) : Na.val ((o.set k v).take (k + 1)) + Na.val (Q.take (k + 1)) = Na.val (P.take (k + 1)) + Na.B ^ (k + 1) * cn := by
  have h1 := congrArg (Na.B ^ k * ·) hs
  simp only [Nat.mul_add, ← Nat.mul_assoc] at h1
  rw [Na.val_set_take o k _ hk, hP, hQ, Nat.pow_succ]
  simp only [Na.B] at h1 inv ⊢
  omega

def subLoop (n g : Nat) (P Q : List Nat) (w : World) (cv i : Value) (wr : World) : Prop := ∃ (k cc : Nat) (o : List Nat), k ≤ n ∧ i = .int .i64 k ∧ cv = .int .u32 cc ∧ cc ≤ 1 ∧ Hid (Blk wr g o) ∧ Hid (o.length = n) ∧ Hid (Na.OK (o.take k)) ∧
  Hid (Na.val (o.take k) + Na.val (Q.take k) = Na.val (P.take k) + Na.B ^ k * cc) ∧ Hid (Below w.heap.size w wr)

set_option maxHeartbeats 1000000 in
theorem na_sub_big (a : Option Addr) (c : Nat) (l : List Nat) (b : Option Addr) (d : Nat) (m : List Nat) (w : World) (h : Sl w a c l) (h' : Sl w b d m) (hn : l.length ≤ 1000000) (hm : m.length ≤ 1000000) (hbig : (Na.big l || Na.big m) = true) :
    Calls Tryz.prog 21 #[.slice a l.length c, .slice b m.length d] w (GivesE (Na.sub l m) w) := by
  have H1 := Lib.hid (na_over2_any h h' hn hm true hbig)
  have e2 := Lib.hid (show Na.sub l m = ([], 2) from if_pos hbig)
  have hB : Below w.heap.size w (w.alloc (Obj.cells #[Value.slice a l.length c, Value.slice b m.length d] 26)) := (Below.refl _ _).alloc (Nat.le_refl _) _
  clear hbig
  go_enter Tryz.func21, Tryz.ntmps21
  go_wp2_with (first | (go_at_call 40; (with_reducible refine (H1.out).mono ?_); rintro e w' ⟨rfl, rfl⟩))
  refine bodyPost_ret (v := .tuple #[.slice none 0 0, .int .i64 2]) (by simp [results, Tryz.results21, go_sem]) rfl ⟨none, 0, ?_, ?_, ?_, hB⟩ <;> rw [e2.out]
  · rfl
  · exact Sl.nil _ _ _
  · exact Own.nil _ _ _

set_option maxHeartbeats 2000000 in
theorem na_sub_ok (a : Option Addr) (c : Nat) (l : List Nat) (b : Option Addr) (d : Nat) (m : List Nat) (w : World) (h : Sl w a c l) (h' : Sl w b d m) (hn : l.length ≤ 1000000) (hm : m.length ≤ 1000000) (hbig : (Na.big l || Na.big m) = false) :
    Calls Tryz.prog 21 #[.slice a l.length c, .slice b m.length d] w (GivesE (Na.sub l m) w) := by
  have H1 := Lib.hid (na_over2_any h h' hn hm false hbig)
  have hB : Below w.heap.size w (w.alloc (Obj.cells #[Value.slice a l.length c, Value.slice b m.length d] 26)) := (Below.refl _ _).alloc (Nat.le_refl _) _
  have HC := Lib.hid (na_cmp_any a c l b d m _ (h.on hB) (h'.on hB) hn hm)
  have H2 := Lib.hid (fun wr (hb : Below w.heap.size w wr) => na_cut_any a c l wr (h.on hb) hn)
  have H3 := Lib.hid (fun wr (hb : Below w.heap.size w wr) => na_cut_any b d m wr (h'.on hb) hm)
  by_cases hcmp : Na.val l < Na.val m
  · have E2 := Lib.hid (show Na.sub l m = ([], 6) by rw [Na.sub, hbig, if_neg (by simp), if_pos hcmp])
    rw [Na.cmp_lt hcmp] at HC
    clear hbig hcmp H2 H3
    go_enter Tryz.func21, Tryz.ntmps21
    go_wp2_with (first | (go_at_call 40; (with_reducible refine (H1.out).mono ?_); rintro e w' ⟨rfl, rfl⟩) | (go_at_call 17; (with_reducible refine (HC.out).mono ?_); rintro e w2 ⟨rfl, hb2⟩))
    have hb : Below w.heap.size w w2 := hB.trans (hb2.mono (by simp [World.size_alloc]))
    refine bodyPost_ret (v := .tuple #[.slice none 0 0, .int .i64 6]) (by simp [results, Tryz.results21, go_sem]) rfl ⟨none, 0, ?_, ?_, ?_, hb⟩ <;> rw [E2.out]
    · rfl
    · exact Sl.nil _ _ _
    · exact Own.nil _ _ _
  · have E2 := Lib.hid (show Na.sub l m = (Na.limbs (Na.val l - Na.val m), 0) by rw [Na.sub, hbig, if_neg (by simp), if_neg hcmp])
    have hc0 : ∃ r : Int, r = Na.cmp l m ∧ decide (r < 0) = false := ⟨_, rfl, decide_eq_false (by rw [Na.cmp, if_neg hcmp]; split <;> omega)⟩
    obtain ⟨r0, hr0, hr1⟩ := hc0
    rw [← hr0] at HC
    have HGE := Lib.hid hcmp
    obtain ⟨hl1, hl2⟩ := Na.not_big hbig
    have hle : (Na.cut m).length ≤ (Na.cut l).length := Nat.le_of_not_lt fun hlt => hcmp (Na.lt_of_rt h.ok h'.ok hlt)
    have S1 := h.cut
    have S2 := h'.cut
    have V1 := Lib.hid (Na.val_cut (a := l))
    have V2 := Lib.hid (Na.val_cut (a := m))
    obtain ⟨q, hq⟩ : ∃ q, q = Na.cut l := ⟨_, rfl⟩
    obtain ⟨r, hr⟩ : ∃ r, r = Na.cut m := ⟨_, rfl⟩
    rw [← hq] at H2 hl1 S1 V1 hle
    rw [← hr] at H3 hl2 S2 V2 hle
    clear hq hr hbig hcmp hr0
    obtain ⟨n, hqn⟩ : ∃ n, q.length = n := ⟨_, rfl⟩
    obtain ⟨k', hrk⟩ : ∃ k, r.length = k := ⟨_, rfl⟩
    rw [hqn] at H2 hl1 hle
    rw [hrk] at H3 hl2 hle
    have HQ := Lib.hid hqn; have HR := Lib.hid hrk
    clear hqn hrk
    obtain ⟨ti, hi, hz0, hz1, hz2⟩ := info_parts infoU32
    go_enter Tryz.func21, Tryz.ntmps21
    go_wp2_with (first | (go_at_call 40; (with_reducible refine (H1.out).mono ?_); rintro e w' ⟨rfl, rfl⟩) | (go_at_call 17; (with_reducible refine (HC.out).mono ?_); rintro e w2 ⟨rfl, hb2⟩; have hB2 : Below w.heap.size w w2 := hB.trans (hb2.mono (by simp [World.size_alloc]))) | (go_at_call 38; (with_reducible refine (H2.out _ hB2).mono ?_); rintro e w' ⟨rfl, rfl⟩) | (go_at_call 38; (with_reducible refine (H3.out _ hB2).mono ?_); rintro e w' ⟨rfl, rfl⟩) | (at_make; refine wpList_make_full _ rfl _ _ 26 rfl w.heap.size 63 ti (.int .u32 0) 1 Tryz.underlying26 hi hz0 hz1 .i64 .i64 _ _ n rfl rfl rfl rfl (by rw [hz2]; omega) (by unfold maxLen; omega) hB2.size ?_))
    intro w3 hown hgrow
    have hB3 : Below w.heap.size w w3 := hB2.grown hgrow hB2.size (fun k e => by cases e)
    have hK := Lib.hid (Blk.made hown)
    have hHB := Lib.hid hB3
    have hg := hB2.size
    obtain ⟨g, hgg⟩ : ∃ g, g = w2.heap.size := ⟨_, rfl⟩
    rw [← hgg] at hK hg ⊢
    clear hown hgrow hz2 hz1 hz0 hi ti hB hB2 hB3 hb2 hgg H1 HC hr1
    go_wp2_with fail
    go_loopw [7, 29] (subLoop n g q r w) (fun _ i _ => n - (intOf i).toNat)
    case atStart => exact ⟨0, 0, _, Nat.zero_le _, rfl, rfl, by omega, hK, Lib.hid (by simp), Lib.hid (by intro x hx; cases hx), Lib.hid (by simp [Na.val]), hHB⟩
    case round =>
      obtain ⟨k, cc, o, hk, rfl, rfl, hcc, HBl, HOl, HOk, HInv, HBe⟩ := hrel
      by_cases hlt2 : k < n
      · have hq1 : k < q.length := by have := HQ.out; omega
        obtain ⟨b1, o1, rfl, hb1, hc1⟩ := (S1.on HBe.out).plain (by omega)
        have c1 := hc1 k hq1
        have hx := S1.lt k hq1
        have VP := Lib.hid (Na.val_take_succ q k hq1)
        obtain ⟨x, hxe⟩ : ∃ x, q[k]'hq1 = x := ⟨_, rfl⟩
        rw [hxe] at c1 hx VP
        clear hc1 hxe
        have ho1 : k < o.length := by have := HOl.out; omega
        have co := HBl.out.cell k ho1
        have fo := HBl.out.frozen k
        by_cases hy : k < k'
        · have hr1 : k < r.length := by have := HR.out; omega
          obtain ⟨b2, o2, rfl, hb2, hc2⟩ := (S2.on HBe.out).plain (by omega)
          have c2 := hc2 k hr1
          have hyl := S2.lt k hr1
          have VQ := Lib.hid (Na.val_take_succ r k hr1)
          obtain ⟨y, hye⟩ : ∃ x, r[k]'hr1 = x := ⟨_, rfl⟩
          rw [hye] at c2 hyl VQ
          clear hc2 hye
          have HA32 := Lib.hid (sub32_any x y cc hx hyl hcc wr)
          have HE := Lib.hid (show (x + 4294967296 - y - cc) % 4294967296 + y + cc = x + 4294967296 * (if x < y + cc then 1 else 0) by split <;> omega)
          have hcc2 : (if x < y + cc then 1 else 0) ≤ 1 := by split <;> omega
          have HO2 := Lib.hid (Na.ok_set_take o k ((x + 4294967296 - y - cc) % 4294967296) ho1 HOk.out (by omega))
          obtain ⟨v, hv⟩ : ∃ v, v = (x + 4294967296 - y - cc) % 4294967296 := ⟨_, rfl⟩
          obtain ⟨cn, hcn⟩ : ∃ v, v = if x < y + cc then 1 else 0 := ⟨_, rfl⟩
          rw [← hv] at HO2
          rw [← hv, ← hcn] at HE HA32
          rw [← hcn] at hcc2
          clear hv hcn
          have HS := Lib.hid (Na.sub_step o q r k x y cc v cn ho1 HInv.out VP.out VQ.out HE.out)
          clear HE
          go_wp2_with (first | (go_at_call 46; (with_reducible refine (HA32.out).mono ?_); rintro e w' ⟨rfl, rfl⟩))
          go_roundw
          case rel => exact ⟨k + 1, cn, o.set k v, by omega, by go_num, rfl, hcc2, Lib.hid (HBl.out.set k v), Lib.hid (by rw [List.length_set]; exact HOl.out), HO2, HS, Lib.hid (by have hbe := HBe.out; (repeat (first | exact Below.refl _ _ | assumption | refine Below.setCell ?_ (by first | omega | (simp <;> omega)) _ | refine Below.alloc ?_ (by first | omega | (simp <;> omega)) _ | refine Below.drew ?_ | refine below_drewN' ?_ _)))⟩
          case measure => simp [intOf]; omega
        · have VQ := Lib.hid (Na.take_more r k (by have := HR.out; omega))
          have HA32 := Lib.hid (show Calls Tryz.prog 46 #[.int .u32 x, .int .u32 0, .int .u32 cc] wr _ from sub32_any x 0 cc hx (by omega) hcc wr)
          have HE := Lib.hid (show (x + 4294967296 - 0 - cc) % 4294967296 + 0 + cc = x + 4294967296 * (if x < 0 + cc then 1 else 0) by split <;> omega)
          have hcc2 : (if x < 0 + cc then 1 else 0) ≤ 1 := by split <;> omega
          have HO2 := Lib.hid (Na.ok_set_take o k ((x + 4294967296 - 0 - cc) % 4294967296) ho1 HOk.out (by omega))
          obtain ⟨v, hv⟩ : ∃ v, v = (x + 4294967296 - 0 - cc) % 4294967296 := ⟨_, rfl⟩
          obtain ⟨cn, hcn⟩ : ∃ v, v = if x < 0 + cc then 1 else 0 := ⟨_, rfl⟩
          rw [← hv] at HO2
          rw [← hv, ← hcn] at HE HA32
          rw [← hcn] at hcc2
          clear hv hcn
          have HS := Lib.hid (Na.sub_step o q r k x 0 cc v cn ho1 HInv.out VP.out VQ.out HE.out)
          clear HE
          go_wp2_with (first | (go_at_call 46; (with_reducible refine (HA32.out).mono ?_); rintro e w' ⟨rfl, rfl⟩))
          go_roundw
          case rel => exact ⟨k + 1, cn, o.set k v, by omega, by go_num, rfl, hcc2, Lib.hid (HBl.out.set k v), Lib.hid (by rw [List.length_set]; exact HOl.out), HO2, HS, Lib.hid (by have hbe := HBe.out; (repeat (first | exact Below.refl _ _ | assumption | refine Below.setCell ?_ (by first | omega | (simp <;> omega)) _ | refine Below.alloc ?_ (by first | omega | (simp <;> omega)) _ | refine Below.drew ?_ | refine below_drewN' ?_ _)))⟩
          case measure => simp [intOf]; omega
      · obtain rfl : k = n := by omega
        have hok : Na.OK o := by have := HOk.out; rwa [List.take_of_length_le (by rw [HOl.out]; exact Nat.le_refl _)] at this
        have hval : Na.val o = Na.val l - Na.val m := by
          have e1 := HInv.out
          have e3 := Na.val_lt o hok
          rw [HOl.out] at e3
          rw [List.take_of_length_le (l := o) (by rw [HOl.out]; exact Nat.le_refl _), List.take_of_length_le (l := q) (by rw [HQ.out]; exact Nat.le_refl _), List.take_of_length_le (l := r) (by have := HR.out; omega), V1.out, V2.out] at e1
          have hge := HGE.out
          rcases (show cc = 0 ∨ cc = 1 by omega) with rfl | rfl
          · omega
          · omega
        have hcut : Na.cut o = Na.limbs (Na.val l - Na.val m) := by rw [Na.cut, hval]
        have HF := na_cut_any (some ⟨g, 0, none⟩) k o wr (HBl.out.sl hok (by rw [HOl.out]; exact Nat.le_refl _)) (by rw [HOl.out]; omega)
        have HSl : Sl wr (some ⟨g, 0, none⟩) k (Na.cut o) := (HBl.out.sl hok (by rw [HOl.out]; exact Nat.le_refl _)).cut
        rw [HOl.out, hcut] at HF
        rw [hcut] at HSl
        have HF' := Lib.hid HF
        clear hval hcut HF
        go_wp2_with (first | (go_at_call 38; (with_reducible refine (HF'.out).mono ?_); rintro e w' ⟨rfl, rfl⟩))
        refine bodyPost_ret (v := .tuple #[.slice (some ⟨g, 0, none⟩) (Na.limbs (Na.val l - Na.val m)).length k, .int .i64 0]) (by simp [results, Tryz.results21, go_sem]) rfl ⟨some ⟨g, 0, none⟩, k, ?_, ?_, HBl.out.own (by omega), HBe.out⟩ <;> rw [E2.out]
        exact HSl

theorem na_sub_any (a : Option Addr) (c : Nat) (l : List Nat) (b : Option Addr) (d : Nat) (m : List Nat) (w : World) (h : Sl w a c l) (h' : Sl w b d m) (hn : l.length ≤ 1000000) (hm : m.length ≤ 1000000) :
    Calls Tryz.prog 21 #[.slice a l.length c, .slice b m.length d] w (GivesE (Na.sub l m) w) := by
  cases e : (Na.big l || Na.big m) with
  | true => exact na_sub_big a c l b d m w h h' hn hm e
  | false => exact na_sub_ok a c l b d m w h h' hn hm e
end Go.Proofs.YtcdndcbfmlnpjaaGreatDoor
