/- short. -/
import Derived.Test.YtiglekomfgfilaaGreatDoorX3
import Derived.BigRegion
import Derived.Lib.ItoaNum
import Derived.Lib.RepeatB
namespace Go.Proofs.YtiglekomfgfilaaGreatDoor
set_option maxRecDepth 100000
set_option maxHeartbeats 1000000
set_option linter.all false
open Go.RowKit
def shortLoop (N d n g L : Nat) (w : World) (rv iv : Value) (wr : World) : Prop := ∃ (j r : Nat) (o : List Nat), j ≤ n ∧ iv = .int .i64 j ∧ rv = .int .u64 r ∧ r < d ∧ Hid (Blk wr g o) ∧ Hid (o.length = L) ∧ Hid (Na.OK o) ∧
  Hid (N + d * Na.val (o.take (n - j)) = Na.val (o.take (n - j)) + Na.B ^ (n - j) * r + d * Na.val (o.take n)) ∧ Hid (Below g w wr)
theorem na_short_any (g n c d : Nat) (o : List Nat) (w : World) (hb : Blk w g o) (hok : Na.OK o) (hn : n ≤ o.length) (hn2 : n ≤ 1000000) (hd0 : 0 < d) (hd : d < 4294967296) :
    Calls Tryz.prog 120 #[.slice (some ⟨g, 0, none⟩) n c, .int .u32 d] w (fun e w' => e = .returned (.int .u32 (Na.val (o.take n) % d : Nat)) ∧ Below g w w' ∧ ∃ o', Blk w' g o' ∧ o'.length = o.length ∧ Na.OK o' ∧ Na.val (o'.take n) = Na.val (o.take n) / d) := by
  obtain ⟨N, hN⟩ : ∃ N, N = Na.val (o.take n) := ⟨_, rfl⟩
  obtain ⟨L, hL⟩ : ∃ L, L = o.length := ⟨_, rfl⟩
  rw [← hN, ← hL]
  have HI := Lib.hid (show N + d * Na.val (o.take n) = Na.val (o.take n) + Na.B ^ n * 0 + d * Na.val (o.take n) by rw [hN]; simp)
  have HB0 := Lib.hid hb
  have HO0 := Lib.hid hok
  have HL := Lib.hid hL
  have HNL := Lib.hid (hL ▸ hn)
  clear hN hL hb hok hn
  go_enter Tryz.func120, Tryz.ntmps120
  go_wp2_with fail
  go_loopw [5, 11] (shortLoop N d n g L w) (fun _ i _ => n - (intOf i).toNat)
  case atStart => exact ⟨0, 0, o, Nat.zero_le _, rfl, rfl, hd0, HB0, Lib.hid HL.out.symm, HO0, HI, Lib.hid (Below.refl _ _)⟩
  case round =>
    clear HI HB0 HO0 HL
    obtain ⟨j, r, o2, hj, rfl, rfl, hr, HBl, HOl, HOk, HInv, HBe⟩ := hrel
    by_cases hlt : j < n
    · obtain ⟨t, rfl⟩ : ∃ t, n = j + 1 + t := ⟨n - (j + 1), by omega⟩
      have e1 : j + 1 + t - j = t + 1 := by omega
      have e2 : j + 1 + t - (j + 1) = t := by omega
      have ho1 : t < o2.length := by have := HOl.out; have := HNL.out; omega
      have co := HBl.out.cell t ho1
      have fo := HBl.out.frozen t
      have hz : o2[t] < 4294967296 := HOk.out _ (List.getElem_mem ho1)
      obtain ⟨z, hze⟩ : ∃ x, o2[t]'ho1 = x := ⟨_, rfl⟩
      rw [hze] at co hz
      have HS := Lib.hid (Na.short_step N d o2 (j + 1 + t) t r z (by omega) ho1 hze (by rw [← e1]; exact HInv.out))
      have hs1 := Na.short_lt r z d hr hz
      have hs2 : (r * 4294967296 + z) % d < d := Nat.mod_lt _ hd0
      have hor := Na.or_limb r z (by omega) hz
      have hs3 : r * 4294967296 + z < 18446744073709551616 := by omega
      obtain ⟨s, hs⟩ : ∃ s, s = r * 4294967296 + z := ⟨_, rfl⟩
      rw [← hs] at HS hs1 hs2 hor hs3
      have E2 := Lib.hid e2
      have hor' : bits BinOp.or IntKind.u64 ((r : Int) * 4294967296) (z : Int) = (s : Int) := by rw [← hor]; simp
      have hdz : ((d : Int) == 0) = false := by simp; omega
      obtain ⟨v, hv⟩ : ∃ v, v = s / d := ⟨_, rfl⟩
      obtain ⟨r2, hr2⟩ : ∃ v, v = s % d := ⟨_, rfl⟩
      rw [← hv, ← hr2] at HS
      rw [← hv] at hs1
      rw [← hr2] at hs2
      have hvi : (s : Int) / (d : Int) = (v : Int) := by rw [hv]; simp
      have hri : (s : Int) % (d : Int) = (r2 : Int) := by rw [hr2]; simp
      clear hze hs hor e1 e2 hv hr2
      go_wp2_with fail
      go_region
      go_wp2_with fail
      go_roundw
      case rel => exact ⟨j + 1, r2, o2.set t v, by omega, by go_num, by rw [hri], hs2, Lib.hid (HBl.out.set _ _ : Blk _ _ _), Lib.hid (by rw [List.length_set]; exact HOl.out), Lib.hid (Na.ok_set HOk.out _ _ hs1), Lib.hid (by rw [E2.out]; exact HS.out), Lib.hid (by have hbe := HBe.out; (repeat (first | exact Below.refl _ _ | assumption | refine Below.setCell ?_ (by first | omega | (simp <;> omega)) _ | refine Below.alloc ?_ (by first | omega | (simp <;> omega)) _ | refine Below.drew ?_ | refine below_drewN' ?_ _)))⟩
      case measure => simp [intOf]; omega
    · obtain rfl : j = n := by omega
      have HE := Lib.hid (Na.short_end N d (Na.val (o2.take j)) r hr (by have := HInv.out; simpa [Na.val] using this))
      go_wp2_with fail
      go_ret
      exact ⟨by rw [← HE.out.2]; rfl, HBe.out, o2, HBl.out, HOl.out, HOk.out, HE.out.1⟩
end Go.Proofs.YtiglekomfgfilaaGreatDoor

/- DivMod, but for long. -/
namespace Go.Proofs.YtiglekomfgfilaaGreatDoor
set_option maxRecDepth 100000
set_option maxHeartbeats 2000000
set_option linter.all false
open Go.RowKit
def GivesQ (q : List Nat × List Nat × Int) (w : World) (e : Ending) (w' : World) : Prop := ∃ a c a' c', e = .returned (.tuple #[.slice a q.1.length c, .slice a' q.2.1.length c', .int .i64 q.2.2]) ∧
  Sl w' a c q.1 ∧ Own w' w.heap.size a q.1.length ∧ Sl w' a' c' q.2.1 ∧ Own w' w.heap.size a' q.2.1.length ∧ Below w.heap.size w w'
section
variable (a : Option Addr) (c : Nat) (l : List Nat) (b : Option Addr) (d : Nat) (m : List Nat) (w : World) (h : Sl w a c l) (h' : Sl w b d m) (hn : l.length ≤ 1000000) (hm : m.length ≤ 1000000)
include h h' hn hm
theorem na_divmod_big (hbig : (Na.big l || Na.big m) = true) : Calls Tryz.prog 157 #[.slice a l.length c, .slice b m.length d] w (GivesQ (Na.divMod l m) w) := by
  have H1 := Lib.hid (na_over2_any h h' hn hm true hbig)
  have e2 := Lib.hid (show Na.divMod l m = ([], [], 2) from if_pos hbig)
  have hB : Below w.heap.size w (w.alloc (Obj.cells #[Value.slice a l.length c, Value.slice b m.length d] 100)) := (Below.refl _ _).alloc (Nat.le_refl _) _
  clear hbig
  go_enter Tryz.func157, Tryz.ntmps157
  go_wp2_with (first | (go_at_call 112; (with_reducible refine (H1.out).mono ?_); rintro e w' ⟨rfl, rfl⟩))
  refine bodyPost_ret (v := .tuple #[.slice none 0 0, .slice none 0 0, .int .i64 2]) (by simp [results, Tryz.results157, go_sem]) rfl ⟨none, 0, none, 0, ?_, ?_, ?_, ?_, ?_, hB⟩ <;> rw [e2.out]
  · rfl
  · exact Sl.nil _ _ _
  · exact Own.nil _ _ _
  · exact Sl.nil _ _ _
  · exact Own.nil _ _ _
theorem na_divmod_zero (hbig : (Na.big l || Na.big m) = false) (hz : Na.val m = 0) : Calls Tryz.prog 157 #[.slice a l.length c, .slice b m.length d] w (GivesQ (Na.divMod l m) w) := by
  have H1 := Lib.hid (na_over2_any h h' hn hm false hbig)
  have e2 := Lib.hid (show Na.divMod l m = ([], [], 10) by rw [Na.divMod, hbig, if_neg (by simp), if_pos hz])
  have hB : Below w.heap.size w (w.alloc (Obj.cells #[Value.slice a l.length c, Value.slice b m.length d] 100)) := (Below.refl _ _).alloc (Nat.le_refl _) _
  have hr : Na.rt m = 0 := by rw [Na.rt, (Na.cut_nil_iff m).2 hz]; rfl
  have H2 := na_right_any b d m _ (h'.on hB) hm
  rw [hr] at H2
  have H2' := Lib.hid (show Calls Tryz.prog 113 #[.slice b m.length d] (w.alloc (Obj.cells #[Value.slice a l.length c, Value.slice b m.length d] 100)) (Ret0 (.int .i64 0) (w.alloc (Obj.cells #[Value.slice a l.length c, Value.slice b m.length d] 100))) from H2)
  clear hbig H2 hr
  go_enter Tryz.func157, Tryz.ntmps157
  go_wp2_with (first | (go_at_call 112; (with_reducible refine (H1.out).mono ?_); rintro e w' ⟨rfl, rfl⟩) | (go_at_call 113; (with_reducible refine (H2'.out).mono ?_); rintro e w' ⟨rfl, rfl⟩))
  refine bodyPost_ret (v := .tuple #[.slice none 0 0, .slice none 0 0, .int .i64 10]) (by simp [results, Tryz.results157, go_sem]) rfl ⟨none, 0, none, 0, ?_, ?_, ?_, ?_, ?_, hB⟩ <;> rw [e2.out]
  · rfl
  · exact Sl.nil _ _ _
  · exact Own.nil _ _ _
  · exact Sl.nil _ _ _
  · exact Own.nil _ _ _
theorem na_divmod_less (hbig : (Na.big l || Na.big m) = false) (hlt : Na.val l < Na.val m) : Calls Tryz.prog 157 #[.slice a l.length c, .slice b m.length d] w (GivesQ (Na.divMod l m) w) := by
  have H1 := Lib.hid (na_over2_any h h' hn hm false hbig)
  have e2 := Lib.hid (show Na.divMod l m = ([], Na.cut l, 0) by rw [Na.divMod, hbig, if_neg (by simp), if_neg (by omega), Nat.div_eq_of_lt hlt, Nat.mod_eq_of_lt hlt, Na.limbs_zero]; rfl)
  have hB : Below w.heap.size w (w.alloc (Obj.cells #[Value.slice a l.length c, Value.slice b m.length d] 100)) := (Below.refl _ _).alloc (Nat.le_refl _) _
  have hr : Na.rt m ≠ 0 := fun e => by have := (Na.cut_nil_iff m).1 (List.eq_nil_of_length_eq_zero e); omega
  have H2 := na_right_any b d m _ (h'.on hB) hm
  obtain ⟨rm, hrm⟩ : ∃ x, x = Na.rt m := ⟨_, rfl⟩
  rw [← hrm] at H2 hr
  have hr0 : ((rm : Int) == 0) = false := by simpa using hr
  have H2' := Lib.hid H2
  have HC := na_cmp_any a c l b d m _ (h.on hB) (h'.on hB) hn hm
  rw [Na.cmp_lt hlt] at HC
  have HC' := Lib.hid HC
  have H3 := Lib.hid (fun wr (hb : Below w.heap.size w wr) => na_trim_any a c l wr (h.on hb) hn)
  clear hbig H2 hr HC hlt hrm
  go_enter Tryz.func157, Tryz.ntmps157
  go_wp2_with (first | (go_at_call 112; (with_reducible refine (H1.out).mono ?_); rintro e w' ⟨rfl, rfl⟩) | (go_at_call 113; (with_reducible refine (H2'.out).mono ?_); rintro e w' ⟨rfl, rfl⟩) | (go_at_call 188; (with_reducible refine (HC'.out).mono ?_); rintro e w2 ⟨rfl, hb2⟩; have hB2 : Below w.heap.size w w2 := hB.trans (hb2.mono (by simp [World.size_alloc]))) | (go_at_call 96; (with_reducible refine (H3.out _ hB2).mono ?_); intro e w3 hg; obtain ⟨g, rfl, hg1, hk1, hb1⟩ := GivesB.up hg hB2))
  refine bodyPost_ret (v := .tuple #[.slice none 0 0, .slice (some ⟨g, 0, none⟩) (Na.cut l).length (Na.cut l).length, .int .i64 0]) (by simp [results, Tryz.results157, go_sem]) rfl ⟨none, 0, some ⟨g, 0, none⟩, (Na.cut l).length, ?_, ?_, ?_, ?_, ?_, hb1⟩ <;> rw [e2.out]
  · rfl
  · exact Sl.nil _ _ _
  · exact Own.nil _ _ _
  · exact hk1.sl (Na.ok_cut l) (Nat.le_refl _)
  · exact hk1.own hg1
theorem na_divmod_one (hbig : (Na.big l || Na.big m) = false) (hge : ¬ Na.val l < Na.val m) (h1 : Na.rt m = 1) : Calls Tryz.prog 157 #[.slice a l.length c, .slice b m.length d] w (GivesQ (Na.divMod l m) w) := by
  have H1 := Lib.hid (na_over2_any h h' hn hm false hbig)
  have S2 := h'.cut
  have hm0 : 0 < (Na.cut m).length := by show 0 < Na.rt m; omega
  have hm1 : (Na.cut m).length = 1 := h1
  obtain ⟨dv, hdv⟩ : ∃ x, x = (Na.cut m)[0] := ⟨_, rfl⟩
  have hcm : Na.cut m = [dv] := by
    rw [hdv]; apply List.ext_getElem
    · simpa using hm1
    · intro i hi hi2
      have : i = 0 := by simp at hi2; omega
      subst this; rfl
  have hvm : Na.val m = dv := by rw [← Na.val_cut, hcm]; simp [Na.val]
  have hdl : dv < 4294967296 := by rw [hdv]; exact S2.lt 0 hm0
  have hd0 : dv ≠ 0 := by
    intro e
    have := (Na.cut_nil_iff m).2 (by rw [hvm, e])
    rw [this] at hm0; simp at hm0
  have e2 := Lib.hid (show Na.divMod l m = (Na.limbs (Na.val l / dv), Na.limbs (Na.val l % dv), 0) by rw [Na.divMod, hbig, if_neg (by simp), if_neg (by omega), hvm])
  have hB : Below w.heap.size w (w.alloc (Obj.cells #[Value.slice a l.length c, Value.slice b m.length d] 100)) := (Below.refl _ _).alloc (Nat.le_refl _) _
  have H2 := na_right_any b d m _ (h'.on hB) hm
  rw [h1] at H2
  have H2' := Lib.hid (show Calls Tryz.prog 113 #[.slice b m.length d] (w.alloc (Obj.cells #[Value.slice a l.length c, Value.slice b m.length d] 100)) (Ret0 (.int .i64 1) (w.alloc (Obj.cells #[Value.slice a l.length c, Value.slice b m.length d] 100))) from H2)
  have HC := na_cmp_any a c l b d m _ (h.on hB) (h'.on hB) hn hm
  have hc0 : ∃ r : Int, r = Na.cmp l m ∧ decide (r < 0) = false := ⟨_, rfl, decide_eq_false (by rw [Na.cmp, if_neg hge]; split <;> omega)⟩
  obtain ⟨r0, hr0, hr1⟩ := hc0
  rw [← hr0] at HC
  have HC' := Lib.hid HC
  have H3 := Lib.hid (fun wr (hb : Below w.heap.size w wr) => na_trim_any a c l wr (h.on hb) hn)
  have H4 := Lib.hid (fun wr (hb : Below w.heap.size w wr) => hm1 ▸ na_cut_any b d m wr (h'.on hb) hm)
  obtain ⟨b1, o1, rfl, hbl, hc1⟩ := S2.plain hm0
  have c1 : w.cell? ⟨b1, o1, none⟩ = some (.int .u32 (dv : Int)) := by have := hc1 0 hm0; rw [← hdv] at this; exact this
  have hlen : (Na.cut l).length ≤ 1000000 := Nat.le_trans (Na.rt_le h.ok).1 hn
  obtain ⟨rm, hrm⟩ : ∃ x, x = Na.val l % dv := ⟨_, rfl⟩
  obtain ⟨qm, hqm⟩ : ∃ x, x = Na.val l / dv := ⟨_, rfl⟩
  have hml : rm < 4294967296 := by have := Nat.mod_lt (Na.val l) (show 0 < dv by omega); omega
  have HO := Lib.hid (fun w => na_of_any rm (by omega) w)
  have HS : ∀ g w, Blk w g (Na.cut l) → Calls Tryz.prog 120 #[.slice (some ⟨g, 0, none⟩) (Na.cut l).length (Na.cut l).length, .int .u32 dv] w
      (fun e w' => e = .returned (.int .u32 rm) ∧ Below g w w' ∧ ∃ o', Blk w' g o' ∧ o'.length = (Na.cut l).length ∧ Na.OK o' ∧ Na.val o' = qm) := fun g w hb =>
    (na_short_any g (Na.cut l).length (Na.cut l).length dv (Na.cut l) w hb (Na.ok_cut l) (Nat.le_refl _) hlen (by omega) hdl).mono fun e w' ⟨h1, h2, o', h3, h4, h5, h6⟩ =>
      ⟨by rw [h1, List.take_length, Na.val_cut, hrm], h2, o', h3, h4, h5, by rw [List.take_of_length_le (by omega), List.take_length, Na.val_cut] at h6; rw [h6, hqm]⟩
  have HS' := Lib.hid HS
  rw [← hrm, ← hqm] at e2
  clear hbig H2 HC hge h1 hm0 hm1 hdv hcm hvm hr0 S2 hc1 hrm hqm HS
  have HCUT := Lib.hid (fun g w5 o' (hk : Blk w5 g o') (hl : o'.length = (Na.cut l).length) (hok : Na.OK o') (hv : Na.val o' = qm) =>
    (by
      have hc := na_cut_any (some ⟨g, 0, none⟩) (Na.cut l).length o' w5 (hk.sl hok (by omega)) (by omega)
      rw [hl, show Na.cut o' = Na.limbs qm by rw [Na.cut, hv]] at hc
      exact hc : Calls Tryz.prog 115 #[.slice (some ⟨g, 0, none⟩) (Na.cut l).length (Na.cut l).length] w5 (Ret0 (.slice (some ⟨g, 0, none⟩) (Na.limbs qm).length (Na.cut l).length) w5)))
  go_enter Tryz.func157, Tryz.ntmps157
  go_wp2_with (first | (go_at_call 112; (with_reducible refine (H1.out).mono ?_); rintro e w' ⟨rfl, rfl⟩) | (go_at_call 113; (with_reducible refine (H2'.out).mono ?_); rintro e w' ⟨rfl, rfl⟩) | (go_at_call 188; (with_reducible refine (HC'.out).mono ?_); rintro e w2 ⟨rfl, hb2⟩; have hB2 : Below w.heap.size w w2 := hB.trans (hb2.mono (by simp [World.size_alloc]))) | (go_at_call 115; (with_reducible refine (H4.out _ hB2).mono ?_); rintro e w' ⟨rfl, rfl⟩) | (go_at_call 96; (with_reducible refine (H3.out _ hB2).mono ?_); intro e w3 hg; obtain ⟨g, rfl, hg1, hk1, hb3⟩ := GivesB.up hg hB2; have c3 : w3.cell? ⟨b1, o1, none⟩ = some (.int .u32 (dv : Int)) := (hb3.cell (p := ⟨b1, o1, none⟩) hbl).trans c1; have HK1 := Lib.hid hk1; clear hk1 hg) | (go_at_call 120; (with_reducible refine (HS'.out g _ HK1.out).mono ?_); rintro e w4 ⟨rfl, hb4, o', hk4, hl4, hok4, hv4⟩; have hB4 : Below w.heap.size w w4 := hb3.trans (hb4.mono hg1); have H5 := Lib.hid (HCUT.out g w4 o' hk4 hl4 hok4 hv4); have HV4 := Lib.hid hv4; have HL4 := Lib.hid hl4; have HK4 := Lib.hid hk4; clear hv4 hl4 hk4) | (go_at_call 115; (with_reducible refine (H5.out).mono ?_); rintro e w' ⟨rfl, rfl⟩) | (go_at_call 65; (with_reducible refine (HO.out _).mono ?_); rintro e w5 ⟨g5, rfl, hg5, hk5, hb5⟩))
  have hle := hB4.size
  have hk6 := HK4.out.on hb5
  have hcut : Na.cut o' = Na.limbs qm := by rw [Na.cut, HV4.out]
  refine bodyPost_ret (v := .tuple #[.slice (some ⟨g, 0, none⟩) (Na.limbs qm).length (Na.cut l).length, .slice (some ⟨g5, 0, none⟩) (Na.limbs rm).length (Na.limbs rm).length, .int .i64 0]) (by simp [results, Tryz.results157, go_sem]) rfl
    ⟨some ⟨g, 0, none⟩, (Na.cut l).length, some ⟨g5, 0, none⟩, (Na.limbs rm).length, ?_, ?_, ?_, ?_, ?_, hB4.trans (hb5.mono (by omega))⟩ <;> rw [e2.out]
  · have := (hk6.sl hok4 (by rw [HL4.out]; exact Nat.le_refl _) : Sl w5 (some ⟨g, 0, none⟩) (Na.cut l).length o').cut
    rw [hcut] at this; exact this
  · exact hk6.own hg1
  · exact hk5.sl (Na.ok_limbs _) (Nat.le_refl _)
  · exact hk5.own (by omega)
end
end Go.Proofs.YtiglekomfgfilaaGreatDoor

/- Pow. -/
namespace Go.Proofs.YtiglekomfgfilaaGreatDoor
set_option maxRecDepth 100000
set_option maxHeartbeats 2000000
set_option linter.all false
open Go.RowKit
def powLoop (b n : Nat) (w : World) (ov iv : Value) (wr : World) : Prop := ∃ (k : Nat) (a : Option Addr) (c : Nat), k ≤ n ∧ iv = .int .i64 k ∧ ov = .slice a (Na.limbs (b ^ k)).length c ∧ (Na.limbs (b ^ k)).length ≤ 256 ∧ Hid (Sl wr a c (Na.limbs (b ^ k))) ∧ Hid (Own wr w.heap.size a (Na.limbs (b ^ k)).length) ∧ Hid (Below w.heap.size w wr)
theorem Na.limbs_one : Na.limbs 1 = [1] := by rw [Na.limbs_pos (by decide)]; simp [Na.B, Na.limbs_zero]
theorem blk_one (w : World) : Blk (w.alloc (Obj.cells #[Value.int IntKind.u32 1] 81)) w.heap.size [1] := by
  show (w.heap.push _)[w.heap.size]? = _; simp [u32s]
theorem na_pow_arg (b n : Int) (w : World) (h : b < 0 ∨ 1000000 < b ∨ n < 0) (hb : -9223372036854775808 ≤ b ∧ b ≤ 9223372036854775807) (hn : -9223372036854775808 ≤ n ∧ n ≤ 9223372036854775807) :
    Calls Tryz.prog 92 #[.int .i64 b, .int .i64 n] w (GivesE (Na.pow b n) w) := by
  have e2 := Lib.hid (show Na.pow b n = ([], 1) from if_pos h)
  have hend : GivesE (Na.pow b n) w (.returned (.tuple #[.slice none 0 0, .int .i64 1])) w := by
    rw [e2.out]; exact ⟨none, 0, rfl, Sl.nil _ _ _, Own.nil _ _ _, Below.refl _ _⟩
  have HE := Lib.hid hend
  clear hend
  by_cases h1 : b < 0
  · clear h
    go_enter Tryz.func92, Tryz.ntmps92
    go_wp2
    refine bodyPost_ret (v := .tuple #[.slice none 0 0, .int .i64 1]) (by simp [results, Tryz.results92, go_sem]) rfl HE.out
  · by_cases h2 : 1000000 < b
    · clear h
      go_enter Tryz.func92, Tryz.ntmps92
      go_wp2
      refine bodyPost_ret (v := .tuple #[.slice none 0 0, .int .i64 1]) (by simp [results, Tryz.results92, go_sem]) rfl HE.out
    · have h3 : n < 0 := by omega
      clear h
      go_enter Tryz.func92, Tryz.ntmps92
      go_wp2
      refine bodyPost_ret (v := .tuple #[.slice none 0 0, .int .i64 1]) (by simp [results, Tryz.results92, go_sem]) rfl HE.out
theorem na_pow_zero (n : Nat) (w : World) (h0 : 0 < n) (hn : n ≤ 9223372036854775807) : Calls Tryz.prog 92 #[.int .i64 0, .int .i64 n] w (GivesE (Na.pow 0 n) w) := by
  have e2 := Lib.hid (show Na.pow 0 n = ([], 0) by rw [Na.pow, if_neg (by omega), if_pos ⟨rfl, by omega⟩])
  have hB : Below w.heap.size w (w.alloc (Obj.cells #[Value.int IntKind.u32 1] 81)) := (Below.refl _ _).alloc (Nat.le_refl _) _
  go_enter Tryz.func92, Tryz.ntmps92
  go_wp2
  refine bodyPost_ret (v := .tuple #[.slice none 0 0, .int .i64 0]) (by simp [results, Tryz.results92, go_sem]) rfl (by rw [e2.out]; exact ⟨none, 0, rfl, Sl.nil _ _ _, Own.nil _ _ _, hB⟩)
theorem na_pow_one (b n : Nat) (w : World) (h : b = 1 ∨ b = 0 ∧ n = 0) (hn : n ≤ 9223372036854775807) : Calls Tryz.prog 92 #[.int .i64 b, .int .i64 n] w (GivesE (Na.pow b n) w) := by
  have hp : b ^ n = 1 := by rcases h with rfl | ⟨rfl, rfl⟩ <;> simp
  have e2 := Lib.hid (show Na.pow b n = ([1], 0) by rw [Na.pow, if_neg (by omega), if_neg (by omega), Int.toNat_natCast, Int.toNat_natCast, hp, Na.fits, Na.limbs_one]; rfl)
  have hB : Below w.heap.size w (w.alloc (Obj.cells #[Value.int IntKind.u32 1] 81)) := (Below.refl _ _).alloc (Nat.le_refl _) _
  have hend : GivesE (Na.pow b n) w (.returned (.tuple #[.slice (some ⟨w.heap.size, 0, none⟩) 1 1, .int .i64 0])) (w.alloc (Obj.cells #[Value.int IntKind.u32 1] 81)) := by
    rw [e2.out]; exact ⟨some ⟨w.heap.size, 0, none⟩, 1, rfl, (blk_one w).sl (fun x hx => by rw [List.mem_singleton.1 hx]; decide) (Nat.le_refl _), (blk_one w).own (Nat.le_refl _), hB⟩
  have HE := Lib.hid hend
  clear hend hp e2 hB
  rcases h with rfl | ⟨rfl, rfl⟩
  all_goals (
    go_enter Tryz.func92, Tryz.ntmps92
    go_wp2
    refine bodyPost_ret (v := .tuple #[.slice (some ⟨w.heap.size, 0, none⟩) 1 1, .int .i64 0]) (by simp [results, Tryz.results92, go_sem]) rfl HE.out)
theorem na_pow_more (b n : Nat) (w : World) (h2 : 2 ≤ b) (hb : b ≤ 1000000) (hn : n ≤ 9223372036854775807) : Calls Tryz.prog 92 #[.int .i64 b, .int .i64 n] w (GivesE (Na.pow b n) w) := by
  have E2 := Lib.hid (show Na.pow b n = Na.fits (b ^ n) by rw [Na.pow, if_neg (by omega), if_neg (by omega), Int.toNat_natCast, Int.toNat_natCast])
  have hB : Below w.heap.size w (w.alloc (Obj.cells #[Value.int IntKind.u32 1] 81)) := (Below.refl _ _).alloc (Nat.le_refl _) _
  have HB := Lib.hid hB
  have HS0 := Lib.hid ((blk_one w).sl (fun x hx => by rw [List.mem_singleton.1 hx]; decide : Na.OK [1]) (Nat.le_refl 1))
  have HO0 := Lib.hid ((blk_one w).own (n := 1) (Nat.le_refl w.heap.size))
  have HOF := Lib.hid (fun w => na_of_any b (by omega) w)
  have hlb : (Na.limbs b).length ≤ 256 := (Na.limbs_len_iff b 256).2 (Nat.lt_of_le_of_lt (show b ≤ 1000000 by omega) (by decide +kernel))
  have HLB := Lib.hid hlb
  clear hB hlb
  go_enter Tryz.func92, Tryz.ntmps92
  go_wp2_with fail
  go_loopw [6, 31] (powLoop b n w) (fun _ i _ => n - (intOf i).toNat)
  case atStart => exact ⟨0, some ⟨w.heap.size, 0, none⟩, 1, Nat.zero_le _, rfl, by simp [Na.limbs_one], by simp [Na.limbs_one], by simpa [Na.limbs_one] using HS0, by simpa [Na.limbs_one] using HO0, HB⟩
  case round =>
    obtain ⟨k, a, c, hk, rfl, rfl, hlen, HSl, HOw, HBe⟩ := hrel
    obtain ⟨x, hx⟩ : ∃ x, x = b ^ k := ⟨_, rfl⟩
    rw [← hx] at hlen HSl HOw ⊢
    have HX := Lib.hid hx
    clear hx
    by_cases hlt : k < n
    · have hmul : Na.mul (Na.limbs x) (Na.limbs b) = Na.fits (b ^ (k + 1)) := by
        rw [Na.mul, if_neg (by simp [Na.big, Na.rt_limbs]; exact ⟨hlen, HLB.out⟩), Na.val_limbs, Na.val_limbs, HX.out, Nat.pow_succ]
      have HM := Lib.hid (fun w1 a' c' (hs : Sl w1 a c (Na.limbs x)) (hs' : Sl w1 a' c' (Na.limbs b)) => (by
        have := na_mul_any a c (Na.limbs x) a' c' (Na.limbs b) w1 hs hs' (by omega) (by have := HLB.out; omega)
        rwa [hmul] at this : Calls Tryz.prog 93 #[.slice a (Na.limbs x).length c, .slice a' (Na.limbs b).length c'] w1 (GivesE (Na.fits (b ^ (k + 1))) w1)))
      clear hmul
      by_cases hover : 256 < (Na.limbs (b ^ (k + 1))).length
      · have ef : Na.fits (b ^ (k + 1)) = ([], 2) := if_pos hover
        rw [ef] at HM
        have EE := Lib.hid (show Na.pow b n = ([], 2) by
          rw [E2.out, Na.fits, if_pos]
          have h1 : Na.B ^ 256 ≤ b ^ (k + 1) := Nat.le_of_not_lt fun hl => by have := (Na.limbs_len_iff (b ^ (k + 1)) 256).2 hl; omega
          exact Na.limbs_len_gt _ _ (Nat.le_trans h1 (Nat.pow_le_pow_right (by omega) (by omega))))
        clear hover ef
        go_wp2_with (first | (go_at_call 65; (with_reducible refine (HOF.out _).mono ?_); rintro e w1 ⟨g1, rfl, hg1, hk1, hb1⟩; have hS1 := hk1.sl (Na.ok_limbs b) (Nat.le_refl _); have hS2 := HSl.out.on hb1) | (go_at_call 93; (with_reducible refine (HM.out _ _ _ hS2 hS1).mono ?_); rintro e w2 ⟨a2, c2, rfl, hs2, ho2, hb2⟩))
        have hB2 : Below w.heap.size w w2 := HBe.out.trans ((hb1.mono HBe.out.size).trans (hb2.mono (Nat.le_trans HBe.out.size hb1.size)))
        refine bodyPost_ret (v := .tuple #[.slice none 0 0, .int .i64 2]) (by simp [results, Tryz.results92, go_sem]) rfl (by rw [EE.out]; exact ⟨none, 0, rfl, Sl.nil _ _ _, Own.nil _ _ _, hB2⟩)
      · have ef : Na.fits (b ^ (k + 1)) = (Na.limbs (b ^ (k + 1)), 0) := if_neg hover
        rw [ef] at HM
        have HOV := Lib.hid hover
        clear hover ef
        go_wp2_with (first | (go_at_call 65; (with_reducible refine (HOF.out _).mono ?_); rintro e w1 ⟨g1, rfl, hg1, hk1, hb1⟩; have hS1 := hk1.sl (Na.ok_limbs b) (Nat.le_refl _); have hS2 := HSl.out.on hb1) | (go_at_call 93; (with_reducible refine (HM.out _ _ _ hS2 hS1).mono ?_); rintro e w2 ⟨a2, c2, rfl, hs2, ho2, hb2⟩))
        have hsz := HBe.out.size
        have hsz1 := hb1.size
        have hB2 : Below w.heap.size w w2 := HBe.out.trans ((hb1.mono hsz).trans (hb2.mono (Nat.le_trans hsz hsz1)))
        have hO2 : Own w2 w.heap.size a2 (Na.limbs (b ^ (k + 1))).length := fun h0 => by
          obtain ⟨b', o', e, hb', hf⟩ := ho2 h0
          exact ⟨b', o', e, by omega, hf⟩
        go_roundw
        case rel => exact ⟨k + 1, a2, c2, by omega, by go_num, rfl, by have := HOV.out; omega, Lib.hid hs2, Lib.hid hO2, Lib.hid hB2⟩
        case measure => simp [intOf]; omega
    · obtain rfl : k = n := by omega
      have EE := Lib.hid (show Na.pow b k = (Na.limbs x, 0) by rw [E2.out, Na.fits, ← HX.out, if_neg (by omega)])
      go_wp2_with fail
      refine bodyPost_ret (v := .tuple #[.slice a (Na.limbs x).length c, .int .i64 0]) (by simp [results, Tryz.results92, go_sem]) rfl (by rw [EE.out]; exact ⟨a, c, rfl, HSl.out, HOw.out, HBe.out⟩)
theorem na_pow_any (b n : Int) (w : World) (hb : -9223372036854775808 ≤ b ∧ b ≤ 9223372036854775807) (hn : -9223372036854775808 ≤ n ∧ n ≤ 9223372036854775807) :
    Calls Tryz.prog 92 #[.int .i64 b, .int .i64 n] w (GivesE (Na.pow b n) w) := by
  by_cases h : b < 0 ∨ 1000000 < b ∨ n < 0
  · exact na_pow_arg b n w h hb hn
  · obtain ⟨b', rfl⟩ : ∃ x : Nat, b = x := ⟨b.toNat, by omega⟩
    obtain ⟨n', rfl⟩ : ∃ x : Nat, n = x := ⟨n.toNat, by omega⟩
    by_cases h2 : 2 ≤ b'
    · exact na_pow_more b' n' w h2 (by omega) (by omega)
    · by_cases h1 : b' = 1 ∨ b' = 0 ∧ n' = 0
      · exact na_pow_one b' n' w h1 (by omega)
      · obtain rfl : b' = 0 := by omega
        exact na_pow_zero n' w (by omega) (by omega)
end Go.Proofs.YtiglekomfgfilaaGreatDoor

/- Plain Lean: a shift up by less than a limb. -/
namespace Go.Proofs.YtiglekomfgfilaaGreatDoor.Na
set_option linter.all false
open Go
theorem shift_lt (c x s : Nat) (hs : s < 32) (hc : c < 2 ^ s) (hx : x < 4294967296) : c + x * 2 ^ s < 18446744073709551616 ∧ (c + x * 2 ^ s) / 4294967296 < 2 ^ s := by
  have h1 : 2 ^ s ≤ 2 ^ 31 := Nat.pow_le_pow_right (by decide) (by omega)
  have h2 : x * 2 ^ s + 2 ^ s ≤ 4294967296 * 2 ^ s := by
    have := Nat.mul_le_mul_right (2 ^ s) (show x + 1 ≤ 4294967296 by omega)
    rwa [Nat.add_mul, Nat.one_mul] at this
  constructor
  · omega
  · rw [Nat.div_lt_iff_lt_mul (by decide)]; omega
theorem drop_set (O : List Nat) (off k v : Nat) : (O.set (off + k) v).drop off = (O.drop off).set k v := by
  rw [List.drop_set]
  rw [if_neg (by omega), Nat.add_sub_cancel_left]
theorem shift_step (O q : List Nat) (off k c x s : Nat) (hk : off + k < O.length) (inv : val ((O.drop off).take k) + B ^ k * c = val (q.take k) * 2 ^ s) (hq : val (q.take (k + 1)) = val (q.take k) + B ^ k * x) :
    val (((O.set (off + k) ((c + x * 2 ^ s) % 4294967296)).drop off).take (k + 1)) + B ^ (k + 1) * ((c + x * 2 ^ s) / 4294967296) = val (q.take (k + 1)) * 2 ^ s := by
  rw [drop_set, val_set_take _ k _ (by rw [List.length_drop]; omega), hq, Nat.pow_succ, Nat.add_mul, ← inv]
  have h := split_digit (B ^ k) (c + x * 2 ^ s)
  rw [Nat.mul_add, ← Nat.mul_assoc] at h
  simp only [B] at h ⊢
  omega
theorem shl_val (O q : List Nat) (p s N : Nat) (cc v : Nat) (hz : val (O.take p) = 0) (hp : p ≤ O.length) (h : val (O.drop p) + B ^ N * cc = val q * 2 ^ s) (hv : val q * 2 ^ s < B ^ N) (hn : v = val q * 2 ^ (32 * p + s)) : val O = v := by
  have h0 : cc = 0 := by
    rcases Nat.eq_zero_or_pos cc with h0 | h0
    · exact h0
    · have := Nat.mul_le_mul_left (B ^ N) h0
      omega
  rw [h0] at h
  rw [val_take_drop O p hp, hz, hn, Nat.pow_add, show 2 ^ (32 * p) = B ^ p by rw [Nat.pow_mul]]
  rw [Nat.mul_zero, Nat.add_zero] at h
  rw [h, Nat.zero_add, Nat.mul_left_comm]
end Go.Proofs.YtiglekomfgfilaaGreatDoor.Na

/- shift. -/
namespace Go.Proofs.YtiglekomfgfilaaGreatDoor
set_option maxRecDepth 100000
set_option maxHeartbeats 2000000
set_option linter.all false
open Go.RowKit
def shiftLoop (N s g off : Nat) (O q : List Nat) (w : World) (cv iv : Value) (wr : World) : Prop := ∃ (k c : Nat) (o : List Nat), k ≤ N ∧ iv = .int .i64 k ∧ cv = .int .u64 c ∧ Hid (c < 2 ^ s) ∧ Hid (Blk wr g o) ∧ Hid (o.length = off + N) ∧ Hid (Na.OK o) ∧ Hid (o.take off = O.take off) ∧
  Hid (Na.val ((o.drop off).take k) + Na.B ^ k * c = Na.val (q.take k) * 2 ^ s) ∧ Hid (Below g w wr)
theorem na_shift_any (g off N c s ca : Nat) (O q : List Nat) (a : Option Addr) (w : World) (hb : Blk w g O) (hok : Na.OK O) (hl : O.length = off + N) (hs : ∀ wr, Below g w wr → Sl wr a ca q) (hs2 : s < 32) (hq : q.length ≤ 1000000) (hN : off + N ≤ 1000000) :
    Calls Tryz.prog 116 #[.slice (some ⟨g, off, none⟩) N c, .slice a q.length ca, .int .i64 s] w (fun e w' => e = .returned (.tuple #[]) ∧ Below g w w' ∧ ∃ o', Blk w' g o' ∧ o'.length = off + N ∧ Na.OK o' ∧ o'.take off = O.take off ∧ ∃ cc, Na.val (o'.drop off) + Na.B ^ N * cc = Na.val (q.take N) * 2 ^ s) := by
  have HB0 := Lib.hid hb; have HO0 := Lib.hid hok; have HL0 := Lib.hid hl; have HS := Lib.hid hs
  clear hb hok hl hs
  go_enter Tryz.func116, Tryz.ntmps116
  go_wp2_with fail
  go_loopw [6, 10] (shiftLoop N s g off O q w) (fun _ i _ => N - (intOf i).toNat)
  case atStart => exact ⟨0, 0, O, Nat.zero_le _, rfl, rfl, Lib.hid (Nat.pow_pos (by decide)), HB0, HL0, HO0, Lib.hid rfl, Lib.hid (by simp [Na.val]), Lib.hid (Below.refl _ _)⟩
  case round =>
    clear HB0 HO0 HL0
    obtain ⟨k, cc, o, hk, rfl, rfl, HC, HBl, HOl, HOk, HTk, HInv, HBe⟩ := hrel
    by_cases hlt : k < N
    · have ho1 : off + k < o.length := by have := HOl.out; omega
      have co := HBl.out.cell (off + k) ho1
      have fo := HBl.out.frozen (off + k)
      by_cases hlq : k < q.length
      · obtain ⟨b1, o1, rfl, hb1, hc1⟩ := (HS.out wr HBe.out).plain (by omega)
        have c1 := hc1 k hlq
        have hx := (HS.out wr HBe.out).lt k hlq
        have VQ := Lib.hid (Na.val_take_succ q k hlq)
        obtain ⟨x, hxe⟩ : ∃ x, q[k]'hlq = x := ⟨_, rfl⟩
        rw [hxe] at c1 hx VQ
        obtain ⟨hl1, hl2⟩ := Na.shift_lt cc x s hs2 HC.out hx
        have hor := Na.or_shift cc x s HC.out hl1
        have HST := Lib.hid (Na.shift_step o q off k cc x s ho1 HInv.out VQ.out)
        obtain ⟨t, ht⟩ : ∃ t, t = cc + x * 2 ^ s := ⟨_, rfl⟩
        rw [← ht] at hl1 hl2 hor HST
        have HL2 := Lib.hid hl2
        clear hc1 hxe ht hl2
        go_wp2_with fail
        go_roundw
        case rel => exact ⟨k + 1, t / 4294967296, o.set (off + k) (t % 4294967296), by omega, by go_num, by first | rfl | (rw [hor]; simp) | go_num, HL2, Lib.hid (by have := HBl.out.set (off + k) (t % 4294967296); first | exact this | (rw [hor]; exact this)), Lib.hid (by rw [List.length_set]; exact HOl.out), Lib.hid (Na.ok_set HOk.out _ _ (by omega)), Lib.hid (by rw [List.take_set_of_le (by omega)]; exact HTk.out), HST, Lib.hid (by have hbe := HBe.out; (repeat (first | exact Below.refl _ _ | assumption | refine Below.setCell ?_ (by first | omega | (simp <;> omega)) _ | refine Below.alloc ?_ (by first | omega | (simp <;> omega)) _ | refine Below.drew ?_ | refine below_drewN' ?_ _)))⟩
        case measure => simp [intOf]; omega
      · have hl1 : cc < 4294967296 := Nat.lt_of_lt_of_le HC.out (Nat.le_trans (Nat.pow_le_pow_right (by decide) (show s ≤ 32 by omega)) (by decide))
        have HST := Lib.hid (Na.shift_step o q off k cc 0 s ho1 HInv.out (Na.take_more q k (by omega)))
        have e0 : cc + 0 * 2 ^ s = cc := by omega
        rw [e0] at HST
        have HL2 := Lib.hid (show cc / 4294967296 < 2 ^ s by rw [Nat.div_eq_of_lt hl1]; exact Nat.pow_pos (by decide))
        clear e0
        go_wp2_with fail
        go_roundw
        case rel => exact ⟨k + 1, cc / 4294967296, o.set (off + k) (cc % 4294967296), by omega, by go_num, by first | rfl | go_num, HL2, Lib.hid (by have := HBl.out.set (off + k) (cc % 4294967296); first | exact this | (rw [Nat.mod_eq_of_lt hl1] at this ⊢; exact this)), Lib.hid (by rw [List.length_set]; exact HOl.out), Lib.hid (Na.ok_set HOk.out _ _ (by omega)), Lib.hid (by rw [List.take_set_of_le (by omega)]; exact HTk.out), HST, Lib.hid (by have hbe := HBe.out; (repeat (first | exact Below.refl _ _ | assumption | refine Below.setCell ?_ (by first | omega | (simp <;> omega)) _ | refine Below.alloc ?_ (by first | omega | (simp <;> omega)) _ | refine Below.drew ?_ | refine below_drewN' ?_ _)))⟩
        case measure => simp [intOf]; omega
    · obtain rfl : k = N := by omega
      have HE := Lib.hid (show Na.val (o.drop off) + Na.B ^ k * cc = Na.val (q.take k) * 2 ^ s by
        have := HInv.out; rwa [List.take_of_length_le (by rw [List.length_drop, HOl.out]; omega)] at this)
      go_wp2_with fail
      refine bodyPost_end (results_none rfl _ _ _) rfl ?_
      exact ⟨rfl, HBe.out, o, HBl.out, HOl.out, HOk.out, HTk.out, cc, HE.out⟩
end Go.Proofs.YtiglekomfgfilaaGreatDoor

/- Shl. -/
namespace Go.Proofs.YtiglekomfgfilaaGreatDoor
set_option maxRecDepth 100000
set_option maxHeartbeats 1000000
set_option linter.all false
open Go.RowKit
theorem na_over1_any {w : World} {a : Option Addr} {c : Nat} {l : List Nat} (h : Sl w a c l) (hn : l.length ≤ 1000000) (r : Bool) (hr : Na.big l = r) :
    Calls Tryz.prog 112 #[.slice (some ⟨w.heap.size, 0, none⟩) 1 1] (w.alloc (Obj.cells #[Value.slice a l.length c] 100)) (Ret0 (.bool r) (w.alloc (Obj.cells #[Value.slice a l.length c] 100))) := by
  have hB : Below w.heap.size w (w.alloc (Obj.cells #[Value.slice a l.length c] 100)) := (Below.refl _ _).alloc (Nat.le_refl _) _
  have hA : Args (w.alloc (Obj.cells #[Value.slice a l.length c] 100)) w.heap.size [⟨a, c, l⟩] := by
    intro k hk
    match k, hk with
    | 0, _ =>
      refine ⟨?_, h.on hB, hn⟩
      show (match (w.heap.push _)[w.heap.size]? with | some (.cells c _ _) => if (none : Option Nat).isSome then none else c[0]? | _ => none) = _
      simp
  have := na_over_any [⟨a, c, l⟩] w.heap.size _ hA (by simp)
  have e : ([⟨a, c, l⟩] : List Arg).any (fun x => Na.big x.l) = r := by rw [← hr]; simp
  rw [e] at this; exact this
theorem gives_nil {q : List Nat × Int} {w w' : World} (e : Int) (hq : q = ([], e)) (hb : Below w.heap.size w w') : GivesE q w (.returned (.tuple #[.slice none 0 0, .int .i64 e])) w' := by
  rw [hq]; exact ⟨none, 0, rfl, Sl.nil _ _ _, Own.nil _ _ _, hb⟩
section
variable (a : Option Addr) (c : Nat) (l : List Nat) (n : Int) (w : World) (h : Sl w a c l) (hn : l.length ≤ 1000000) (hi : -9223372036854775808 ≤ n ∧ n ≤ 9223372036854775807)
include h hn hi
theorem na_shl_arg (h0 : n < 0) : Calls Tryz.prog 90 #[.slice a l.length c, .int .i64 n] w (GivesE (Na.shl l n) w) := by
  have e := Lib.hid (gives_nil 1 (show Na.shl l n = ([], 1) from if_pos h0) (Below.refl w.heap.size w))
  go_enter Tryz.func90, Tryz.ntmps90
  go_wp2
  refine bodyPost_ret (v := .tuple #[.slice none 0 0, .int .i64 1]) (by simp [results, Tryz.results90, go_sem]) rfl e.out
theorem na_shl_big (h0 : 0 ≤ n) (hb : Na.big l = true) : Calls Tryz.prog 90 #[.slice a l.length c, .int .i64 n] w (GivesE (Na.shl l n) w) := by
  have hB : Below w.heap.size w (w.alloc (Obj.cells #[Value.slice a l.length c] 100)) := (Below.refl _ _).alloc (Nat.le_refl _) _
  have e := Lib.hid (gives_nil 2 (show Na.shl l n = ([], 2) by rw [Na.shl, if_neg (by omega), if_pos hb]) hB)
  have H1 := Lib.hid (na_over1_any h hn true hb)
  clear hb
  go_enter Tryz.func90, Tryz.ntmps90
  go_wp2_with (first | (go_at_call 112; (with_reducible refine (H1.out).mono ?_); rintro e w' ⟨rfl, rfl⟩))
  refine bodyPost_ret (v := .tuple #[.slice none 0 0, .int .i64 2]) (by simp [results, Tryz.results90, go_sem]) rfl e.out
theorem na_shl_zero (h0 : 0 ≤ n) (hb : Na.big l = false) (hz : Na.val l = 0) : Calls Tryz.prog 90 #[.slice a l.length c, .int .i64 n] w (GivesE (Na.shl l n) w) := by
  have hB : Below w.heap.size w (w.alloc (Obj.cells #[Value.slice a l.length c] 100)) := (Below.refl _ _).alloc (Nat.le_refl _) _
  have e := Lib.hid (gives_nil 0 (show Na.shl l n = ([], 0) by rw [Na.shl, if_neg (by omega), hb, if_neg (by simp), if_pos hz]) hB)
  have H1 := Lib.hid (na_over1_any h hn false hb)
  have hr : Na.rt l = 0 := by rw [Na.rt, (Na.cut_nil_iff l).2 hz]; rfl
  have H2 := na_right_any a c l _ (h.on hB) hn
  rw [hr] at H2
  have H2' := Lib.hid (show Calls Tryz.prog 113 #[.slice a l.length c] (w.alloc (Obj.cells #[Value.slice a l.length c] 100)) (Ret0 (.int .i64 0) (w.alloc (Obj.cells #[Value.slice a l.length c] 100))) from H2)
  clear hb H2 hr
  go_enter Tryz.func90, Tryz.ntmps90
  go_wp2_with (first | (go_at_call 112; (with_reducible refine (H1.out).mono ?_); rintro e w' ⟨rfl, rfl⟩) | (go_at_call 113; (with_reducible refine (H2'.out).mono ?_); rintro e w' ⟨rfl, rfl⟩))
  refine bodyPost_ret (v := .tuple #[.slice none 0 0, .int .i64 0]) (by simp [results, Tryz.results90, go_sem]) rfl e.out
theorem na_shl_over (h0 : 0 ≤ n) (hb : Na.big l = false) (hz : Na.val l ≠ 0) (ho : 8192 < n ∨ 8192 < (Na.bitLen (Na.val l) : Int) + n) : Calls Tryz.prog 90 #[.slice a l.length c, .int .i64 n] w (GivesE (Na.shl l n) w) := by
  have hB : Below w.heap.size w (w.alloc (Obj.cells #[Value.slice a l.length c] 100)) := (Below.refl _ _).alloc (Nat.le_refl _) _
  have e := Lib.hid (gives_nil 2 (show Na.shl l n = ([], 2) by rw [Na.shl, if_neg (by omega), hb, if_neg (by simp), if_neg hz, if_pos ho]) hB)
  have H1 := Lib.hid (na_over1_any h hn false hb)
  have hr : Na.rt l ≠ 0 := fun e => hz ((Na.cut_nil_iff l).1 (List.eq_nil_of_length_eq_zero e))
  have H2 := na_right_any a c l _ (h.on hB) hn
  obtain ⟨rm, hrm⟩ : ∃ x, x = Na.rt l := ⟨_, rfl⟩
  rw [← hrm] at H2 hr
  have hr0 : ((rm : Int) == 0) = false := by simpa using hr
  have H2' := Lib.hid H2
  have H3 := na_len_any a c l _ (h.on hB) hn
  have hbl : Na.bitLen (Na.val l) ≤ 40000000 := by
    rw [Na.bitLen, if_neg hz]
    have h1 := Na.val_lt l h.ok
    rw [show Na.B ^ l.length = 2 ^ (32 * l.length) by rw [Nat.pow_mul]] at h1
    have := (Nat.log2_lt hz).2 h1
    omega
  obtain ⟨bl, hbe⟩ : ∃ x, x = Na.bitLen (Na.val l) := ⟨_, rfl⟩
  rw [← hbe] at H3 hbl ho
  have H3' := Lib.hid H3
  clear hb H2 hr H3 hbe hrm
  by_cases h1 : 8192 < n
  · clear ho
    go_enter Tryz.func90, Tryz.ntmps90
    go_wp2_with (first | (go_at_call 112; (with_reducible refine (H1.out).mono ?_); rintro e w' ⟨rfl, rfl⟩) | (go_at_call 113; (with_reducible refine (H2'.out).mono ?_); rintro e w' ⟨rfl, rfl⟩))
    refine bodyPost_ret (v := .tuple #[.slice none 0 0, .int .i64 2]) (by simp [results, Tryz.results90, go_sem]) rfl e.out
  · have h2 : 8192 < (bl : Int) + n := by omega
    clear ho
    go_enter Tryz.func90, Tryz.ntmps90
    go_wp2_with (first | (go_at_call 112; (with_reducible refine (H1.out).mono ?_); rintro e w' ⟨rfl, rfl⟩) | (go_at_call 113; (with_reducible refine (H2'.out).mono ?_); rintro e w' ⟨rfl, rfl⟩) | (go_at_call 114; (with_reducible refine (H3'.out).mono ?_); rintro e w' ⟨rfl, rfl⟩))
    refine bodyPost_ret (v := .tuple #[.slice none 0 0, .int .i64 2]) (by simp [results, Tryz.results90, go_sem]) rfl e.out
end
end Go.Proofs.YtiglekomfgfilaaGreatDoor

/- make of a list of limbs, as one law without the type's row in the context. -/
namespace Go.Proofs.YtiglekomfgfilaaGreatDoor
set_option linter.all false
open Go.RowKit
theorem mk_u32 {w : World} {ops : Array Oper} {rest : List Oper} {o : Oper} {a : Act} {Q : Exit → Act → World → Prop} (hg : o.guard = none) (l c : Operand) (hop : o.op = Op.makeSlice 100 l c)
    (L C : Int) (n : Nat) (hl : a.eval l = .int .i64 L) (hc : a.eval c = .int .i64 C) (hL : L = (n : Int)) (hC : C = (n : Int)) (hn : n ≤ 1000000)
    (hK : ∀ w', Hid (Blk w' w.heap.size (List.replicate n 0)) → Hid (∀ B w0, Below B w0 w → B ≤ w.heap.size → Below B w0 w') → wpList Tryz.prog ops Q rest (a.put o.dst (.slice (some ⟨w.heap.size, 0, none⟩) n n)) w') :
    wpList Tryz.prog ops Q (o :: rest) a w := by
  obtain ⟨ti, hi, hz0, hz1, hz2⟩ := info_parts infoU32
  refine wpList_make_full w hg l c 100 hop w.heap.size 81 ti (.int .u32 0) 1 Tryz.underlying100 hi hz0 hz1 .i64 .i64 L C n hl hc hL hC (by rw [hz2]; omega) (by unfold maxLen; omega) (Nat.le_refl _) fun w' h1 h2 => hK w' (Lib.hid ?_) (Lib.hid fun B w0 hb hB => hb.grown h2 hB (fun k e => by cases e))
  exact Blk.made (by simpa [Value.cells] using h1)
end Go.Proofs.YtiglekomfgfilaaGreatDoor

/- Shl, the main way. -/
namespace Go.Proofs.YtiglekomfgfilaaGreatDoor
set_option maxRecDepth 100000
set_option maxHeartbeats 2000000
set_option linter.all false
open Go.RowKit
def ShiftR (g off N s : Nat) (O q : List Nat) (w : World) (e : Ending) (w' : World) : Prop := e = .returned (.tuple #[]) ∧ Below g w w' ∧ ∃ o', Blk w' g o' ∧ o'.length = off + N ∧ Na.OK o' ∧ o'.take off = O.take off ∧ ∃ cc, Na.val (o'.drop off) + Na.B ^ N * cc = Na.val (q.take N) * 2 ^ s
theorem na_shl_main (a : Option Addr) (c : Nat) (l : List Nat) (n : Nat) (w : World) (h : Sl w a c l) (hn : l.length ≤ 1000000) (hb : Na.big l = false) (hz : Na.val l ≠ 0) (ho : n ≤ 8192 ∧ Na.bitLen (Na.val l) + n ≤ 8192) :
    Calls Tryz.prog 90 #[.slice a l.length c, .int .i64 n] w (GivesE (Na.shl l n) w) := by
  have hB : Below w.heap.size w (w.alloc (Obj.cells #[Value.slice a l.length c] 100)) := (Below.refl _ _).alloc (Nat.le_refl _) _
  have e2 := Lib.hid (show Na.shl l n = (Na.limbs (Na.val l * 2 ^ n), 0) by rw [Na.shl, if_neg (by omega), hb, if_neg (by simp), if_neg hz, if_neg (by omega), Int.toNat_natCast])
  have H1 := Lib.hid (na_over1_any h hn false hb)
  have hr : Na.rt l ≠ 0 := fun e => hz ((Na.cut_nil_iff l).1 (List.eq_nil_of_length_eq_zero e))
  have H2 := na_right_any a c l _ (h.on hB) hn
  obtain ⟨rm, hrm⟩ : ∃ x, x = Na.rt l := ⟨_, rfl⟩
  rw [← hrm] at H2 hr
  have hr0 : ((rm : Int) == 0) = false := by simpa using hr
  have H2' := Lib.hid H2
  have H3 := na_len_any a c l _ (h.on hB) hn
  obtain ⟨bl, hbe⟩ : ∃ x, x = Na.bitLen (Na.val l) := ⟨_, rfl⟩
  rw [← hbe] at H3 ho
  have H3' := Lib.hid H3
  have H4 := na_cut_any a c l _ (h.on hB) hn
  have hl1 : (Na.cut l).length ≤ 256 := Nat.le_of_not_lt (of_decide_eq_false hb)
  have S1 := h.cut
  have V1 := Lib.hid (Na.val_cut (a := l))
  obtain ⟨q, hq⟩ : ∃ q, q = Na.cut l := ⟨_, rfl⟩
  rw [← hq] at H4 hl1 S1 V1
  obtain ⟨ln, hqn⟩ : ∃ n, q.length = n := ⟨_, rfl⟩
  rw [hqn] at H4 hl1
  have HQ := Lib.hid hqn
  have H4' := Lib.hid H4
  obtain ⟨p, hp⟩ : ∃ p, p = n / 32 := ⟨_, rfl⟩
  obtain ⟨s, hs⟩ : ∃ s, s = n % 32 := ⟨_, rfl⟩
  have hpi : (n : Int) / 32 = (p : Int) := by omega
  have hsi : (n : Int) % 32 = (s : Int) := by omega
  have hs2 : s < 32 := by omega
  have hp2 : p ≤ 256 := by omega
  have HN := Lib.hid (show n = 32 * p + s by omega)
  obtain ⟨ho1, ho2⟩ := ho
  have ho3 : ¬ 8192 < (bl : Int) + n := by omega
  have ho4 : ¬ 8192 < (n : Int) := by omega
  have ho5 : bl ≤ 8192 := by omega
  clear hb hz H2 hr H3 H4 hbe hrm hq hqn hp hs ho2
  go_enter Tryz.func90, Tryz.ntmps90
  go_wp2_with (first | (go_at_call 112; (with_reducible refine (H1.out).mono ?_); rintro e w' ⟨rfl, rfl⟩) | (go_at_call 113; (with_reducible refine (H2'.out).mono ?_); rintro e w' ⟨rfl, rfl⟩) | (go_at_call 114; (with_reducible refine (H3'.out).mono ?_); rintro e w' ⟨rfl, rfl⟩) | (go_at_call 115; (with_reducible refine (H4'.out).mono ?_); rintro e w' ⟨rfl, rfl⟩) | (at_make; refine mk_u32 rfl _ _ rfl _ _ (p + ln + 1) rfl rfl rfl rfl (by omega) ?_))
  intro w1 hK hgrow
  have HB1 := Lib.hid (hgrow.out _ _ hB (by simp [World.size_alloc]))
  have hK' := Lib.hid (show Blk w1 (w.heap.size + 1) (List.replicate (p + ln + 1) 0) by have := hK.out; simpa [World.size_alloc] using this)
  clear hgrow hB hK
  have hsh : Calls Tryz.prog 116 #[.slice (some ⟨w.heap.size + 1, p, none⟩) (p + ln + 1 - p) (p + ln + 1 - p), .slice a ln c, .int .i64 s] w1 (ShiftR (w.heap.size + 1) p (ln + 1) s (List.replicate (p + ln + 1) 0) q w1) := by
    rw [show p + ln + 1 - p = ln + 1 by omega]
    have := na_shift_any (w.heap.size + 1) p (ln + 1) (ln + 1) s c (List.replicate (p + ln + 1) 0) q a w1 hK'.out (by intro x hx; rw [List.eq_of_mem_replicate hx]; decide) (by simp; omega) (fun wr hb => S1.on (HB1.out.trans (hb.mono (by omega)))) hs2 (by have := HQ.out; omega) (by omega)
    rw [HQ.out] at this; exact this
  have HSH := Lib.hid hsh
  have HCUT := Lib.hid (fun w2 (e : Ending) (hr : ShiftR (w.heap.size + 1) p (ln + 1) s (List.replicate (p + ln + 1) 0) q w1 e w2) => (by
    obtain ⟨_, hb2, o', hk2, hl2, hok2, htk, cc, hval⟩ := hr
    have hb3 : Below w.heap.size w w2 := HB1.out.trans (hb2.mono (by omega))
    have hv : Na.val o' = Na.val l * 2 ^ n := by
      have hq1 : Na.val (q.take (ln + 1)) = Na.val l := by rw [List.take_of_length_le (by rw [HQ.out]; omega), V1.out]
      have hlt : Na.val l * 2 ^ s < Na.B ^ (ln + 1) := by
        have h1 := Na.val_lt q S1.ok
        rw [V1.out, HQ.out] at h1
        have h2 : 2 ^ s ≤ Na.B := Nat.le_trans (Nat.pow_le_pow_right (by decide) (show s ≤ 32 by omega)) (by decide)
        rw [Nat.pow_succ]
        exact Nat.lt_of_lt_of_le (Nat.mul_lt_mul_of_pos_right h1 (Nat.pow_pos (by decide))) (Nat.mul_le_mul_left _ h2)
      rw [hq1] at hval
      refine Na.shl_val o' [Na.val l] p s (ln + 1) cc _ ?_ (by omega) (by rw [hval]; simp [Na.val]) (by simpa [Na.val] using hlt) (by rw [HN.out]; simp [Na.val])
      rw [htk, List.take_replicate, Na.val_zeros]
    have hcut : Na.cut o' = Na.limbs (Na.val l * 2 ^ n) := by rw [Na.cut, hv]
    have hs3 := hk2.sl hok2 (c := p + ln + 1) (by omega)
    have hc := na_cut_any (some ⟨w.heap.size + 1, 0, none⟩) (p + ln + 1) o' w2 hs3 (by omega)
    have hs4 := hs3.cut
    rw [hl2, hcut] at hc
    rw [hcut] at hs4
    exact ⟨hc, hs4, hk2.own (by omega), hb3⟩ : Calls Tryz.prog 115 #[.slice (some ⟨w.heap.size + 1, 0, none⟩) (p + ln + 1) (p + ln + 1)] w2 (Ret0 (.slice (some ⟨w.heap.size + 1, 0, none⟩) (Na.limbs (Na.val l * 2 ^ n)).length (p + ln + 1)) w2) ∧
      Sl w2 (some ⟨w.heap.size + 1, 0, none⟩) (p + ln + 1) (Na.limbs (Na.val l * 2 ^ n)) ∧ Own w2 w.heap.size (some ⟨w.heap.size + 1, 0, none⟩) (Na.limbs (Na.val l * 2 ^ n)).length ∧ Below w.heap.size w w2))
  clear hsh
  go_wp2_with (first | (go_at_call 116; (with_reducible refine (HSH.out).mono ?_); intro e w2 hr; have HX := Lib.hid (HCUT.out w2 e hr); obtain ⟨rfl, -⟩ := hr) | (go_at_call 115; (with_reducible refine (HX.out.1).mono ?_); rintro e w' ⟨rfl, rfl⟩))
  refine bodyPost_ret (v := .tuple #[.slice (some ⟨w.heap.size + 1, 0, none⟩) (Na.limbs (Na.val l * 2 ^ n)).length (p + ln + 1), .int .i64 0]) (by simp [results, Tryz.results90, go_sem]) rfl (by rw [e2.out]; exact ⟨_, _, rfl, HX.out.2.1, HX.out.2.2.1, HX.out.2.2.2⟩)
theorem na_shl_any (a : Option Addr) (c : Nat) (l : List Nat) (n : Int) (w : World) (h : Sl w a c l) (hn : l.length ≤ 1000000) (hi : -9223372036854775808 ≤ n ∧ n ≤ 9223372036854775807) :
    Calls Tryz.prog 90 #[.slice a l.length c, .int .i64 n] w (GivesE (Na.shl l n) w) := by
  by_cases h0 : n < 0
  · exact na_shl_arg a c l n w h hn hi h0
  · cases hb : Na.big l with
    | true => exact na_shl_big a c l n w h hn hi (by omega) hb
    | false =>
      by_cases hz : Na.val l = 0
      · exact na_shl_zero a c l n w h hn hi (by omega) hb hz
      · by_cases ho : 8192 < n ∨ 8192 < (Na.bitLen (Na.val l) : Int) + n
        · exact na_shl_over a c l n w h hn hi (by omega) hb hz ho
        · obtain ⟨n', rfl⟩ : ∃ x : Nat, n = x := ⟨n.toNat, by omega⟩
          exact na_shl_main a c l n' w h hn hb hz (by omega)
end Go.Proofs.YtiglekomfgfilaaGreatDoor

/- Plain Lean: a number's digits, nine at a time. -/
namespace Go.Proofs.YtiglekomfgfilaaGreatDoor.Na
set_option linter.all false
open Go
def padk : Nat → Nat → List UInt8
  | 0, _ => []
  | k + 1, r => padk k (r / 10) ++ [UInt8.ofNat (48 + r % 10)]
theorem dec_app (v : Nat) (hv : v ≠ 0) (k : Nat) : ∀ r, r < 10 ^ k → Lib.decDigits (v * 10 ^ k + r) = Lib.decDigits v ++ padk k r := by
  induction k with
  | zero =>
    intro r hr
    have h0 : r = 0 := by rw [Nat.pow_zero] at hr; omega
    rw [h0]; simp [padk]
  | succ k ih =>
    intro r hr
    rw [Nat.pow_succ] at hr
    have h1 : 10 * 10 ^ k ≤ v * 10 ^ (k + 1) := by
      rw [Nat.pow_succ, Nat.mul_comm (10 ^ k) 10]
      exact Nat.le_mul_of_pos_left _ (by omega)
    have h2 : 0 < 10 ^ k := Nat.pow_pos (by decide)
    rw [Lib.decDigits, dif_neg (by omega)]
    have e : v * 10 ^ (k + 1) + r = 10 * (v * 10 ^ k) + r := by rw [Nat.pow_succ, ← Nat.mul_assoc, Nat.mul_comm _ 10]
    have e1 : (v * 10 ^ (k + 1) + r) / 10 = v * 10 ^ k + r / 10 := by omega
    have e2 : (v * 10 ^ (k + 1) + r) % 10 = r % 10 := by omega
    rw [e1, e2, ih (r / 10) (by omega), padk, List.append_assoc]
theorem padk_eq (k : Nat) : ∀ r, r < 10 ^ (k + 1) → padk (k + 1) r = List.replicate (k + 1 - (Lib.decDigits r).length) 48 ++ Lib.decDigits r ∧ (Lib.decDigits r).length ≤ k + 1 := by
  induction k with
  | zero => intro r hr; rw [Lib.decDigits, dif_pos (by simpa using hr)]; simp [padk, Nat.mod_eq_of_lt (show r < 10 by simpa using hr)]
  | succ k ih =>
    intro r hr
    by_cases h : r < 10
    · rw [Lib.decDigits, dif_pos h]
      obtain ⟨e, _⟩ := ih (r / 10) (Nat.lt_of_lt_of_le (show r / 10 < 1 by omega) (Nat.one_le_pow _ _ (by decide)))
      rw [padk, e, show r / 10 = 0 by omega, Lib.decDigits, dif_pos (by decide), Nat.mod_eq_of_lt h]
      refine ⟨?_, by simp⟩
      rw [show k + 1 + 1 - [UInt8.ofNat (48 + r)].length = k + 1 - [UInt8.ofNat (48 + 0)].length + 1 by simp, List.replicate_succ']
      simp
    · rw [Nat.pow_succ] at hr
      obtain ⟨e, hl⟩ := ih (r / 10) (by omega)
      rw [Lib.decDigits, dif_neg h, padk, e, List.length_append, List.length_singleton]
      exact ⟨by rw [show k + 1 + 1 - ((Lib.decDigits (r / 10)).length + 1) = k + 1 - (Lib.decDigits (r / 10)).length by omega, List.append_assoc], by omega⟩
theorem dig_step (v : Nat) (hv : v / 1000000000 ≠ 0) : Lib.decDigits v = Lib.decDigits (v / 1000000000) ++ (List.replicate (9 - (Lib.decDigits (v % 1000000000)).length) 48 ++ Lib.decDigits (v % 1000000000)) := by
  have h1 : v % 1000000000 < 10 ^ 9 := Nat.mod_lt _ (by decide)
  rw [← (padk_eq 8 _ h1).1, ← dec_app _ hv 9 _ h1]
  congr 1
  have := Nat.div_add_mod v 1000000000
  omega
theorem dig_len (v : Nat) : (Lib.decDigits (v % 1000000000)).length ≤ 9 := (padk_eq 8 _ (Nat.mod_lt _ (by decide))).2
theorem rep48 (m : Nat) : Lib.repeatL [48] m = List.replicate m 48 := by
  induction m with
  | zero => rfl
  | succ m ih => rw [Lib.repeatL, ih, List.replicate_succ]; rfl
end Go.Proofs.YtiglekomfgfilaaGreatDoor.Na
