/- DivMod, but for long. -/
import Derived.Test.YtcdndcbfmlnpjaaGreatDoorN9
namespace Go.Proofs.YtcdndcbfmlnpjaaGreatDoor
set_option linter.all false
open Go.RowKit

/-- Two lists of the call's own, and an error. -/
def GivesQ (q : List Nat × List Nat × Int) (w : World) (e : Ending) (w' : World) : Prop := ∃ a c a' c', e = .returned (.tuple #[.slice a q.1.length c, .slice a' q.2.1.length c', .int .i64 q.2.2]) ∧
  Sl w' a c q.1 ∧ Own w' w.heap.size a q.1.length ∧ Sl w' a' c' q.2.1 ∧ Own w' w.heap.size a' q.2.1.length ∧ Below w.heap.size w w'

section
variable (a : Option Addr) (c : Nat) (l : List Nat) (b : Option Addr) (d : Nat) (m : List Nat) (w : World) (h : Sl w a c l) (h' : Sl w b d m) (hn : l.length ≤ 1000000) (hm : m.length ≤ 1000000)
include h h' hn hm

set_option maxHeartbeats 1000000 in
theorem na_divmod_big (hbig : (Na.big l || Na.big m) = true) : Calls Tryz.prog 25 #[.slice a l.length c, .slice b m.length d] w (GivesQ (Na.divMod l m) w) := by
  have H1 := Lib.hid (na_over2_any h h' hn hm true hbig)
  have e2 := Lib.hid (show Na.divMod l m = ([], [], 2) from if_pos hbig)
  have hB : Below w.heap.size w (w.alloc (Obj.cells #[Value.slice a l.length c, Value.slice b m.length d] 26)) := (Below.refl _ _).alloc (Nat.le_refl _) _
  clear hbig
  go_enter Tryz.func25, Tryz.ntmps25
  go_wp2_with (first | (go_at_call 40; (with_reducible refine (H1.out).mono ?_); rintro e w' ⟨rfl, rfl⟩))
  refine bodyPost_ret (v := .tuple #[.slice none 0 0, .slice none 0 0, .int .i64 2]) (by simp [results, Tryz.results25, go_sem]) rfl ⟨none, 0, none, 0, ?_, ?_, ?_, ?_, ?_, hB⟩ <;> rw [e2.out]
  · rfl
  · exact Sl.nil _ _ _
  · exact Own.nil _ _ _
  · exact Sl.nil _ _ _
  · exact Own.nil _ _ _

set_option maxHeartbeats 1000000 in
theorem na_divmod_zero (hbig : (Na.big l || Na.big m) = false) (hz : Na.val m = 0) : Calls Tryz.prog 25 #[.slice a l.length c, .slice b m.length d] w (GivesQ (Na.divMod l m) w) := by
  have H1 := Lib.hid (na_over2_any h h' hn hm false hbig)
  have e2 := Lib.hid (show Na.divMod l m = ([], [], 10) by rw [Na.divMod, hbig, if_neg (by simp), if_pos hz])
  have hB : Below w.heap.size w (w.alloc (Obj.cells #[Value.slice a l.length c, Value.slice b m.length d] 26)) := (Below.refl _ _).alloc (Nat.le_refl _) _
  have hr : Na.rt m = 0 := by rw [Na.rt, (Na.cut_nil_iff m).2 hz]; rfl
  have H2 := na_right_any b d m _ (h'.on hB) hm
  rw [hr] at H2
  have H2' := Lib.hid (show Calls Tryz.prog 37 #[.slice b m.length d] (w.alloc (Obj.cells #[Value.slice a l.length c, Value.slice b m.length d] 26)) (Ret0 (.int .i64 0) (w.alloc (Obj.cells #[Value.slice a l.length c, Value.slice b m.length d] 26))) from H2)
  clear hbig H2 hr
  go_enter Tryz.func25, Tryz.ntmps25
  go_wp2_with (first | (go_at_call 40; (with_reducible refine (H1.out).mono ?_); rintro e w' ⟨rfl, rfl⟩) | (go_at_call 37; (with_reducible refine (H2'.out).mono ?_); rintro e w' ⟨rfl, rfl⟩))
  refine bodyPost_ret (v := .tuple #[.slice none 0 0, .slice none 0 0, .int .i64 10]) (by simp [results, Tryz.results25, go_sem]) rfl ⟨none, 0, none, 0, ?_, ?_, ?_, ?_, ?_, hB⟩ <;> rw [e2.out]
  · rfl
  · exact Sl.nil _ _ _
  · exact Own.nil _ _ _
  · exact Sl.nil _ _ _
  · exact Own.nil _ _ _

set_option maxHeartbeats 1000000 in
theorem na_divmod_less (hbig : (Na.big l || Na.big m) = false) (hlt : Na.val l < Na.val m) : Calls Tryz.prog 25 #[.slice a l.length c, .slice b m.length d] w (GivesQ (Na.divMod l m) w) := by
  have H1 := Lib.hid (na_over2_any h h' hn hm false hbig)
  have e2 := Lib.hid (show Na.divMod l m = ([], Na.cut l, 0) by rw [Na.divMod, hbig, if_neg (by simp), if_neg (by omega), Nat.div_eq_of_lt hlt, Nat.mod_eq_of_lt hlt, Na.limbs_zero]; rfl)
  have hB : Below w.heap.size w (w.alloc (Obj.cells #[Value.slice a l.length c, Value.slice b m.length d] 26)) := (Below.refl _ _).alloc (Nat.le_refl _) _
  have hr : Na.rt m ≠ 0 := fun e => by have := (Na.cut_nil_iff m).1 (List.eq_nil_of_length_eq_zero e); omega
  have H2 := na_right_any b d m _ (h'.on hB) hm
  obtain ⟨rm, hrm⟩ : ∃ x, x = Na.rt m := ⟨_, rfl⟩
  rw [← hrm] at H2 hr
  have hr0 : ((rm : Int) == 0) = false := by simpa using hr
  have H2' := Lib.hid H2
  have HC := na_cmp_any a c l b d m _ (h.on hB) (h'.on hB) hn hm
  rw [Na.cmp_lt hlt] at HC
  have HC' := Lib.hid HC
  have H3 := Lib.hid (fun wr (hb : Below w.heap.size w wr) => na_trim_any a c l wr (h.on hb) hn)
  clear hbig H2 hr HC hlt hrm
  go_enter Tryz.func25, Tryz.ntmps25
  go_wp2_with (first | (go_at_call 40; (with_reducible refine (H1.out).mono ?_); rintro e w' ⟨rfl, rfl⟩) | (go_at_call 37; (with_reducible refine (H2'.out).mono ?_); rintro e w' ⟨rfl, rfl⟩) | (go_at_call 17; (with_reducible refine (HC'.out).mono ?_); rintro e w2 ⟨rfl, hb2⟩; have hB2 : Below w.heap.size w w2 := hB.trans (hb2.mono (by simp [World.size_alloc]))) | (go_at_call 9; (with_reducible refine (H3.out _ hB2).mono ?_); intro e w3 hg; obtain ⟨g, rfl, hg1, hk1, hb1⟩ := GivesB.up hg hB2))
  refine bodyPost_ret (v := .tuple #[.slice none 0 0, .slice (some ⟨g, 0, none⟩) (Na.cut l).length (Na.cut l).length, .int .i64 0]) (by simp [results, Tryz.results25, go_sem]) rfl ⟨none, 0, some ⟨g, 0, none⟩, (Na.cut l).length, ?_, ?_, ?_, ?_, ?_, hb1⟩ <;> rw [e2.out]
  · rfl
  · exact Sl.nil _ _ _
  · exact Own.nil _ _ _
  · exact hk1.sl (Na.ok_cut l) (Nat.le_refl _)
  · exact hk1.own hg1

set_option maxHeartbeats 2000000 in
theorem na_divmod_one (hbig : (Na.big l || Na.big m) = false) (hge : ¬ Na.val l < Na.val m) (h1 : Na.rt m = 1) : Calls Tryz.prog 25 #[.slice a l.length c, .slice b m.length d] w (GivesQ (Na.divMod l m) w) := by
  have H1 := Lib.hid (na_over2_any h h' hn hm false hbig)
  have S2 := h'.cut
  have hm0 : 0 < (Na.cut m).length := by show 0 < Na.rt m; omega
  have hm1 : (Na.cut m).length = 1 := h1
  obtain ⟨dv, hdv⟩ : ∃ x, x = (Na.cut m)[0] := ⟨_, rfl⟩
  have hcm : Na.cut m = [dv] := by
    rw [hdv]; apply List.ext_getElem
    · simpa using hm1
    · intro i hi hi2
      have : i = 0 := by simp at hi2; omega
      subst this; rfl
  have hvm : Na.val m = dv := by rw [← Na.val_cut, hcm]; simp [Na.val]
  have hdl : dv < 4294967296 := by rw [hdv]; exact S2.lt 0 hm0
  have hd0 : dv ≠ 0 := by
    intro e
    have := (Na.cut_nil_iff m).2 (by rw [hvm, e])
    rw [this] at hm0; simp at hm0
  have e2 := Lib.hid (show Na.divMod l m = (Na.limbs (Na.val l / dv), Na.limbs (Na.val l % dv), 0) by rw [Na.divMod, hbig, if_neg (by simp), if_neg (by omega), hvm])
  have hB : Below w.heap.size w (w.alloc (Obj.cells #[Value.slice a l.length c, Value.slice b m.length d] 26)) := (Below.refl _ _).alloc (Nat.le_refl _) _
  have H2 := na_right_any b d m _ (h'.on hB) hm
  rw [h1] at H2
  have H2' := Lib.hid (show Calls Tryz.prog 37 #[.slice b m.length d] (w.alloc (Obj.cells #[Value.slice a l.length c, Value.slice b m.length d] 26)) (Ret0 (.int .i64 1) (w.alloc (Obj.cells #[Value.slice a l.length c, Value.slice b m.length d] 26))) from H2)
  have HC := na_cmp_any a c l b d m _ (h.on hB) (h'.on hB) hn hm
  have hc0 : ∃ r : Int, r = Na.cmp l m ∧ decide (r < 0) = false := ⟨_, rfl, decide_eq_false (by rw [Na.cmp, if_neg hge]; split <;> omega)⟩
  obtain ⟨r0, hr0, hr1⟩ := hc0
  rw [← hr0] at HC
  have HC' := Lib.hid HC
  have H3 := Lib.hid (fun wr (hb : Below w.heap.size w wr) => na_trim_any a c l wr (h.on hb) hn)
  have H4 := Lib.hid (fun wr (hb : Below w.heap.size w wr) => hm1 ▸ na_cut_any b d m wr (h'.on hb) hm)
  obtain ⟨b1, o1, rfl, hbl, hc1⟩ := S2.plain hm0
  have c1 : w.cell? ⟨b1, o1, none⟩ = some (.int .u32 (dv : Int)) := by have := hc1 0 hm0; rw [← hdv] at this; exact this
  have hlen : (Na.cut l).length ≤ 1000000 := Nat.le_trans (Na.rt_le h.ok).1 hn
  obtain ⟨rm, hrm⟩ : ∃ x, x = Na.val l % dv := ⟨_, rfl⟩
  obtain ⟨qm, hqm⟩ : ∃ x, x = Na.val l / dv := ⟨_, rfl⟩
  have hml : rm < 4294967296 := by have := Nat.mod_lt (Na.val l) (show 0 < dv by omega); omega
  have HO := Lib.hid (fun w => na_of_any rm (by omega) w)
  have HS : ∀ g w, Blk w g (Na.cut l) → Calls Tryz.prog 49 #[.slice (some ⟨g, 0, none⟩) (Na.cut l).length (Na.cut l).length, .int .u32 dv] w
      (fun e w' => e = .returned (.int .u32 rm) ∧ Below g w w' ∧ ∃ o', Blk w' g o' ∧ o'.length = (Na.cut l).length ∧ Na.OK o' ∧ Na.val o' = qm) := fun g w hb =>
    (na_short_any g (Na.cut l).length (Na.cut l).length dv (Na.cut l) w hb (Na.ok_cut l) (Nat.le_refl _) hlen (by omega) hdl).mono fun e w' ⟨h1, h2, o', h3, h4, h5, h6⟩ =>
      ⟨by rw [h1, List.take_length, Na.val_cut, hrm], h2, o', h3, h4, h5, by rw [List.take_of_length_le (by omega), List.take_length, Na.val_cut] at h6; rw [h6, hqm]⟩
  have HS' := Lib.hid HS
  rw [← hrm, ← hqm] at e2
  clear hbig H2 HC hge h1 hm0 hm1 hdv hcm hvm hr0 S2 hc1 hrm hqm HS
  have HCUT := Lib.hid (fun g w5 o' (hk : Blk w5 g o') (hl : o'.length = (Na.cut l).length) (hok : Na.OK o') (hv : Na.val o' = qm) =>
    (by
      have hc := na_cut_any (some ⟨g, 0, none⟩) (Na.cut l).length o' w5 (hk.sl hok (by omega)) (by omega)
      rw [hl, show Na.cut o' = Na.limbs qm by rw [Na.cut, hv]] at hc
      exact hc : Calls Tryz.prog 38 #[.slice (some ⟨g, 0, none⟩) (Na.cut l).length (Na.cut l).length] w5 (Ret0 (.slice (some ⟨g, 0, none⟩) (Na.limbs qm).length (Na.cut l).length) w5)))
  go_enter Tryz.func25, Tryz.ntmps25
  go_wp2_with (first | (go_at_call 40; (with_reducible refine (H1.out).mono ?_); rintro e w' ⟨rfl, rfl⟩) | (go_at_call 37; (with_reducible refine (H2'.out).mono ?_); rintro e w' ⟨rfl, rfl⟩) | (go_at_call 17; (with_reducible refine (HC'.out).mono ?_); rintro e w2 ⟨rfl, hb2⟩; have hB2 : Below w.heap.size w w2 := hB.trans (hb2.mono (by simp [World.size_alloc]))) | (go_at_call 38; (with_reducible refine (H4.out _ hB2).mono ?_); rintro e w' ⟨rfl, rfl⟩) | (go_at_call 9; (with_reducible refine (H3.out _ hB2).mono ?_); intro e w3 hg; obtain ⟨g, rfl, hg1, hk1, hb3⟩ := GivesB.up hg hB2; have c3 : w3.cell? ⟨b1, o1, none⟩ = some (.int .u32 (dv : Int)) := (hb3.cell (p := ⟨b1, o1, none⟩) hbl).trans c1; have HK1 := Lib.hid hk1; clear hk1 hg) | (go_at_call 49; (with_reducible refine (HS'.out g _ HK1.out).mono ?_); rintro e w4 ⟨rfl, hb4, o', hk4, hl4, hok4, hv4⟩; have hB4 : Below w.heap.size w w4 := hb3.trans (hb4.mono hg1); have H5 := Lib.hid (HCUT.out g w4 o' hk4 hl4 hok4 hv4); have HV4 := Lib.hid hv4; have HL4 := Lib.hid hl4; have HK4 := Lib.hid hk4; clear hv4 hl4 hk4) | (go_at_call 38; (with_reducible refine (H5.out).mono ?_); rintro e w' ⟨rfl, rfl⟩) | (go_at_call 11; (with_reducible refine (HO.out _).mono ?_); rintro e w5 ⟨g5, rfl, hg5, hk5, hb5⟩))
  have hle := hB4.size
  have hk6 := HK4.out.on hb5
  have hcut : Na.cut o' = Na.limbs qm := by rw [Na.cut, HV4.out]
  refine bodyPost_ret (v := .tuple #[.slice (some ⟨g, 0, none⟩) (Na.limbs qm).length (Na.cut l).length, .slice (some ⟨g5, 0, none⟩) (Na.limbs rm).length (Na.limbs rm).length, .int .i64 0]) (by simp [results, Tryz.results25, go_sem]) rfl
    ⟨some ⟨g, 0, none⟩, (Na.cut l).length, some ⟨g5, 0, none⟩, (Na.limbs rm).length, ?_, ?_, ?_, ?_, ?_, hB4.trans (hb5.mono (by omega))⟩ <;> rw [e2.out]
  · have := (hk6.sl hok4 (by rw [HL4.out]; exact Nat.le_refl _) : Sl w5 (some ⟨g, 0, none⟩) (Na.cut l).length o').cut
    rw [hcut] at this; exact this
  · exact hk6.own hg1
  · exact hk5.sl (Na.ok_limbs _) (Nat.le_refl _)
  · exact hk5.own (by omega)
end
end Go.Proofs.YtcdndcbfmlnpjaaGreatDoor
