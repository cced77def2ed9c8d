/- Chapter 10's laws: a number is written, a text is read or refused, as the document says; the decimals. -/
import Derived.Test.YtiglekomfgfilaaGreatDoorY31
import Derived.Test.YtiglekomfgfilaaGreatDoorY1
import Derived.JoinedOf
namespace Go.Proofs.YtiglekomfgfilaaGreatDoor
set_option maxRecDepth 100000
set_option maxHeartbeats 4000000
set_option linter.all false
open Go.RowKit
attribute [local go_sem] dc_guard
theorem Fl.fif_e {x : Nat} (hk : Fl.kind x < 3) : (Fl.sig x 15 1).e = 0 := by
  obtain ⟨d1, d2, d3, d4, d5, -⟩ := Fl.decx_fine x hk
  rw [Fl.sig, if_neg (by omega)]
  by_cases hne : (Fl.dec x).l = []
  · rw [Dc.sig, if_pos ⟨d3, by decide, by decide, by decide⟩, if_pos (by rw [hne]; decide)]
  · exact (Fl.sig_ok (k := 15) (way := 1) d3 hne (by omega) (by omega) (by omega)).e
theorem St10.dec {w0 w : World} {v b x : Nat} (h : St10 w0 v b w) (hx : x < 18446744073709551616) : Calls Tryz.prog 10 #[.pointer (some ⟨v, 0, none⟩), .int .u64 x] w (RetR b (.tuple #[drv (Fl.wdec x), .int .i64 (Fl.wdec x).e]) w) := sh_dec_any v b x w h.tb.tab hx h.wt
theorem St10.fif {w0 w : World} {v b x : Nat} (h : St10 w0 v b w) (hx : x < 18446744073709551616) : Calls Tryz.prog 11 #[.pointer (some ⟨v, 0, none⟩), .int .u64 x] w (RetB (.tuple #[drv (Fl.sig x 15 1), .int .i64 (Fl.sig x 15 1).e]) w) := sh_fifteen_any (some ⟨v, 0, none⟩) x w h.tb.tab hx
theorem l10_decs_any (x : Nat) (w : World) (hx : x < 18446744073709551616) (ht : Tab w) : Calls Tryz.prog 3 #[.int .u64 x] w (RetB (.bool true) w) := by
  have HS := Lib.hid (l10_shown_any w ht)
  have HN := Lib.hid (fun w1 => sh_new_any w1)
  have HT := Lib.hid ht
  have hd := fun v b w1 (h : St10 w v b w1) => h.dec hx
  have hf := fun v b w1 (h : St10 w v b w1) => h.fif hx
  have hK := fun w => r3_kind_any x hx w
  obtain ⟨k, hkk⟩ : ∃ k, k = Fl.kind x := ⟨_, rfl⟩
  rw [← hkk] at hK
  have HK := Lib.hid hK
  clear hK
  by_cases hk : 3 ≤ Fl.kind x
  · have e1 : Fl.wdec x = ⟨false, [], 0, 11⟩ := by rw [Fl.wdec, if_pos hk]
    have e2 : Fl.sig x 15 1 = ⟨false, [], 0, 11⟩ := by rw [Fl.sig, if_pos hk]
    rw [e1] at hd
    rw [e2] at hf
    obtain ⟨dn, hdn⟩ : ∃ q, q = false := ⟨_, rfl⟩
    obtain ⟨dS, hdS⟩ : ∃ q : ByteArray, q = ⟨#[]⟩ := ⟨_, rfl⟩
    obtain ⟨dX, hdX⟩ : ∃ q : Int, q = 0 := ⟨_, rfl⟩
    obtain ⟨fn, hfn⟩ : ∃ q, q = false := ⟨_, rfl⟩
    obtain ⟨fS, hfS⟩ : ∃ q : ByteArray, q = ⟨#[]⟩ := ⟨_, rfl⟩
    obtain ⟨fX, hfX⟩ : ∃ q : Int, q = 0 := ⟨_, rfl⟩
    have HD := Lib.hid (fun v b w1 (h : St10 w v b w1) => (show Calls Tryz.prog 10 #[.pointer (some ⟨v, 0, none⟩), .int .u64 x] w1 (RetR b (.tuple #[.agg #[.bool dn, .string dS, .int .i64 dX], .int .i64 11]) w1) from by rw [hdn, hdS, hdX]; exact hd v b w1 h))
    have HF := Lib.hid (fun v b w1 (h : St10 w v b w1) => (show Calls Tryz.prog 11 #[.pointer (some ⟨v, 0, none⟩), .int .u64 x] w1 (RetB (.tuple #[.agg #[.bool fn, .string fS, .int .i64 fX], .int .i64 11]) w1) from by rw [hfn, hfS, hfX]; exact hf v b w1 h))
    have q1 : ∀ w1, (binOp .eql 27 (.agg #[.bool dn, .string dS, .int .i64 dX]) (.agg #[.bool false, .string ⟨#[]⟩, .int .i64 0])).run Tryz.prog w1 = .ok (.bool true) w1 := fun w1 => by rw [dc_eql, hdn, hdS, hdX]; simp [dcEq]
    have q2 : ∀ w1, (binOp .eql 27 (.agg #[.bool fn, .string fS, .int .i64 fX]) (.agg #[.bool false, .string ⟨#[]⟩, .int .i64 0])).run Tryz.prog w1 = .ok (.bool true) w1 := fun w1 => by rw [dc_eql, hfn, hfS, hfX]; simp [dcEq]
    have hkc : (3 : Int) ≤ (k : Int) := by omega
    clear hd hf ht hdn hdS hdX hfn hfS hfX hkk hk e1 e2
    go_enter Tryz.func3, Tryz.ntmps3
    go_upto_region 8 with (first
      | (go_at_call 8; (with_reducible refine (HS.out).mono ?_); rintro e w1 ⟨rfl, hb1⟩)
      | (go_at_call 9; (with_reducible refine (HN.out _).mono ?_); rintro e w2 ⟨v, b, rfl, gv, gb, wt2, hb2⟩; have hB2 := hb1.trans (hb2.mono hb1.size); have S2 := Lib.hid (show St10 w v b w2 from ⟨⟨w, HT.out, Nat.le_trans hb1.size gb, hB2⟩, wt2, hB2, Nat.le_trans hb1.size gb⟩))
      | (go_at_call 10; (with_reducible refine (HD.out _ _ _ S2.out).mono ?_); rintro e w3 ⟨rfl, ho3, rd3⟩; have S3 := Lib.hid ((S2.out.onl ho3 rd3).on ((Below.refl _ w3).alloc (Nat.le_refl _) (.cells #[.bool dn, .string dS, .int .i64 dX] 27))); have C3 := Cs.new w3 (dcs dn dS dX) 27)
      | (go_at_call 11; (with_reducible refine (HF.out _ _ _ S3.out).mono ?_); rintro e w4 ⟨rfl, hb4⟩; have S4 := Lib.hid ((S3.out.on hb4).on ((Below.refl _ w4).alloc (Nat.le_refl _) (.cells #[.bool fn, .string fS, .int .i64 fX] 27))); have C4 := Cs.new w4 (dcs fn fS fX) 27; have E4 := (C3.on hb4).alloc (.cells #[.bool fn, .string fS, .int .i64 fX] 27))
      | (go_at_call 12; (with_reducible refine (HK.out _).mono ?_); rintro e w' ⟨rfl, rfl⟩))
    have hB := S4.out.be
    obtain ⟨g1, hg1⟩ : ∃ g, g = w3.heap.size := ⟨_, rfl⟩
    obtain ⟨g2, hg2⟩ : ∃ g, g = w4.heap.size := ⟨_, rfl⟩
    obtain ⟨X, hX⟩ : ∃ X, X = w4.alloc (.cells #[.bool fn, .string fS, .int .i64 fX] 27) := ⟨_, rfl⟩
    change Cs (w4.alloc (.cells #[.bool fn, .string fS, .int .i64 fX] 27)) _ _ at C4
    rw [← hX] at hB C4 E4 ⊢
    rw [← hg1] at E4
    rw [← hg2] at C4
    rw [← hg1, ← hg2]
    have x0 := E4.get 0 rfl; have x1 := E4.get 1 rfl; have x2 := E4.get 2 rfl; have xl := E4.1
    have y0 := C4.get 0 rfl; have y1 := C4.get 1 rfl; have y2 := C4.get 2 rfl; have yl := C4.1
    have hzX := hB.size
    have HBX := Lib.hid hB
    clear hX hg1 hg2 hB C4 E4 C3 S2 S3 S4 hB2 hb1 hb2 hb4 ho3 rd3 wt2 gv gb HS HN HD HF HK HT
    go_wp2_with fail
    go_ret
    exact RetB.of rfl HBX.out
  · have hk3 : Fl.kind x < 3 := by omega
    have e1 : (Fl.wdec x).e = 0 := (Fl.wdec_fine x hk3).1
    have e2 := Fl.fif_e hk3
    have hrd := fun w1 => r10_dec_any x w1 hx hk3
    have hrf := fun w1 => r10_fifteen_any x w1 hx
    rw [e1] at hd
    rw [e2] at hf
    unfold drv dag at hd hf hrd hrf
    obtain ⟨dn, hdn⟩ : ∃ q, q = (Fl.wdec x).n := ⟨_, rfl⟩
    obtain ⟨dS, hdS⟩ : ∃ q : ByteArray, q = ⟨(Fl.wdec x).l.toArray⟩ := ⟨_, rfl⟩
    obtain ⟨dX, hdX⟩ : ∃ q : Int, q = (Fl.wdec x).x := ⟨_, rfl⟩
    obtain ⟨fn, hfn⟩ : ∃ q, q = (Fl.sig x 15 1).n := ⟨_, rfl⟩
    obtain ⟨fS, hfS⟩ : ∃ q : ByteArray, q = ⟨(Fl.sig x 15 1).l.toArray⟩ := ⟨_, rfl⟩
    obtain ⟨fX, hfX⟩ : ∃ q : Int, q = (Fl.sig x 15 1).x := ⟨_, rfl⟩
    simp only [← hdn, ← hdS, ← hdX] at hd hrd
    simp only [← hfn, ← hfS, ← hfX] at hf hrf
    have HD := Lib.hid hd; have HF := Lib.hid hf; have HRD := Lib.hid hrd; have HRF := Lib.hid hrf
    have q1 : ∀ w1, (binOp .eql 27 (.agg #[.bool dn, .string dS, .int .i64 dX]) (.agg #[.bool dn, .string dS, .int .i64 dX])).run Tryz.prog w1 = .ok (.bool true) w1 := fun w1 => by rw [dc_eql]; simp [dcEq]
    have q2 : ∀ w1, (binOp .eql 27 (.agg #[.bool fn, .string fS, .int .i64 fX]) (.agg #[.bool fn, .string fS, .int .i64 fX])).run Tryz.prog w1 = .ok (.bool true) w1 := fun w1 => by rw [dc_eql]; simp [dcEq]
    have hkc : ¬ (3 : Int) ≤ (k : Int) := by omega
    clear hd hf hrd hrf ht hdn hdS hdX hfn hfS hfX hkk hk hk3 e1 e2
    go_enter Tryz.func3, Tryz.ntmps3
    go_upto_region 9 with (first
      | (go_at_call 8; (with_reducible refine (HS.out).mono ?_); rintro e w1 ⟨rfl, hb1⟩)
      | (go_at_call 9; (with_reducible refine (HN.out _).mono ?_); rintro e w2 ⟨v, b, rfl, gv, gb, wt2, hb2⟩; have hB2 := hb1.trans (hb2.mono hb1.size); have S2 := Lib.hid (show St10 w v b w2 from ⟨⟨w, HT.out, Nat.le_trans hb1.size gb, hB2⟩, wt2, hB2, Nat.le_trans hb1.size gb⟩))
      | (go_at_call 10; (with_reducible refine (HD.out _ _ _ S2.out).mono ?_); rintro e w3 ⟨rfl, ho3, rd3⟩; have S3 := Lib.hid ((S2.out.onl ho3 rd3).on ((Below.refl _ w3).alloc (Nat.le_refl _) (.cells #[.bool dn, .string dS, .int .i64 dX] 27))); have C3 := Cs.new w3 (dcs dn dS dX) 27)
      | (go_at_call 11; (with_reducible refine (HF.out _ _ _ S3.out).mono ?_); rintro e w4 ⟨rfl, hb4⟩; have S4 := Lib.hid ((S3.out.on hb4).on ((Below.refl _ w4).alloc (Nat.le_refl _) (.cells #[.bool fn, .string fS, .int .i64 fX] 27))); have C4 := Cs.new w4 (dcs fn fS fX) 27; have E4 := (C3.on hb4).alloc (.cells #[.bool fn, .string fS, .int .i64 fX] 27))
      | (go_at_call 12; (with_reducible refine (HK.out _).mono ?_); rintro e w' ⟨rfl, rfl⟩))
    have hB := S4.out.be
    obtain ⟨g1, hg1⟩ : ∃ g, g = w3.heap.size := ⟨_, rfl⟩
    obtain ⟨g2, hg2⟩ : ∃ g, g = w4.heap.size := ⟨_, rfl⟩
    obtain ⟨X, hX⟩ : ∃ X, X = w4.alloc (.cells #[.bool fn, .string fS, .int .i64 fX] 27) := ⟨_, rfl⟩
    change Cs (w4.alloc (.cells #[.bool fn, .string fS, .int .i64 fX] 27)) _ _ at C4
    rw [← hX] at hB C4 E4 ⊢
    rw [← hg1] at E4
    rw [← hg2] at C4
    rw [← hg1, ← hg2]
    have x0 := E4.get 0 rfl; have x1 := E4.get 1 rfl; have x2 := E4.get 2 rfl; have xl := E4.1
    have y0 := C4.get 0 rfl; have y1 := C4.get 1 rfl; have y2 := C4.get 2 rfl; have yl := C4.1
    have hzX := hB.size
    have HBX := Lib.hid hB
    clear hX hg1 hg2 hB C4 E4 C3 S2 S3 S4 hB2 hb1 hb2 hb4 ho3 rd3 wt2 gv gb HS HN HD HF HK HT
    go_region_held3 (fun w' => w'.cell? ⟨g1, 0, none⟩ = some (.bool dn) ∧ w'.cell? ⟨g1, 1, none⟩ = some (.string dS) ∧ w'.cell? ⟨g1, 2, none⟩ = some (.int .i64 dX) ∧ w'.cell? ⟨g2, 0, none⟩ = some (.bool fn) ∧ w'.cell? ⟨g2, 1, none⟩ = some (.string fS) ∧ w'.cell? ⟨g2, 2, none⟩ = some (.int .i64 fX))
      (first | go_keep | (refine ⟨?_, ?_, ?_, ?_, ?_, ?_⟩ <;> (first | (rw [hr0_wA]; assumption) | (rw [hr1_wA]; assumption) | (rw [hr0_wB]; assumption) | (rw [hr1_wB]; assumption))) | (refine ⟨?_, ?_, ?_, ?_, ?_, ?_⟩ <;> (first | (go_simp; done) | (simp [go_sem, *]; done))))
      (first
      | (go_at_call 13; (with_reducible refine (HRD.out _).mono ?_); rintro e wA ⟨rfl, hb_wA⟩; have hB_wA : Below (X).heap.size (X) wA := Below.trans (by (repeat (first | exact Below.refl _ _ | assumption | refine Below.setCell ?_ (by first | omega | (simp <;> omega)) _ | refine Below.alloc ?_ (by first | omega | (simp <;> omega)) _ | refine Below.drew ?_ | refine below_drewN' ?_ _))) (hb_wA.mono (by first | omega | (simp <;> omega))); obtain ⟨hc_wA, hf_wA⟩ := bcell hb_wA; have hz_wA := hb_wA.size; (try simp only [zD, zN, zA, zS] at hz_wA); have hk := own6 hb_wA (g1) (by (try simp only [zD, zN, zA, zS]); omega); obtain ⟨hl0_wA, hm0_wA, hn0_wA, hq0_wA, hr0_wA, hg0_wA⟩ := hk; have hk := own6 hb_wA (g2) (by (try simp only [zD, zN, zA, zS]); omega); obtain ⟨hl1_wA, hm1_wA, hn1_wA, hq1_wA, hr1_wA, hg1_wA⟩ := hk)
      | (go_at_call 14; (with_reducible refine (HRF.out _).mono ?_); rintro e wB ⟨rfl, hb_wB⟩; have hB_wB : Below (X).heap.size (X) wB := Below.trans (by (repeat (first | exact Below.refl _ _ | assumption | refine Below.setCell ?_ (by first | omega | (simp <;> omega)) _ | refine Below.alloc ?_ (by first | omega | (simp <;> omega)) _ | refine Below.drew ?_ | refine below_drewN' ?_ _))) (hb_wB.mono (by first | omega | (simp <;> omega))); obtain ⟨hc_wB, hf_wB⟩ := bcell hb_wB; have hz_wB := hb_wB.size; (try simp only [zD, zN, zA, zS] at hz_wB); have hk := own6 hb_wB (g1) (by (try simp only [zD, zN, zA, zS]); omega); obtain ⟨hl0_wB, hm0_wB, hn0_wB, hq0_wB, hr0_wB, hg0_wB⟩ := hk; have hk := own6 hb_wB (g2) (by (try simp only [zD, zN, zA, zS]); omega); obtain ⟨hl1_wB, hm1_wB, hn1_wB, hq1_wB, hr1_wB, hg1_wB⟩ := hk))
    all_goals (try go_wp2)
    all_goals (go_ret; exact RetB.of rfl (HBX.out.trans ((by (repeat (first | exact Below.refl _ _ | assumption | refine Below.setCell ?_ (by first | omega | (simp <;> omega)) _ | refine Below.alloc ?_ (by first | omega | (simp <;> omega)) _ | refine Below.drew ?_ | refine below_drewN' ?_ _)) : Below X.heap.size X _).mono hzX)))
end Go.Proofs.YtiglekomfgfilaaGreatDoor

/- What all cards of this seat ask of the program as a whole: each a fact of its own (together they outgrow the memory's lid). -/
namespace Go.Proofs.YtiglekomfgfilaaGreatDoor
set_option linter.all false
open Go.ChangeShapes Go.WideShapes Go.ChangeAt Go.RowKit Go.WideMaps Go.WideElems
theorem and_mk {a b : Bool} (ha : a = true) (hb : b = true) : (a && b) = true := by rw [ha, hb]; rfl
theorem cf_laid : laidOutB Tryz.pinned.checked.prog = true := laidOut
theorem cf_maps : mapsRowed Tryz.pinned.checked.prog = true := by kernel_rfl
theorem cf_stops : (Tryz.pinned.checked.prog.stops == []) = true := by kernel_rfl
theorem cf_knobs : (Tryz.pinned.checked.prog.stopKnobs == []) = true := by kernel_rfl
theorem cf_plain : (true == Tryz.pinned.checked.prog.plainKeys) = true := by kernel_rfl
theorem cf_heard : Tryz.pinned.checked.prog.stopsHeard = true := by kernel_rfl
theorem cf_enter : Tryz.pinned.checked.prog.mayEnter = true := by kernel_rfl
theorem cf_lifted : (Rows.shortestDecsRow.lifted == Tryz.pinned.checked.prog.liftsFinal) = true := by kernel_rfl
theorem cf_make : (Tryz.pinned.checked.prog.make == some Rows.shortestDecsRow.make) = true := by kernel_rfl
end Go.Proofs.YtiglekomfgfilaaGreatDoor
