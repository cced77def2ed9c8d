/- The law LocaleBack, walked. -/
import Derived.Test.YtcbepojookbceaaDoorT48
namespace Go.Proofs.YtcbepojookbceaaDoor
set_option linter.all false
open Go.RowKit
attribute [local go_sem] Dc.Res.val

set_option maxRecDepth 100000 in
set_option maxHeartbeats 4000000 in
theorem l11_back_neg_rest (cc : Int) (d : ByteArray) (x : Int) (w : World) (hv : Vars w) (hm : MaxL w) (hc : -9223372036854775808 ≤ cc ∧ cc ≤ 9223372036854775807) (hr : Dc.right d.data.toList x = true) (hs : d.size ≤ 200)
    (hp : Dc.point d.data.toList x ≤ 300) (hp2 : -100 ≤ Dc.point d.data.toList x) (l : Lc.Loc) (hl : l ∈ Lc.six) (hf : ∀ w, Vars w → Calls Tryd.prog 13 #[.int .i64 cc] w (Find2 l w))
    (c : UInt8) (S M T G R WH : ByteArray) (hcd : l.dec = [c]) (bf : BackFacts l true d x c S M T G R WH) (hR : 0 < R.size) :
    Calls Tryd.prog 5 #[.int .i64 cc, .agg #[.bool true, .string d, .int .i64 x]] w (RetB (.bool true) w) := by
  have hsh := fun w1 (hb : Below w.heap.size w w1) => l11_shown_any w1 (hv.on hb) (hm.on hb)
  have hmx := fun W (h : Below w.heap.size w W) => hm.on h
  obtain ⟨o1, o2, o3, _, _⟩ := six_ok l hl
  obtain ⟨bwr, bmin, bst, btg, bpl, bgc, brd, brl, bmk, bgs, brs, bws, bms, bg0⟩ := bf
  have hf2 : ∀ W, Below w.heap.size w W → Calls Tryd.prog 13 #[.int .i64 cc] W (fun e w' => ∃ b, e = .returned (.tuple #[LV b l, RV l]) ∧ W.heap.size ≤ b ∧ Szs w' b l ∧ Below W.heap.size W w') := fun W h => hf W (hv.on h)
  have hrt := fun W => r7_right_any true d x W (by omega)
  rw [hr] at hrt
  have hpt := fun W => r7_point_any true d x W (by omega)
  obtain ⟨pt, hptv⟩ : ∃ p, p = Dc.point d.data.toList x := ⟨_, rfl⟩
  rw [← hptv] at hpt hp hp2
  have hw1 := fun b W h1 => lo_write_any b l true d x true W (by omega) o1 h1
  rw [bwr] at hw1
  have hp1 := fun b W h1 h2 => lo_plain_any b l G W h1 h2 (by omega) o1 o2
  rw [bpl] at hp1
  have hdg := fun W => l11_digits_any R W (by omega)
  rw [brd] at hdg
  have hmk := fun W => r7_make_any true (WH ++ R) (-(R.size : Int)) W (by rw [ByteArray.size_append]; omega) (by omega)
  rw [Dc.ba_app, bmk] at hmk
  have hva : (⟨true, d.data.toList, x, 0⟩ : Dc.Res).val = .tuple #[.agg #[.bool true, .string d, .int .i64 x], .int .i64 0] := rfl
  rw [hva] at hmk
  unfold LV at hf2 hw1 hp1
  unfold RV at hf2
  unfold tx at hf2 hw1 hp1
  have hSd : (⟨S.data.toList.toArray⟩ : ByteArray) = S := by simp
  have hWd : (⟨WH.data.toList.toArray⟩ : ByteArray) = WH := by simp
  have hMd : (⟨l.minus.toArray⟩ : ByteArray) = M := by rw [bmin]
  have hCd : (⟨l.dec.toArray⟩ : ByteArray) = ⟨#[c]⟩ := by rw [hcd]
  simp only [hSd, hWd, hMd, hCd] at hf2 hw1 hp1
  obtain ⟨v0, hv0⟩ : ∃ v : ByteArray, v = ⟨l.name.toArray⟩ := ⟨_, rfl⟩
  obtain ⟨v2, hv2⟩ : ∃ v : ByteArray, v = ⟨l.grp.toArray⟩ := ⟨_, rfl⟩
  obtain ⟨v3, hv3⟩ : ∃ v : ByteArray, v = ⟨l.list.toArray⟩ := ⟨_, rfl⟩
  obtain ⟨v6, hv6⟩ : ∃ v : ByteArray, v = ⟨l.cur.toArray⟩ := ⟨_, rfl⟩
  obtain ⟨f7, hf7⟩ : ∃ v, v = l.first := ⟨_, rfl⟩
  obtain ⟨f8, hf8⟩ : ∃ v, v = l.space := ⟨_, rfl⟩
  obtain ⟨kk, hk⟩ : ∃ v : Nat, v = (if l.two = true then 2 else 1) := ⟨_, rfl⟩
  obtain ⟨z, hz⟩ : ∃ v : Nat, v = l.second := ⟨_, rfl⟩
  simp only [← hv0, ← hv2, ← hv3, ← hv6, ← hf7, ← hf8, ← hk, ← hz] at hf2 hw1 hp1
  -- sizes and pieces
  have hTl : T.data.toList = G.data.toList ++ c :: R.data.toList := by rw [btg, if_neg (by omega)]
  have hTs : T.size = G.size + 1 + R.size := by
    have := congrArg List.length hTl
    simp only [List.length_append, List.length_cons, bs_length] at this
    omega
  have hT1 : T.extract 0 G.size = G := Dc.ba_eq _ _ (by rw [Lib.extract_data, hTl, List.drop_zero, Nat.sub_zero, List.take_left' (by rw [bs_length])])
  have hT2 : T.extract (G.size + 1) T.size = R := Dc.ba_eq _ _ (by
    rw [Lib.extract_to_end, hTl, List.drop_append, bs_length]
    rw [List.drop_eq_nil_of_le (by rw [bs_length]; omega), show G.size + 1 - G.size = 1 by omega]; rfl)
  have hSs : S.size = M.size + T.size := by
    have := congrArg List.length bst
    simp only [if_true, if_false, Bool.false_eq_true, List.nil_append, List.length_append, bs_length] at this
    omega
  have hST : S.data.toList = M.data.toList ++ T.data.toList := by rw [bst, if_pos rfl]
  have hS1 : S.extract 0 M.size = M := Dc.ba_eq _ _ (by rw [Lib.extract_data, hST, List.drop_zero, Nat.sub_zero, List.take_left' (by rw [bs_length])])
  have hS2 : S.extract M.size S.size = T := Dc.ba_eq _ _ (by rw [Lib.extract_to_end, hST, List.drop_left' (by rw [bs_length])])
  have hsl1 : ∀ w : World, (Instr.slice 9 (.string S) none (some (.int .i64 (M.size : Int))) none).run Tryd.prog w = .ok (.string M) w := fun w => by
    rw [run_slice_string_to_if w _ S .i64 _ Tryd.underlying9, if_pos (by omega), Int.toNat_natCast, hS1]
  have hsl2 : ∀ w : World, (Instr.slice 9 (.string S) (some (.int .i64 (M.size : Int))) none none).run Tryd.prog w = .ok (.string T) w := fun w => by
    rw [run_slice_string_from_if w _ S .i64 _ Tryd.underlying9, if_pos (by omega), Int.toNat_natCast, hS2]
  have hlm : decide (S.size < M.size) = false := decide_eq_false (by omega)
  have HSH := Lib.hid hsh; have HMX := Lib.hid hmx; have HF := Lib.hid hf2; have HRT := Lib.hid hrt; have HPT := Lib.hid hpt; have HW := Lib.hid hw1; have HP1 := Lib.hid hp1; have HDG := Lib.hid hdg; have HMK := Lib.hid hmk; have BGC := Lib.hid bgc; have BRL := Lib.hid brl; have HTL := Lib.hid hTl; have HTS := Lib.hid hTs; have HT1 := Lib.hid hT1; have HT2 := Lib.hid hT2; have HSS := Lib.hid hSs; have HSL1 := Lib.hid hsl1; have HSL2 := Lib.hid hsl2; have HLM := Lib.hid hlm
  clear hsh hmx hf2 hrt hpt hw1 hp1 hdg hmk bgc brl hTl hTs hT1 hT2 hSs hsl1 hsl2 hlm hva hSd hWd hMd hCd hv0 hv2 hv3 hv6 hf7 hf8 hk hz hv hm hf hl o1 o2 o3 bwr bmin bst btg bpl brd bmk hcd hptv hr hST hS1 hS2
  have e1 : decide (300 < pt) = false := decide_eq_false (by omega)
  have e2 : decide (pt < -100) = false := decide_eq_false (by omega)
  have e3 : decide (200 < (d.size : Int)) = false := decide_eq_false (by omega)
  have tok1 : True := trivial
  go_enter Tryd.func5, Tryd.ntmps5
  go_wp2_with (first
    | (go_at_call 12; (with_reducible refine (HSH.out _ (by (repeat (first | exact Below.refl _ _ | assumption | refine Below.setCell ?_ (by first | omega | (simp <;> omega)) _ | refine Below.alloc ?_ (by first | omega | (simp <;> omega)) _ | refine Below.drew ?_ | refine below_drewN' ?_ _)))).mono ?_); rintro e w1 ⟨rfl, hb_w1⟩; have hB_w1 : Below (w).heap.size (w) w1 := Below.trans (by (repeat (first | exact Below.refl _ _ | assumption | refine Below.setCell ?_ (by first | omega | (simp <;> omega)) _ | refine Below.alloc ?_ (by first | omega | (simp <;> omega)) _ | refine Below.drew ?_ | refine below_drewN' ?_ _))) (hb_w1.mono (by first | omega | (simp <;> omega))); obtain ⟨hc_w1, hf_w1⟩ := bcell hb_w1; have hz_w1 := hb_w1.size; (try simp only [size_drew', size_drewN', World.size_alloc, World.size_setCell] at hz_w1); have hl0_w1 : w.heap.size < w1.heap.size := (by omega); have hm0_w1 : w.heap.size ≤ w1.heap.size := (by omega); have hn0_w1 : ¬ w.heap.size = w1.heap.size := (by omega); have hq0_w1 : ¬ w1.heap.size = w.heap.size := (by omega); have hr0_w1 := fun o => hc_w1 (w.heap.size) o (by (try simp only [size_drew', size_drewN', World.size_alloc, World.size_setCell]); omega); have hg0_w1 := fun o => hf_w1 (w.heap.size) o (by (try simp only [size_drew', size_drewN', World.size_alloc, World.size_setCell]); omega))
    | (go_at_call 23; (with_reducible refine (HRT.out _).mono ?_); rintro e w2 ⟨rfl, hb_w2⟩; have hB_w2 : Below (w).heap.size (w) w2 := Below.trans (by (repeat (first | exact Below.refl _ _ | assumption | refine Below.setCell ?_ (by first | omega | (simp <;> omega)) _ | refine Below.alloc ?_ (by first | omega | (simp <;> omega)) _ | refine Below.drew ?_ | refine below_drewN' ?_ _))) (hb_w2.mono (by first | omega | (simp <;> omega))); obtain ⟨hc_w2, hf_w2⟩ := bcell hb_w2; have hz_w2 := hb_w2.size; (try simp only [size_drew', size_drewN', World.size_alloc, World.size_setCell] at hz_w2); have hl0_w2 : w.heap.size < w2.heap.size := (by omega); have hm0_w2 : w.heap.size ≤ w2.heap.size := (by omega); have hn0_w2 : ¬ w.heap.size = w2.heap.size := (by omega); have hq0_w2 : ¬ w2.heap.size = w.heap.size := (by omega); have hr0_w2 := fun o => hc_w2 (w.heap.size) o (by (try simp only [size_drew', size_drewN', World.size_alloc, World.size_setCell]); omega); have hg0_w2 := fun o => hf_w2 (w.heap.size) o (by (try simp only [size_drew', size_drewN', World.size_alloc, World.size_setCell]); omega))
    | (clear tok1; (go_at_call 24; (with_reducible refine (HPT.out _).mono ?_); rintro e w3 ⟨rfl, hb_w3⟩; have hB_w3 : Below (w).heap.size (w) w3 := Below.trans (by (repeat (first | exact Below.refl _ _ | assumption | refine Below.setCell ?_ (by first | omega | (simp <;> omega)) _ | refine Below.alloc ?_ (by first | omega | (simp <;> omega)) _ | refine Below.drew ?_ | refine below_drewN' ?_ _))) (hb_w3.mono (by first | omega | (simp <;> omega))); obtain ⟨hc_w3, hf_w3⟩ := bcell hb_w3; have hz_w3 := hb_w3.size; (try simp only [size_drew', size_drewN', World.size_alloc, World.size_setCell] at hz_w3); have hl0_w3 : w.heap.size < w3.heap.size := (by omega); have hm0_w3 : w.heap.size ≤ w3.heap.size := (by omega); have hn0_w3 : ¬ w.heap.size = w3.heap.size := (by omega); have hq0_w3 : ¬ w3.heap.size = w.heap.size := (by omega); have hr0_w3 := fun o => hc_w3 (w.heap.size) o (by (try simp only [size_drew', size_drewN', World.size_alloc, World.size_setCell]); omega); have hg0_w3 := fun o => hf_w3 (w.heap.size) o (by (try simp only [size_drew', size_drewN', World.size_alloc, World.size_setCell]); omega)))
    | (go_at_call 24; (with_reducible refine (HPT.out _).mono ?_); rintro e w4 ⟨rfl, hb_w4⟩; have hB_w4 : Below (w).heap.size (w) w4 := Below.trans (by (repeat (first | exact Below.refl _ _ | assumption | refine Below.setCell ?_ (by first | omega | (simp <;> omega)) _ | refine Below.alloc ?_ (by first | omega | (simp <;> omega)) _ | refine Below.drew ?_ | refine below_drewN' ?_ _))) (hb_w4.mono (by first | omega | (simp <;> omega))); obtain ⟨hc_w4, hf_w4⟩ := bcell hb_w4; have hz_w4 := hb_w4.size; (try simp only [size_drew', size_drewN', World.size_alloc, World.size_setCell] at hz_w4); have hl0_w4 : w.heap.size < w4.heap.size := (by omega); have hm0_w4 : w.heap.size ≤ w4.heap.size := (by omega); have hn0_w4 : ¬ w.heap.size = w4.heap.size := (by omega); have hq0_w4 : ¬ w4.heap.size = w.heap.size := (by omega); have hr0_w4 := fun o => hc_w4 (w.heap.size) o (by (try simp only [size_drew', size_drewN', World.size_alloc, World.size_setCell]); omega); have hg0_w4 := fun o => hf_w4 (w.heap.size) o (by (try simp only [size_drew', size_drewN', World.size_alloc, World.size_setCell]); omega))
    | (go_at_call 13; (with_reducible refine (HF.out _ (by (repeat (first | exact Below.refl _ _ | assumption | refine Below.setCell ?_ (by first | omega | (simp <;> omega)) _ | refine Below.alloc ?_ (by first | omega | (simp <;> omega)) _ | refine Below.drew ?_ | refine below_drewN' ?_ _)))).mono ?_); rintro e w5 ⟨b, rfl, hlow, hszs, hb_w5⟩; have hB_w5 : Below w.heap.size w w5 := Below.trans (by (repeat (first | exact Below.refl _ _ | assumption | refine Below.setCell ?_ (by first | omega | (simp <;> omega)) _ | refine Below.alloc ?_ (by first | omega | (simp <;> omega)) _ | refine Below.drew ?_ | refine below_drewN' ?_ _))) (hb_w5.mono (by first | omega | (simp <;> omega))); have hz_w5 := hb_w5.size; have hr0_w5 := fun o => (bcell hb_w5).1 w.heap.size o (by omega); have hl0_w5 : w.heap.size < w5.heap.size := (by omega); have hn0_w5 : ¬ w.heap.size = w5.heap.size := (by omega); have hq0_w5 : ¬ w5.heap.size = w.heap.size := (by omega); have hn1_w5 : ¬ w.heap.size = w5.heap.size + 1 := (by omega); have hq1_w5 : ¬ w5.heap.size + 1 = w.heap.size := (by omega))
    | (go_at_call 19; (with_reducible refine (HW.out b _ (hszs.on (by (repeat (first | exact Below.refl _ _ | assumption | refine Below.setCell ?_ (by first | omega | (simp <;> omega)) _ | refine Below.alloc ?_ (by first | omega | (simp <;> omega)) _ | refine Below.drew ?_ | refine below_drewN' ?_ _))))).mono ?_); rintro e w6 ⟨rfl, hb_w6⟩; have hB_w6 : Below (w5).heap.size (w5) w6 := Below.trans (by (repeat (first | exact Below.refl _ _ | assumption | refine Below.setCell ?_ (by first | omega | (simp <;> omega)) _ | refine Below.alloc ?_ (by first | omega | (simp <;> omega)) _ | refine Below.drew ?_ | refine below_drewN' ?_ _))) (hb_w6.mono (by first | omega | (simp <;> omega))); obtain ⟨hc_w6, hf_w6⟩ := bcell hb_w6; have hz_w6 := hb_w6.size; (try simp only [size_drew', size_drewN', World.size_alloc, World.size_setCell] at hz_w6); have hl0_w6 : w.heap.size < w6.heap.size := (by omega); have hm0_w6 : w.heap.size ≤ w6.heap.size := (by omega); have hn0_w6 : ¬ w.heap.size = w6.heap.size := (by omega); have hq0_w6 : ¬ w6.heap.size = w.heap.size := (by omega); have hr0_w6 := fun o => hc_w6 (w.heap.size) o (by (try simp only [size_drew', size_drewN', World.size_alloc, World.size_setCell]); omega); have hg0_w6 := fun o => hf_w6 (w.heap.size) o (by (try simp only [size_drew', size_drewN', World.size_alloc, World.size_setCell]); omega); have hl1_w6 : w5.heap.size < w6.heap.size := (by omega); have hm1_w6 : w5.heap.size ≤ w6.heap.size := (by omega); have hn1_w6 : ¬ w5.heap.size = w6.heap.size := (by omega); have hq1_w6 : ¬ w6.heap.size = w5.heap.size := (by omega); have hr1_w6 := fun o => hc_w6 (w5.heap.size) o (by (try simp only [size_drew', size_drewN', World.size_alloc, World.size_setCell]); omega); have hg1_w6 := fun o => hf_w6 (w5.heap.size) o (by (try simp only [size_drew', size_drewN', World.size_alloc, World.size_setCell]); omega)))
  have a0 : w6.cell? ⟨w5.heap.size, 0, none⟩ = some (.string v0) := (hr1_w6 0).trans (by simp [go_sem])
  have a1 : w6.cell? ⟨w5.heap.size, 1, none⟩ = some (.string ⟨#[c]⟩) := (hr1_w6 1).trans (by simp [go_sem])
  have a2 : w6.cell? ⟨w5.heap.size, 2, none⟩ = some (.string v2) := (hr1_w6 2).trans (by simp [go_sem])
  have a3 : w6.cell? ⟨w5.heap.size, 3, none⟩ = some (.string v3) := (hr1_w6 3).trans (by simp [go_sem])
  have a4 : w6.cell? ⟨w5.heap.size, 4, none⟩ = some (.string M) := (hr1_w6 4).trans (by simp [go_sem])
  have a5 : w6.cell? ⟨w5.heap.size, 5, none⟩ = some (.string ⟨#[37]⟩) := (hr1_w6 5).trans (by simp [go_sem])
  have a6 : w6.cell? ⟨w5.heap.size, 6, none⟩ = some (.string v6) := (hr1_w6 6).trans (by simp [go_sem])
  have a7 : w6.cell? ⟨w5.heap.size, 7, none⟩ = some (.bool f7) := (hr1_w6 7).trans (by simp [go_sem])
  have a8 : w6.cell? ⟨w5.heap.size, 8, none⟩ = some (.bool f8) := (hr1_w6 8).trans (by simp [go_sem])
  have a9 : w6.cell? ⟨w5.heap.size, 9, none⟩ = some (.slice (some ⟨b, 0, none⟩) kk kk) := (hr1_w6 9).trans (by simp [go_sem])
  have g0 : w6.cell? ⟨w.heap.size, 0, none⟩ = some (.bool true) := by
    refine (hr0_w6 0).trans ?_
    rw [cell_alloc_old (by simp; omega), cell_alloc_old (by omega)]
    exact (hr0_w5 0).trans ((hr0_w4 0).trans ((hr0_w3 0).trans ((hr0_w2 0).trans ((hr0_w1 0).trans (by simp [go_sem])))))
  have g1 : w6.cell? ⟨w.heap.size, 1, none⟩ = some (.string d) := by
    refine (hr0_w6 1).trans ?_
    rw [cell_alloc_old (by simp; omega), cell_alloc_old (by omega)]
    exact (hr0_w5 1).trans ((hr0_w4 1).trans ((hr0_w3 1).trans ((hr0_w2 1).trans ((hr0_w1 1).trans (by simp [go_sem])))))
  have g2 : w6.cell? ⟨w.heap.size, 2, none⟩ = some (.int .i64 x) := by
    refine (hr0_w6 2).trans ?_
    rw [cell_alloc_old (by simp; omega), cell_alloc_old (by omega)]
    exact (hr0_w5 2).trans ((hr0_w4 2).trans ((hr0_w3 2).trans ((hr0_w2 2).trans ((hr0_w1 2).trans (by simp [go_sem])))))
  have hs6 : Szs w6 b l := hszs.on (by (repeat (first | exact Below.refl _ _ | assumption | refine Below.setCell ?_ (by first | omega | (simp <;> omega)) _ | refine Below.alloc ?_ (by first | omega | (simp <;> omega)) _ | refine Below.drew ?_ | refine below_drewN' ?_ _)))
  have hB6 : Below w.heap.size w w6 := hB_w5.trans (hB_w6.mono hB_w5.size)
  have l1 : w5.heap.size < w6.heap.size := by omega
  have l2 : w.heap.size < w6.heap.size := by omega
  have HS6 := Lib.hid hs6; have HB6 := Lib.hid hB6
  clear hs6 hB6 hszs hb_w5 hB_w5 hr0_w5 hb_w1 hB_w1 hc_w1 hf_w1 hb_w2 hB_w2 hc_w2 hf_w2 hb_w3 hB_w3 hc_w3 hf_w3 hb_w4 hB_w4 hc_w4 hf_w4 hb_w6 hB_w6 hc_w6 hf_w6 hr0_w1 hg0_w1 hr0_w2 hg0_w2 hr0_w3 hg0_w3 hr0_w4 hg0_w4 hr0_w6 hg0_w6 hr1_w6 hg1_w6
  have hsl1 := HSL1.out; have hsl2 := HSL2.out; have hlm := HLM.out
  go_quiet (fail)
  go_wp2
  go_loopw [10, 11] (fun at' i wr => ∃ k : Nat, k ≤ G.size ∧ at' = .int .i64 (T.size : Int) ∧ i = .int .i64 k ∧ Below w6.heap.size w6 wr) (fun _ i _ => T.size - (intOf i).toNat)
  case atStart => exact ⟨0, by omega, rfl, rfl, by (repeat (first | exact Below.refl _ _ | assumption | refine Below.setCell ?_ (by first | omega | (simp <;> omega)) _ | refine Below.alloc ?_ (by first | omega | (simp <;> omega)) _ | refine Below.drew ?_ | refine below_drewN' ?_ _))⟩
  case round =>
    obtain ⟨k, hk, rfl, rfl, hbr⟩ := hrel
    have HBR := Lib.hid hbr
    have m1 : wr.cell? ⟨w5.heap.size, 1, none⟩ = some (.string ⟨#[c]⟩) := (hbr.cell (p := ⟨w5.heap.size, 1, none⟩) l1).trans a1
    clear hbr
    by_cases hlt : k < G.size
    · obtain ⟨X, hX⟩ : ∃ X, X = T.extract k (k + 1) := ⟨_, rfl⟩
      have hts := HTS.out
      have hXl : X.data.toList = [G[k]] := by
        have h1 : k < G.data.toList.length := by rw [bs_length]; exact hlt
        have h2 := bs_getElem? G k hlt
        rw [List.getElem?_eq_getElem h1] at h2
        rw [hX, Lib.extract_data, HTL.out, List.drop_append_of_le_length (by omega), show k + 1 - k = 1 by omega, List.drop_eq_getElem_cons h1, Option.some.inj h2]
        rfl
      have hXc : (X.toList == [c]) = false := by
        rw [toList_data, hXl]
        have := BGC.out k hlt
        simp [this]
      have hsl : ∀ w : World, (Instr.slice 9 (.string T) (some (.int .i64 (k : Int))) (some (.int .i64 ((k : Int) + 1))) none).run Tryd.prog w = .ok (.string X) w := fun w => by
        rw [run_slice_string_if w _ T .i64 .i64 _ _ Tryd.underlying9, if_pos (by omega), if_pos (by omega), show ((k : Int) + 1).toNat = k + 1 by omega, show ((k : Int)).toNat = k from rfl, hX]
      have k1 : k + 1 ≤ T.size := by omega
      have k2 : (k : Int) + 1 ≤ (T.size : Int) := by omega
      have k3 : k < T.size := by omega
      have k4 : (T.size : Int) ≤ 1000000 := by omega
      clear hX hXl hts
      go_wp2
      go_quiet (fail)
      go_wp2
      go_roundw
      case rel => exact ⟨k + 1, by omega, rfl, by go_num, HBR.out.trans ((by (repeat (first | exact Below.refl _ _ | assumption | refine Below.setCell ?_ (by first | omega | (simp <;> omega)) _ | refine Below.alloc ?_ (by first | omega | (simp <;> omega)) _ | refine Below.drew ?_ | refine below_drewN' ?_ _)) : Below wr.heap.size wr _).mono HBR.out.size)⟩
      case measure => simp [intOf]; omega
    · obtain rfl : k = G.size := by omega
      have hbr := HBR.out
      have hts := HTS.out
      have hsl : ∀ w : World, (Instr.slice 9 (.string T) (some (.int .i64 (G.size : Int))) (some (.int .i64 ((G.size : Int) + 1))) none).run Tryd.prog w = .ok (.string ⟨#[c]⟩) w := fun w => by
        have e9 : T.extract G.size (G.size + 1) = ⟨#[c]⟩ := Dc.ba_eq _ _ (by
          rw [Lib.extract_data, HTL.out, show G.size + 1 - G.size = 1 by omega, List.drop_left' (by rw [bs_length])]; rfl)
        rw [run_slice_string_if w _ T .i64 .i64 _ _ Tryd.underlying9, if_pos (by omega), if_pos (by omega), show ((G.size : Int) + 1).toNat = G.size + 1 by omega, show ((G.size : Int)).toNat = G.size from rfl, e9]
      have hsl3 : ∀ w : World, (Instr.slice 9 (.string T) none (some (.int .i64 (G.size : Int))) none).run Tryd.prog w = .ok (.string G) w := fun w => by
        rw [run_slice_string_to_if w _ T .i64 _ Tryd.underlying9, if_pos (by omega), Int.toNat_natCast, HT1.out]
      have hsl4 : ∀ w : World, (Instr.slice 9 (.string T) (some (.int .i64 ((G.size : Int) + 1))) none none).run Tryd.prog w = .ok (.string R) w := fun w => by
        rw [run_slice_string_from_if w _ T .i64 _ Tryd.underlying9, if_pos (by omega), show ((G.size : Int) + 1).toNat = G.size + 1 by omega, HT2.out]
      have k1 : G.size + 1 ≤ T.size := by omega
      have k2 : (G.size : Int) + 1 ≤ (T.size : Int) := by omega
      have k3 : G.size < T.size := by omega
      have k4 : (T.size : Int) ≤ 1000000 := by omega
      have k5 : decide (G.size = T.size) = false := decide_eq_false (by omega)
      have k6 : (G.size == T.size) = false := by simp; omega
      have k7 := isEmpty_of_pos (s := R) hR
      have k8 : ¬ R.toList = [] := by intro e; rw [e] at k7; cases k7
      have hR1 : R.size - 1 < R.size := by omega
      have k9 : ¬ (R[R.size - 1].toNat : Int) = 48 := by
        clear hts
        have := BRL.out hR
        intro e; apply this; exact UInt8.toNat_inj.1 (by have h48 : (48 : UInt8).toNat = 48 := rfl; omega)
      have k9b : (((R[R.size - 1].toNat : Int)) != 48) = true := by simpa [bne_iff_ne] using k9
      have lr1 : w5.heap.size < wr.heap.size := by have := hbr.size; omega
      have lr2 : w.heap.size < wr.heap.size := by have := hbr.size; omega
      have u0 : wr.cell? ⟨w5.heap.size, 0, none⟩ = some (.string v0) := (hbr.cell (p := ⟨w5.heap.size, 0, none⟩) l1).trans a0
      have u1 : wr.cell? ⟨w5.heap.size, 1, none⟩ = some (.string ⟨#[c]⟩) := (hbr.cell (p := ⟨w5.heap.size, 1, none⟩) l1).trans a1
      have u2 : wr.cell? ⟨w5.heap.size, 2, none⟩ = some (.string v2) := (hbr.cell (p := ⟨w5.heap.size, 2, none⟩) l1).trans a2
      have u3 : wr.cell? ⟨w5.heap.size, 3, none⟩ = some (.string v3) := (hbr.cell (p := ⟨w5.heap.size, 3, none⟩) l1).trans a3
      have u4 : wr.cell? ⟨w5.heap.size, 4, none⟩ = some (.string M) := (hbr.cell (p := ⟨w5.heap.size, 4, none⟩) l1).trans a4
      have u5 : wr.cell? ⟨w5.heap.size, 5, none⟩ = some (.string ⟨#[37]⟩) := (hbr.cell (p := ⟨w5.heap.size, 5, none⟩) l1).trans a5
      have u6 : wr.cell? ⟨w5.heap.size, 6, none⟩ = some (.string v6) := (hbr.cell (p := ⟨w5.heap.size, 6, none⟩) l1).trans a6
      have u7 : wr.cell? ⟨w5.heap.size, 7, none⟩ = some (.bool f7) := (hbr.cell (p := ⟨w5.heap.size, 7, none⟩) l1).trans a7
      have u8 : wr.cell? ⟨w5.heap.size, 8, none⟩ = some (.bool f8) := (hbr.cell (p := ⟨w5.heap.size, 8, none⟩) l1).trans a8
      have u9 : wr.cell? ⟨w5.heap.size, 9, none⟩ = some (.slice (some ⟨b, 0, none⟩) kk kk) := (hbr.cell (p := ⟨w5.heap.size, 9, none⟩) l1).trans a9
      have v0' : wr.cell? ⟨w.heap.size, 0, none⟩ = some (.bool true) := (hbr.cell (p := ⟨w.heap.size, 0, none⟩) l2).trans g0
      have v1' : wr.cell? ⟨w.heap.size, 1, none⟩ = some (.string d) := (hbr.cell (p := ⟨w.heap.size, 1, none⟩) l2).trans g1
      have v2' : wr.cell? ⟨w.heap.size, 2, none⟩ = some (.int .i64 x) := (hbr.cell (p := ⟨w.heap.size, 2, none⟩) l2).trans g2
      have hBr : Below w.heap.size w wr := HB6.out.trans (hbr.mono HB6.out.size)
      have hsr : Szs wr b l := HS6.out.on hbr
      have hmr := HMX.out _ hBr
      have HBr := Lib.hid hBr; have HSr := Lib.hid hsr; have HMr := Lib.hid hmr
      clear hBr hsr hmr hbr hts
      have s1 : ¬ 9223372036854775807 < WH.size + R.size := by omega
      go_wp2
      go_quiet (fail)
      go_wp2
      go_region_held3 (fun w' => w'.cell? ⟨w5.heap.size, 0, none⟩ = some (.string v0) ∧ w'.cell? ⟨w5.heap.size, 1, none⟩ = some (.string ⟨#[c]⟩) ∧ w'.cell? ⟨w5.heap.size, 2, none⟩ = some (.string v2) ∧ w'.cell? ⟨w5.heap.size, 3, none⟩ = some (.string v3) ∧ w'.cell? ⟨w5.heap.size, 4, none⟩ = some (.string M) ∧ w'.cell? ⟨w5.heap.size, 5, none⟩ = some (.string ⟨#[37]⟩) ∧ w'.cell? ⟨w5.heap.size, 6, none⟩ = some (.string v6) ∧ w'.cell? ⟨w5.heap.size, 7, none⟩ = some (.bool f7) ∧ w'.cell? ⟨w5.heap.size, 8, none⟩ = some (.bool f8) ∧ w'.cell? ⟨w5.heap.size, 9, none⟩ = some (.slice (some ⟨b, 0, none⟩) kk kk)) (exact ⟨(Below.cell (B := wr.heap.size) (w := wr) (p := ⟨w5.heap.size, 0, none⟩) (by (repeat (first | exact Below.refl _ _ | assumption | refine Below.setCell ?_ (by first | omega | (simp <;> omega)) _ | refine Below.alloc ?_ (by first | omega | (simp <;> omega)) _ | refine Below.drew ?_ | refine below_drewN' ?_ _))) lr1).trans u0, (Below.cell (B := wr.heap.size) (w := wr) (p := ⟨w5.heap.size, 1, none⟩) (by (repeat (first | exact Below.refl _ _ | assumption | refine Below.setCell ?_ (by first | omega | (simp <;> omega)) _ | refine Below.alloc ?_ (by first | omega | (simp <;> omega)) _ | refine Below.drew ?_ | refine below_drewN' ?_ _))) lr1).trans u1, (Below.cell (B := wr.heap.size) (w := wr) (p := ⟨w5.heap.size, 2, none⟩) (by (repeat (first | exact Below.refl _ _ | assumption | refine Below.setCell ?_ (by first | omega | (simp <;> omega)) _ | refine Below.alloc ?_ (by first | omega | (simp <;> omega)) _ | refine Below.drew ?_ | refine below_drewN' ?_ _))) lr1).trans u2, (Below.cell (B := wr.heap.size) (w := wr) (p := ⟨w5.heap.size, 3, none⟩) (by (repeat (first | exact Below.refl _ _ | assumption | refine Below.setCell ?_ (by first | omega | (simp <;> omega)) _ | refine Below.alloc ?_ (by first | omega | (simp <;> omega)) _ | refine Below.drew ?_ | refine below_drewN' ?_ _))) lr1).trans u3, (Below.cell (B := wr.heap.size) (w := wr) (p := ⟨w5.heap.size, 4, none⟩) (by (repeat (first | exact Below.refl _ _ | assumption | refine Below.setCell ?_ (by first | omega | (simp <;> omega)) _ | refine Below.alloc ?_ (by first | omega | (simp <;> omega)) _ | refine Below.drew ?_ | refine below_drewN' ?_ _))) lr1).trans u4, (Below.cell (B := wr.heap.size) (w := wr) (p := ⟨w5.heap.size, 5, none⟩) (by (repeat (first | exact Below.refl _ _ | assumption | refine Below.setCell ?_ (by first | omega | (simp <;> omega)) _ | refine Below.alloc ?_ (by first | omega | (simp <;> omega)) _ | refine Below.drew ?_ | refine below_drewN' ?_ _))) lr1).trans u5, (Below.cell (B := wr.heap.size) (w := wr) (p := ⟨w5.heap.size, 6, none⟩) (by (repeat (first | exact Below.refl _ _ | assumption | refine Below.setCell ?_ (by first | omega | (simp <;> omega)) _ | refine Below.alloc ?_ (by first | omega | (simp <;> omega)) _ | refine Below.drew ?_ | refine below_drewN' ?_ _))) lr1).trans u6, (Below.cell (B := wr.heap.size) (w := wr) (p := ⟨w5.heap.size, 7, none⟩) (by (repeat (first | exact Below.refl _ _ | assumption | refine Below.setCell ?_ (by first | omega | (simp <;> omega)) _ | refine Below.alloc ?_ (by first | omega | (simp <;> omega)) _ | refine Below.drew ?_ | refine below_drewN' ?_ _))) lr1).trans u7, (Below.cell (B := wr.heap.size) (w := wr) (p := ⟨w5.heap.size, 8, none⟩) (by (repeat (first | exact Below.refl _ _ | assumption | refine Below.setCell ?_ (by first | omega | (simp <;> omega)) _ | refine Below.alloc ?_ (by first | omega | (simp <;> omega)) _ | refine Below.drew ?_ | refine below_drewN' ?_ _))) lr1).trans u8, (Below.cell (B := wr.heap.size) (w := wr) (p := ⟨w5.heap.size, 9, none⟩) (by (repeat (first | exact Below.refl _ _ | assumption | refine Below.setCell ?_ (by first | omega | (simp <;> omega)) _ | refine Below.alloc ?_ (by first | omega | (simp <;> omega)) _ | refine Below.drew ?_ | refine below_drewN' ?_ _))) lr1).trans u9⟩) ((go_at_call 14; (with_reducible refine (HP1.out b _ (HSr.out.on (by (repeat (first | exact Below.refl _ _ | assumption | refine Below.setCell ?_ (by first | omega | (simp <;> omega)) _ | refine Below.alloc ?_ (by first | omega | (simp <;> omega)) _ | refine Below.drew ?_ | refine below_drewN' ?_ _)))) (HMr.out.on (by (repeat (first | exact Below.refl _ _ | assumption | refine Below.setCell ?_ (by first | omega | (simp <;> omega)) _ | refine Below.alloc ?_ (by first | omega | (simp <;> omega)) _ | refine Below.drew ?_ | refine below_drewN' ?_ _))))).mono ?_); rintro e w7 ⟨rfl, hb_w7⟩; have hB_w7 : Below wr.heap.size wr w7 := Below.trans (by (repeat (first | exact Below.refl _ _ | assumption | refine Below.setCell ?_ (by first | omega | (simp <;> omega)) _ | refine Below.alloc ?_ (by first | omega | (simp <;> omega)) _ | refine Below.drew ?_ | refine below_drewN' ?_ _))) (hb_w7.mono (by first | omega | (simp <;> omega)))))
      all_goals
        have x1 : w7.cell? ⟨w5.heap.size, 1, none⟩ = some (.string ⟨#[c]⟩) := (hB_w7.cell (p := ⟨w5.heap.size, 1, none⟩) lr1).trans u1
        have y0 : w7.cell? ⟨w.heap.size, 0, none⟩ = some (.bool true) := (hB_w7.cell (p := ⟨w.heap.size, 0, none⟩) lr2).trans v0'
        have y1 : w7.cell? ⟨w.heap.size, 1, none⟩ = some (.string d) := (hB_w7.cell (p := ⟨w.heap.size, 1, none⟩) lr2).trans v1'
        have y2 : w7.cell? ⟨w.heap.size, 2, none⟩ = some (.int .i64 x) := (hB_w7.cell (p := ⟨w.heap.size, 2, none⟩) lr2).trans v2'
        clear u0 u1 u2 u3 u4 u5 u6 u7 u8 u9
        go_wp2_with (first
          | (go_at_call 16; (with_reducible refine (HDG.out _).mono ?_); rintro e w' ⟨rfl, rfl⟩)
          | (go_at_call 25; (with_reducible refine (HMK.out _).mono ?_); rintro e w8 ⟨rfl, hb_w8⟩; have hB_w8 : Below wr.heap.size wr w8 := Below.trans (by (repeat (first | exact Below.refl _ _ | assumption | refine Below.setCell ?_ (by first | omega | (simp <;> omega)) _ | refine Below.alloc ?_ (by first | omega | (simp <;> omega)) _ | refine Below.drew ?_ | refine below_drewN' ?_ _))) (hb_w8.mono (by have := hB_w7.size; first | omega | (simp <;> omega))); have hz_w8 := hB_w8.size; have z0 : w8.cell? ⟨w.heap.size, 0, none⟩ = some (.bool true) := (hB_w8.cell (p := ⟨w.heap.size, 0, none⟩) lr2).trans v0'; have z1 : w8.cell? ⟨w.heap.size, 1, none⟩ = some (.string d) := (hB_w8.cell (p := ⟨w.heap.size, 1, none⟩) lr2).trans v1'; have z2 : w8.cell? ⟨w.heap.size, 2, none⟩ = some (.int .i64 x) := (hB_w8.cell (p := ⟨w.heap.size, 2, none⟩) lr2).trans v2'; have lz : ¬ w.heap.size = w8.heap.size := (by have := hB_w8.size; omega); have lz2 : w.heap.size < w8.heap.size := (by have := hB_w8.size; omega)))
        go_ret
        exact RetB.of rfl (HBr.out.trans ((by (repeat (first | exact Below.refl _ _ | assumption | refine Below.setCell ?_ (by first | omega | (simp <;> omega)) _ | refine Below.alloc ?_ (by first | omega | (simp <;> omega)) _ | refine Below.drew ?_ | refine below_drewN' ?_ _)) : Below wr.heap.size wr _).mono HBr.out.size))

set_option maxRecDepth 100000 in
set_option maxHeartbeats 4000000 in
theorem l11_back_neg_whole (cc : Int) (d : ByteArray) (x : Int) (w : World) (hv : Vars w) (hm : MaxL w) (hc : -9223372036854775808 ≤ cc ∧ cc ≤ 9223372036854775807) (hr : Dc.right d.data.toList x = true) (hs : d.size ≤ 200)
    (hp : Dc.point d.data.toList x ≤ 300) (hp2 : -100 ≤ Dc.point d.data.toList x) (l : Lc.Loc) (hl : l ∈ Lc.six) (hf : ∀ w, Vars w → Calls Tryd.prog 13 #[.int .i64 cc] w (Find2 l w))
    (c : UInt8) (S M T G R WH : ByteArray) (hcd : l.dec = [c]) (bf : BackFacts l true d x c S M T G R WH) (hR : R.size = 0) :
    Calls Tryd.prog 5 #[.int .i64 cc, .agg #[.bool true, .string d, .int .i64 x]] w (RetB (.bool true) w) := by
  have hsh := fun w1 (hb : Below w.heap.size w w1) => l11_shown_any w1 (hv.on hb) (hm.on hb)
  have hmx := fun W (h : Below w.heap.size w W) => hm.on h
  obtain ⟨o1, o2, o3, _, _⟩ := six_ok l hl
  obtain ⟨bwr, bmin, bst, btg, bpl, bgc, brd, brl, bmk, bgs, brs, bws, bms, bg0⟩ := bf
  have hf2 : ∀ W, Below w.heap.size w W → Calls Tryd.prog 13 #[.int .i64 cc] W (fun e w' => ∃ b, e = .returned (.tuple #[LV b l, RV l]) ∧ W.heap.size ≤ b ∧ Szs w' b l ∧ Below W.heap.size W w') := fun W h => hf W (hv.on h)
  have hrt := fun W => r7_right_any true d x W (by omega)
  rw [hr] at hrt
  have hpt := fun W => r7_point_any true d x W (by omega)
  obtain ⟨pt, hptv⟩ : ∃ p, p = Dc.point d.data.toList x := ⟨_, rfl⟩
  rw [← hptv] at hpt hp hp2
  have hw1 := fun b W h1 => lo_write_any b l true d x true W (by omega) o1 h1
  rw [bwr] at hw1
  have hp1 := fun b W h1 h2 => lo_plain_any b l G W h1 h2 (by omega) o1 o2
  rw [bpl] at hp1
  have hdg := fun W => l11_digits_any R W (by omega)
  rw [brd] at hdg
  have hmk := fun W => r7_make_any true (WH ++ R) (-(R.size : Int)) W (by rw [ByteArray.size_append]; omega) (by omega)
  rw [Dc.ba_app, bmk] at hmk
  have hva : (⟨true, d.data.toList, x, 0⟩ : Dc.Res).val = .tuple #[.agg #[.bool true, .string d, .int .i64 x], .int .i64 0] := rfl
  rw [hva] at hmk
  unfold LV at hf2 hw1 hp1
  unfold RV at hf2
  unfold tx at hf2 hw1 hp1
  have hSd : (⟨S.data.toList.toArray⟩ : ByteArray) = S := by simp
  have hWd : (⟨WH.data.toList.toArray⟩ : ByteArray) = WH := by simp
  have hMd : (⟨l.minus.toArray⟩ : ByteArray) = M := by rw [bmin]
  have hCd : (⟨l.dec.toArray⟩ : ByteArray) = ⟨#[c]⟩ := by rw [hcd]
  simp only [hSd, hWd, hMd, hCd] at hf2 hw1 hp1
  obtain ⟨v0, hv0⟩ : ∃ v : ByteArray, v = ⟨l.name.toArray⟩ := ⟨_, rfl⟩
  obtain ⟨v2, hv2⟩ : ∃ v : ByteArray, v = ⟨l.grp.toArray⟩ := ⟨_, rfl⟩
  obtain ⟨v3, hv3⟩ : ∃ v : ByteArray, v = ⟨l.list.toArray⟩ := ⟨_, rfl⟩
  obtain ⟨v6, hv6⟩ : ∃ v : ByteArray, v = ⟨l.cur.toArray⟩ := ⟨_, rfl⟩
  obtain ⟨f7, hf7⟩ : ∃ v, v = l.first := ⟨_, rfl⟩
  obtain ⟨f8, hf8⟩ : ∃ v, v = l.space := ⟨_, rfl⟩
  obtain ⟨kk, hk⟩ : ∃ v : Nat, v = (if l.two = true then 2 else 1) := ⟨_, rfl⟩
  obtain ⟨z, hz⟩ : ∃ v : Nat, v = l.second := ⟨_, rfl⟩
  simp only [← hv0, ← hv2, ← hv3, ← hv6, ← hf7, ← hf8, ← hk, ← hz] at hf2 hw1 hp1
  -- sizes and pieces
  have hTl : T.data.toList = G.data.toList := by rw [btg, if_pos hR, List.append_nil]
  have hTG : T = G := Dc.ba_eq _ _ hTl
  have hRe : R = ⟨#[]⟩ := Dc.ba_eq _ _ (by
    have h1 : R.data.toList.length = 0 := by rw [bs_length]; exact hR
    rw [List.length_eq_zero_iff.1 h1])
  have hmk2 := hmk
  rw [show (-(R.size : Int)) = 0 by omega] at hmk2
  have hSs : S.size = M.size + T.size := by
    have := congrArg List.length bst
    simp only [if_true, if_false, Bool.false_eq_true, List.nil_append, List.length_append, bs_length] at this
    omega
  have hST : S.data.toList = M.data.toList ++ T.data.toList := by rw [bst, if_pos rfl]
  have hS1 : S.extract 0 M.size = M := Dc.ba_eq _ _ (by rw [Lib.extract_data, hST, List.drop_zero, Nat.sub_zero, List.take_left' (by rw [bs_length])])
  have hS2 : S.extract M.size S.size = T := Dc.ba_eq _ _ (by rw [Lib.extract_to_end, hST, List.drop_left' (by rw [bs_length])])
  have hsl1 : ∀ w : World, (Instr.slice 9 (.string S) none (some (.int .i64 (M.size : Int))) none).run Tryd.prog w = .ok (.string M) w := fun w => by
    rw [run_slice_string_to_if w _ S .i64 _ Tryd.underlying9, if_pos (by omega), Int.toNat_natCast, hS1]
  have hsl2 : ∀ w : World, (Instr.slice 9 (.string S) (some (.int .i64 (M.size : Int))) none none).run Tryd.prog w = .ok (.string T) w := fun w => by
    rw [run_slice_string_from_if w _ S .i64 _ Tryd.underlying9, if_pos (by omega), Int.toNat_natCast, hS2]
  have hlm : decide (S.size < M.size) = false := decide_eq_false (by omega)
  have HSH := Lib.hid hsh; have HMX := Lib.hid hmx; have HF := Lib.hid hf2; have HRT := Lib.hid hrt; have HPT := Lib.hid hpt; have HW := Lib.hid hw1; have HP1 := Lib.hid hp1; have HDG := Lib.hid hdg; have HMK := Lib.hid hmk; have BGC := Lib.hid bgc; have BRL := Lib.hid brl; have HTL := Lib.hid hTl; have HTG := Lib.hid hTG; have HRE := Lib.hid hRe; have HR0 := Lib.hid hR; have HMK2 := Lib.hid hmk2; have HSS := Lib.hid hSs; have HSL1 := Lib.hid hsl1; have HSL2 := Lib.hid hsl2; have HLM := Lib.hid hlm
  clear hsh hmx hf2 hrt hpt hw1 hp1 hdg hmk bgc brl hTl hTG hRe hR hmk2 hSs hsl1 hsl2 hlm hva hSd hWd hMd hCd hv0 hv2 hv3 hv6 hf7 hf8 hk hz hv hm hf hl o1 o2 o3 bwr bmin bst btg bpl brd bmk hcd hptv hr hST hS1 hS2
  obtain rfl : T = G := HTG.out
  obtain rfl : R = ⟨#[]⟩ := HRE.out
  have e1 : decide (300 < pt) = false := decide_eq_false (by omega)
  have e2 : decide (pt < -100) = false := decide_eq_false (by omega)
  have e3 : decide (200 < (d.size : Int)) = false := decide_eq_false (by omega)
  have tok1 : True := trivial
  go_enter Tryd.func5, Tryd.ntmps5
  go_wp2_with (first
    | (go_at_call 12; (with_reducible refine (HSH.out _ (by (repeat (first | exact Below.refl _ _ | assumption | refine Below.setCell ?_ (by first | omega | (simp <;> omega)) _ | refine Below.alloc ?_ (by first | omega | (simp <;> omega)) _ | refine Below.drew ?_ | refine below_drewN' ?_ _)))).mono ?_); rintro e w1 ⟨rfl, hb_w1⟩; have hB_w1 : Below (w).heap.size (w) w1 := Below.trans (by (repeat (first | exact Below.refl _ _ | assumption | refine Below.setCell ?_ (by first | omega | (simp <;> omega)) _ | refine Below.alloc ?_ (by first | omega | (simp <;> omega)) _ | refine Below.drew ?_ | refine below_drewN' ?_ _))) (hb_w1.mono (by first | omega | (simp <;> omega))); obtain ⟨hc_w1, hf_w1⟩ := bcell hb_w1; have hz_w1 := hb_w1.size; (try simp only [size_drew', size_drewN', World.size_alloc, World.size_setCell] at hz_w1); have hl0_w1 : w.heap.size < w1.heap.size := (by omega); have hm0_w1 : w.heap.size ≤ w1.heap.size := (by omega); have hn0_w1 : ¬ w.heap.size = w1.heap.size := (by omega); have hq0_w1 : ¬ w1.heap.size = w.heap.size := (by omega); have hr0_w1 := fun o => hc_w1 (w.heap.size) o (by (try simp only [size_drew', size_drewN', World.size_alloc, World.size_setCell]); omega); have hg0_w1 := fun o => hf_w1 (w.heap.size) o (by (try simp only [size_drew', size_drewN', World.size_alloc, World.size_setCell]); omega))
    | (go_at_call 23; (with_reducible refine (HRT.out _).mono ?_); rintro e w2 ⟨rfl, hb_w2⟩; have hB_w2 : Below (w).heap.size (w) w2 := Below.trans (by (repeat (first | exact Below.refl _ _ | assumption | refine Below.setCell ?_ (by first | omega | (simp <;> omega)) _ | refine Below.alloc ?_ (by first | omega | (simp <;> omega)) _ | refine Below.drew ?_ | refine below_drewN' ?_ _))) (hb_w2.mono (by first | omega | (simp <;> omega))); obtain ⟨hc_w2, hf_w2⟩ := bcell hb_w2; have hz_w2 := hb_w2.size; (try simp only [size_drew', size_drewN', World.size_alloc, World.size_setCell] at hz_w2); have hl0_w2 : w.heap.size < w2.heap.size := (by omega); have hm0_w2 : w.heap.size ≤ w2.heap.size := (by omega); have hn0_w2 : ¬ w.heap.size = w2.heap.size := (by omega); have hq0_w2 : ¬ w2.heap.size = w.heap.size := (by omega); have hr0_w2 := fun o => hc_w2 (w.heap.size) o (by (try simp only [size_drew', size_drewN', World.size_alloc, World.size_setCell]); omega); have hg0_w2 := fun o => hf_w2 (w.heap.size) o (by (try simp only [size_drew', size_drewN', World.size_alloc, World.size_setCell]); omega))
    | (clear tok1; (go_at_call 24; (with_reducible refine (HPT.out _).mono ?_); rintro e w3 ⟨rfl, hb_w3⟩; have hB_w3 : Below (w).heap.size (w) w3 := Below.trans (by (repeat (first | exact Below.refl _ _ | assumption | refine Below.setCell ?_ (by first | omega | (simp <;> omega)) _ | refine Below.alloc ?_ (by first | omega | (simp <;> omega)) _ | refine Below.drew ?_ | refine below_drewN' ?_ _))) (hb_w3.mono (by first | omega | (simp <;> omega))); obtain ⟨hc_w3, hf_w3⟩ := bcell hb_w3; have hz_w3 := hb_w3.size; (try simp only [size_drew', size_drewN', World.size_alloc, World.size_setCell] at hz_w3); have hl0_w3 : w.heap.size < w3.heap.size := (by omega); have hm0_w3 : w.heap.size ≤ w3.heap.size := (by omega); have hn0_w3 : ¬ w.heap.size = w3.heap.size := (by omega); have hq0_w3 : ¬ w3.heap.size = w.heap.size := (by omega); have hr0_w3 := fun o => hc_w3 (w.heap.size) o (by (try simp only [size_drew', size_drewN', World.size_alloc, World.size_setCell]); omega); have hg0_w3 := fun o => hf_w3 (w.heap.size) o (by (try simp only [size_drew', size_drewN', World.size_alloc, World.size_setCell]); omega)))
    | (go_at_call 24; (with_reducible refine (HPT.out _).mono ?_); rintro e w4 ⟨rfl, hb_w4⟩; have hB_w4 : Below (w).heap.size (w) w4 := Below.trans (by (repeat (first | exact Below.refl _ _ | assumption | refine Below.setCell ?_ (by first | omega | (simp <;> omega)) _ | refine Below.alloc ?_ (by first | omega | (simp <;> omega)) _ | refine Below.drew ?_ | refine below_drewN' ?_ _))) (hb_w4.mono (by first | omega | (simp <;> omega))); obtain ⟨hc_w4, hf_w4⟩ := bcell hb_w4; have hz_w4 := hb_w4.size; (try simp only [size_drew', size_drewN', World.size_alloc, World.size_setCell] at hz_w4); have hl0_w4 : w.heap.size < w4.heap.size := (by omega); have hm0_w4 : w.heap.size ≤ w4.heap.size := (by omega); have hn0_w4 : ¬ w.heap.size = w4.heap.size := (by omega); have hq0_w4 : ¬ w4.heap.size = w.heap.size := (by omega); have hr0_w4 := fun o => hc_w4 (w.heap.size) o (by (try simp only [size_drew', size_drewN', World.size_alloc, World.size_setCell]); omega); have hg0_w4 := fun o => hf_w4 (w.heap.size) o (by (try simp only [size_drew', size_drewN', World.size_alloc, World.size_setCell]); omega))
    | (go_at_call 13; (with_reducible refine (HF.out _ (by (repeat (first | exact Below.refl _ _ | assumption | refine Below.setCell ?_ (by first | omega | (simp <;> omega)) _ | refine Below.alloc ?_ (by first | omega | (simp <;> omega)) _ | refine Below.drew ?_ | refine below_drewN' ?_ _)))).mono ?_); rintro e w5 ⟨b, rfl, hlow, hszs, hb_w5⟩; have hB_w5 : Below w.heap.size w w5 := Below.trans (by (repeat (first | exact Below.refl _ _ | assumption | refine Below.setCell ?_ (by first | omega | (simp <;> omega)) _ | refine Below.alloc ?_ (by first | omega | (simp <;> omega)) _ | refine Below.drew ?_ | refine below_drewN' ?_ _))) (hb_w5.mono (by first | omega | (simp <;> omega))); have hz_w5 := hb_w5.size; have hr0_w5 := fun o => (bcell hb_w5).1 w.heap.size o (by omega); have hl0_w5 : w.heap.size < w5.heap.size := (by omega); have hn0_w5 : ¬ w.heap.size = w5.heap.size := (by omega); have hq0_w5 : ¬ w5.heap.size = w.heap.size := (by omega); have hn1_w5 : ¬ w.heap.size = w5.heap.size + 1 := (by omega); have hq1_w5 : ¬ w5.heap.size + 1 = w.heap.size := (by omega))
    | (go_at_call 19; (with_reducible refine (HW.out b _ (hszs.on (by (repeat (first | exact Below.refl _ _ | assumption | refine Below.setCell ?_ (by first | omega | (simp <;> omega)) _ | refine Below.alloc ?_ (by first | omega | (simp <;> omega)) _ | refine Below.drew ?_ | refine below_drewN' ?_ _))))).mono ?_); rintro e w6 ⟨rfl, hb_w6⟩; have hB_w6 : Below (w5).heap.size (w5) w6 := Below.trans (by (repeat (first | exact Below.refl _ _ | assumption | refine Below.setCell ?_ (by first | omega | (simp <;> omega)) _ | refine Below.alloc ?_ (by first | omega | (simp <;> omega)) _ | refine Below.drew ?_ | refine below_drewN' ?_ _))) (hb_w6.mono (by first | omega | (simp <;> omega))); obtain ⟨hc_w6, hf_w6⟩ := bcell hb_w6; have hz_w6 := hb_w6.size; (try simp only [size_drew', size_drewN', World.size_alloc, World.size_setCell] at hz_w6); have hl0_w6 : w.heap.size < w6.heap.size := (by omega); have hm0_w6 : w.heap.size ≤ w6.heap.size := (by omega); have hn0_w6 : ¬ w.heap.size = w6.heap.size := (by omega); have hq0_w6 : ¬ w6.heap.size = w.heap.size := (by omega); have hr0_w6 := fun o => hc_w6 (w.heap.size) o (by (try simp only [size_drew', size_drewN', World.size_alloc, World.size_setCell]); omega); have hg0_w6 := fun o => hf_w6 (w.heap.size) o (by (try simp only [size_drew', size_drewN', World.size_alloc, World.size_setCell]); omega); have hl1_w6 : w5.heap.size < w6.heap.size := (by omega); have hm1_w6 : w5.heap.size ≤ w6.heap.size := (by omega); have hn1_w6 : ¬ w5.heap.size = w6.heap.size := (by omega); have hq1_w6 : ¬ w6.heap.size = w5.heap.size := (by omega); have hr1_w6 := fun o => hc_w6 (w5.heap.size) o (by (try simp only [size_drew', size_drewN', World.size_alloc, World.size_setCell]); omega); have hg1_w6 := fun o => hf_w6 (w5.heap.size) o (by (try simp only [size_drew', size_drewN', World.size_alloc, World.size_setCell]); omega)))
  have a0 : w6.cell? ⟨w5.heap.size, 0, none⟩ = some (.string v0) := (hr1_w6 0).trans (by simp [go_sem])
  have a1 : w6.cell? ⟨w5.heap.size, 1, none⟩ = some (.string ⟨#[c]⟩) := (hr1_w6 1).trans (by simp [go_sem])
  have a2 : w6.cell? ⟨w5.heap.size, 2, none⟩ = some (.string v2) := (hr1_w6 2).trans (by simp [go_sem])
  have a3 : w6.cell? ⟨w5.heap.size, 3, none⟩ = some (.string v3) := (hr1_w6 3).trans (by simp [go_sem])
  have a4 : w6.cell? ⟨w5.heap.size, 4, none⟩ = some (.string M) := (hr1_w6 4).trans (by simp [go_sem])
  have a5 : w6.cell? ⟨w5.heap.size, 5, none⟩ = some (.string ⟨#[37]⟩) := (hr1_w6 5).trans (by simp [go_sem])
  have a6 : w6.cell? ⟨w5.heap.size, 6, none⟩ = some (.string v6) := (hr1_w6 6).trans (by simp [go_sem])
  have a7 : w6.cell? ⟨w5.heap.size, 7, none⟩ = some (.bool f7) := (hr1_w6 7).trans (by simp [go_sem])
  have a8 : w6.cell? ⟨w5.heap.size, 8, none⟩ = some (.bool f8) := (hr1_w6 8).trans (by simp [go_sem])
  have a9 : w6.cell? ⟨w5.heap.size, 9, none⟩ = some (.slice (some ⟨b, 0, none⟩) kk kk) := (hr1_w6 9).trans (by simp [go_sem])
  have g0 : w6.cell? ⟨w.heap.size, 0, none⟩ = some (.bool true) := by
    refine (hr0_w6 0).trans ?_
    rw [cell_alloc_old (by simp; omega), cell_alloc_old (by omega)]
    exact (hr0_w5 0).trans ((hr0_w4 0).trans ((hr0_w3 0).trans ((hr0_w2 0).trans ((hr0_w1 0).trans (by simp [go_sem])))))
  have g1 : w6.cell? ⟨w.heap.size, 1, none⟩ = some (.string d) := by
    refine (hr0_w6 1).trans ?_
    rw [cell_alloc_old (by simp; omega), cell_alloc_old (by omega)]
    exact (hr0_w5 1).trans ((hr0_w4 1).trans ((hr0_w3 1).trans ((hr0_w2 1).trans ((hr0_w1 1).trans (by simp [go_sem])))))
  have g2 : w6.cell? ⟨w.heap.size, 2, none⟩ = some (.int .i64 x) := by
    refine (hr0_w6 2).trans ?_
    rw [cell_alloc_old (by simp; omega), cell_alloc_old (by omega)]
    exact (hr0_w5 2).trans ((hr0_w4 2).trans ((hr0_w3 2).trans ((hr0_w2 2).trans ((hr0_w1 2).trans (by simp [go_sem])))))
  have hs6 : Szs w6 b l := hszs.on (by (repeat (first | exact Below.refl _ _ | assumption | refine Below.setCell ?_ (by first | omega | (simp <;> omega)) _ | refine Below.alloc ?_ (by first | omega | (simp <;> omega)) _ | refine Below.drew ?_ | refine below_drewN' ?_ _)))
  have hB6 : Below w.heap.size w w6 := hB_w5.trans (hB_w6.mono hB_w5.size)
  have l1 : w5.heap.size < w6.heap.size := by omega
  have l2 : w.heap.size < w6.heap.size := by omega
  have HS6 := Lib.hid hs6; have HB6 := Lib.hid hB6
  clear hs6 hB6 hszs hb_w5 hB_w5 hr0_w5 hb_w1 hB_w1 hc_w1 hf_w1 hb_w2 hB_w2 hc_w2 hf_w2 hb_w3 hB_w3 hc_w3 hf_w3 hb_w4 hB_w4 hc_w4 hf_w4 hb_w6 hB_w6 hc_w6 hf_w6 hr0_w1 hg0_w1 hr0_w2 hg0_w2 hr0_w3 hg0_w3 hr0_w4 hg0_w4 hr0_w6 hg0_w6 hr1_w6 hg1_w6
  have hsl1 := HSL1.out; have hsl2 := HSL2.out; have hlm := HLM.out
  go_quiet (fail)
  go_wp2
  go_loopw [10, 11] (fun at' i wr => ∃ k : Nat, k ≤ T.size ∧ at' = .int .i64 (T.size : Int) ∧ i = .int .i64 k ∧ Below w6.heap.size w6 wr) (fun _ i _ => T.size - (intOf i).toNat)
  case atStart => exact ⟨0, by omega, rfl, rfl, by (repeat (first | exact Below.refl _ _ | assumption | refine Below.setCell ?_ (by first | omega | (simp <;> omega)) _ | refine Below.alloc ?_ (by first | omega | (simp <;> omega)) _ | refine Below.drew ?_ | refine below_drewN' ?_ _))⟩
  case round =>
    obtain ⟨k, hk, rfl, rfl, hbr⟩ := hrel
    have HBR := Lib.hid hbr
    have m1 : wr.cell? ⟨w5.heap.size, 1, none⟩ = some (.string ⟨#[c]⟩) := (hbr.cell (p := ⟨w5.heap.size, 1, none⟩) l1).trans a1
    clear hbr
    by_cases hlt : k < T.size
    · obtain ⟨X, hX⟩ : ∃ X, X = T.extract k (k + 1) := ⟨_, rfl⟩
      have hXl : X.data.toList = [T[k]] := by
        have h1 : k < T.data.toList.length := by rw [bs_length]; exact hlt
        have h2 := bs_getElem? T k hlt
        rw [List.getElem?_eq_getElem h1] at h2
        rw [hX, Lib.extract_data, show k + 1 - k = 1 by omega, List.drop_eq_getElem_cons h1, Option.some.inj h2]
        rfl
      have hXc : (X.toList == [c]) = false := by
        rw [toList_data, hXl]
        have := BGC.out k hlt
        simp [this]
      have hsl : ∀ w : World, (Instr.slice 9 (.string T) (some (.int .i64 (k : Int))) (some (.int .i64 ((k : Int) + 1))) none).run Tryd.prog w = .ok (.string X) w := fun w => by
        rw [run_slice_string_if w _ T .i64 .i64 _ _ Tryd.underlying9, if_pos (by omega), if_pos (by omega), show ((k : Int) + 1).toNat = k + 1 by omega, show ((k : Int)).toNat = k from rfl, hX]
      have k1 : k + 1 ≤ T.size := by omega
      have k2 : (k : Int) + 1 ≤ (T.size : Int) := by omega
      have k3 : k < T.size := by omega
      have k4 : (T.size : Int) ≤ 1000000 := by omega
      clear hX hXl
      go_wp2
      go_quiet (fail)
      go_wp2
      go_roundw
      case rel => exact ⟨k + 1, by omega, rfl, by go_num, HBR.out.trans ((by (repeat (first | exact Below.refl _ _ | assumption | refine Below.setCell ?_ (by first | omega | (simp <;> omega)) _ | refine Below.alloc ?_ (by first | omega | (simp <;> omega)) _ | refine Below.drew ?_ | refine below_drewN' ?_ _)) : Below wr.heap.size wr _).mono HBR.out.size)⟩
      case measure => simp [intOf]; omega
    · obtain rfl : k = T.size := by omega
      have hbr := HBR.out
      have hsl3 : ∀ w : World, (Instr.slice 9 (.string T) none (some (.int .i64 (T.size : Int))) none).run Tryd.prog w = .ok (.string T) w := fun w => by
        rw [run_slice_string_to_if w _ T .i64 _ Tryd.underlying9, if_pos (by omega), Int.toNat_natCast, ByteArray.extract_zero_size]
      have k1 : ¬ T.size + 1 ≤ T.size := by omega
      have k2 : ¬ (T.size : Int) + 1 ≤ (T.size : Int) := by omega
      have k4 : (T.size : Int) ≤ 1000000 := by omega
      have lr1 : w5.heap.size < wr.heap.size := by have := hbr.size; omega
      have lr2 : w.heap.size < wr.heap.size := by have := hbr.size; omega
      have u0 : wr.cell? ⟨w5.heap.size, 0, none⟩ = some (.string v0) := (hbr.cell (p := ⟨w5.heap.size, 0, none⟩) l1).trans a0
      have u1 : wr.cell? ⟨w5.heap.size, 1, none⟩ = some (.string ⟨#[c]⟩) := (hbr.cell (p := ⟨w5.heap.size, 1, none⟩) l1).trans a1
      have u2 : wr.cell? ⟨w5.heap.size, 2, none⟩ = some (.string v2) := (hbr.cell (p := ⟨w5.heap.size, 2, none⟩) l1).trans a2
      have u3 : wr.cell? ⟨w5.heap.size, 3, none⟩ = some (.string v3) := (hbr.cell (p := ⟨w5.heap.size, 3, none⟩) l1).trans a3
      have u4 : wr.cell? ⟨w5.heap.size, 4, none⟩ = some (.string M) := (hbr.cell (p := ⟨w5.heap.size, 4, none⟩) l1).trans a4
      have u5 : wr.cell? ⟨w5.heap.size, 5, none⟩ = some (.string ⟨#[37]⟩) := (hbr.cell (p := ⟨w5.heap.size, 5, none⟩) l1).trans a5
      have u6 : wr.cell? ⟨w5.heap.size, 6, none⟩ = some (.string v6) := (hbr.cell (p := ⟨w5.heap.size, 6, none⟩) l1).trans a6
      have u7 : wr.cell? ⟨w5.heap.size, 7, none⟩ = some (.bool f7) := (hbr.cell (p := ⟨w5.heap.size, 7, none⟩) l1).trans a7
      have u8 : wr.cell? ⟨w5.heap.size, 8, none⟩ = some (.bool f8) := (hbr.cell (p := ⟨w5.heap.size, 8, none⟩) l1).trans a8
      have u9 : wr.cell? ⟨w5.heap.size, 9, none⟩ = some (.slice (some ⟨b, 0, none⟩) kk kk) := (hbr.cell (p := ⟨w5.heap.size, 9, none⟩) l1).trans a9
      have v0' : wr.cell? ⟨w.heap.size, 0, none⟩ = some (.bool true) := (hbr.cell (p := ⟨w.heap.size, 0, none⟩) l2).trans g0
      have v1' : wr.cell? ⟨w.heap.size, 1, none⟩ = some (.string d) := (hbr.cell (p := ⟨w.heap.size, 1, none⟩) l2).trans g1
      have v2' : wr.cell? ⟨w.heap.size, 2, none⟩ = some (.int .i64 x) := (hbr.cell (p := ⟨w.heap.size, 2, none⟩) l2).trans g2
      have hBr : Below w.heap.size w wr := HB6.out.trans (hbr.mono HB6.out.size)
      have hsr : Szs wr b l := HS6.out.on hbr
      have hmr := HMX.out _ hBr
      have HBr := Lib.hid hBr; have HSr := Lib.hid hsr; have HMr := Lib.hid hmr
      clear hBr hsr hmr hbr
      have s1 : ¬ 9223372036854775807 < WH.size + 0 := by omega
      have s2 : WH.size ≤ 9223372036854775807 := by omega
      go_wp2
      go_region_held3 (fun w' => w'.cell? ⟨w5.heap.size, 0, none⟩ = some (.string v0) ∧ w'.cell? ⟨w5.heap.size, 1, none⟩ = some (.string ⟨#[c]⟩) ∧ w'.cell? ⟨w5.heap.size, 2, none⟩ = some (.string v2) ∧ w'.cell? ⟨w5.heap.size, 3, none⟩ = some (.string v3) ∧ w'.cell? ⟨w5.heap.size, 4, none⟩ = some (.string M) ∧ w'.cell? ⟨w5.heap.size, 5, none⟩ = some (.string ⟨#[37]⟩) ∧ w'.cell? ⟨w5.heap.size, 6, none⟩ = some (.string v6) ∧ w'.cell? ⟨w5.heap.size, 7, none⟩ = some (.bool f7) ∧ w'.cell? ⟨w5.heap.size, 8, none⟩ = some (.bool f8) ∧ w'.cell? ⟨w5.heap.size, 9, none⟩ = some (.slice (some ⟨b, 0, none⟩) kk kk)) (exact ⟨(Below.cell (B := wr.heap.size) (w := wr) (p := ⟨w5.heap.size, 0, none⟩) (by (repeat (first | exact Below.refl _ _ | assumption | refine Below.setCell ?_ (by first | omega | (simp <;> omega)) _ | refine Below.alloc ?_ (by first | omega | (simp <;> omega)) _ | refine Below.drew ?_ | refine below_drewN' ?_ _))) lr1).trans u0, (Below.cell (B := wr.heap.size) (w := wr) (p := ⟨w5.heap.size, 1, none⟩) (by (repeat (first | exact Below.refl _ _ | assumption | refine Below.setCell ?_ (by first | omega | (simp <;> omega)) _ | refine Below.alloc ?_ (by first | omega | (simp <;> omega)) _ | refine Below.drew ?_ | refine below_drewN' ?_ _))) lr1).trans u1, (Below.cell (B := wr.heap.size) (w := wr) (p := ⟨w5.heap.size, 2, none⟩) (by (repeat (first | exact Below.refl _ _ | assumption | refine Below.setCell ?_ (by first | omega | (simp <;> omega)) _ | refine Below.alloc ?_ (by first | omega | (simp <;> omega)) _ | refine Below.drew ?_ | refine below_drewN' ?_ _))) lr1).trans u2, (Below.cell (B := wr.heap.size) (w := wr) (p := ⟨w5.heap.size, 3, none⟩) (by (repeat (first | exact Below.refl _ _ | assumption | refine Below.setCell ?_ (by first | omega | (simp <;> omega)) _ | refine Below.alloc ?_ (by first | omega | (simp <;> omega)) _ | refine Below.drew ?_ | refine below_drewN' ?_ _))) lr1).trans u3, (Below.cell (B := wr.heap.size) (w := wr) (p := ⟨w5.heap.size, 4, none⟩) (by (repeat (first | exact Below.refl _ _ | assumption | refine Below.setCell ?_ (by first | omega | (simp <;> omega)) _ | refine Below.alloc ?_ (by first | omega | (simp <;> omega)) _ | refine Below.drew ?_ | refine below_drewN' ?_ _))) lr1).trans u4, (Below.cell (B := wr.heap.size) (w := wr) (p := ⟨w5.heap.size, 5, none⟩) (by (repeat (first | exact Below.refl _ _ | assumption | refine Below.setCell ?_ (by first | omega | (simp <;> omega)) _ | refine Below.alloc ?_ (by first | omega | (simp <;> omega)) _ | refine Below.drew ?_ | refine below_drewN' ?_ _))) lr1).trans u5, (Below.cell (B := wr.heap.size) (w := wr) (p := ⟨w5.heap.size, 6, none⟩) (by (repeat (first | exact Below.refl _ _ | assumption | refine Below.setCell ?_ (by first | omega | (simp <;> omega)) _ | refine Below.alloc ?_ (by first | omega | (simp <;> omega)) _ | refine Below.drew ?_ | refine below_drewN' ?_ _))) lr1).trans u6, (Below.cell (B := wr.heap.size) (w := wr) (p := ⟨w5.heap.size, 7, none⟩) (by (repeat (first | exact Below.refl _ _ | assumption | refine Below.setCell ?_ (by first | omega | (simp <;> omega)) _ | refine Below.alloc ?_ (by first | omega | (simp <;> omega)) _ | refine Below.drew ?_ | refine below_drewN' ?_ _))) lr1).trans u7, (Below.cell (B := wr.heap.size) (w := wr) (p := ⟨w5.heap.size, 8, none⟩) (by (repeat (first | exact Below.refl _ _ | assumption | refine Below.setCell ?_ (by first | omega | (simp <;> omega)) _ | refine Below.alloc ?_ (by first | omega | (simp <;> omega)) _ | refine Below.drew ?_ | refine below_drewN' ?_ _))) lr1).trans u8, (Below.cell (B := wr.heap.size) (w := wr) (p := ⟨w5.heap.size, 9, none⟩) (by (repeat (first | exact Below.refl _ _ | assumption | refine Below.setCell ?_ (by first | omega | (simp <;> omega)) _ | refine Below.alloc ?_ (by first | omega | (simp <;> omega)) _ | refine Below.drew ?_ | refine below_drewN' ?_ _))) lr1).trans u9⟩) ((go_at_call 14; (with_reducible refine (HP1.out b _ (HSr.out.on (by (repeat (first | exact Below.refl _ _ | assumption | refine Below.setCell ?_ (by first | omega | (simp <;> omega)) _ | refine Below.alloc ?_ (by first | omega | (simp <;> omega)) _ | refine Below.drew ?_ | refine below_drewN' ?_ _)))) (HMr.out.on (by (repeat (first | exact Below.refl _ _ | assumption | refine Below.setCell ?_ (by first | omega | (simp <;> omega)) _ | refine Below.alloc ?_ (by first | omega | (simp <;> omega)) _ | refine Below.drew ?_ | refine below_drewN' ?_ _))))).mono ?_); rintro e w7 ⟨rfl, hb_w7⟩; have hB_w7 : Below wr.heap.size wr w7 := Below.trans (by (repeat (first | exact Below.refl _ _ | assumption | refine Below.setCell ?_ (by first | omega | (simp <;> omega)) _ | refine Below.alloc ?_ (by first | omega | (simp <;> omega)) _ | refine Below.drew ?_ | refine below_drewN' ?_ _))) (hb_w7.mono (by first | omega | (simp <;> omega)))))
      all_goals
        have x1 : w7.cell? ⟨w5.heap.size, 1, none⟩ = some (.string ⟨#[c]⟩) := (hB_w7.cell (p := ⟨w5.heap.size, 1, none⟩) lr1).trans u1
        have y0 : w7.cell? ⟨w.heap.size, 0, none⟩ = some (.bool true) := (hB_w7.cell (p := ⟨w.heap.size, 0, none⟩) lr2).trans v0'
        have y1 : w7.cell? ⟨w.heap.size, 1, none⟩ = some (.string d) := (hB_w7.cell (p := ⟨w.heap.size, 1, none⟩) lr2).trans v1'
        have y2 : w7.cell? ⟨w.heap.size, 2, none⟩ = some (.int .i64 x) := (hB_w7.cell (p := ⟨w.heap.size, 2, none⟩) lr2).trans v2'
        clear u0 u1 u2 u3 u4 u5 u6 u7 u8 u9
        go_wp2_with (first
          | (go_at_call 16; (with_reducible refine (HDG.out _).mono ?_); rintro e w' ⟨rfl, rfl⟩)
          | (go_at_call 25; (with_reducible refine (HMK2.out _).mono ?_); rintro e w8 ⟨rfl, hb_w8⟩; have hB_w8 : Below wr.heap.size wr w8 := Below.trans (by (repeat (first | exact Below.refl _ _ | assumption | refine Below.setCell ?_ (by first | omega | (simp <;> omega)) _ | refine Below.alloc ?_ (by first | omega | (simp <;> omega)) _ | refine Below.drew ?_ | refine below_drewN' ?_ _))) (hb_w8.mono (by have := hB_w7.size; first | omega | (simp <;> omega))); have hz_w8 := hB_w8.size; have z0 : w8.cell? ⟨w.heap.size, 0, none⟩ = some (.bool true) := (hB_w8.cell (p := ⟨w.heap.size, 0, none⟩) lr2).trans v0'; have z1 : w8.cell? ⟨w.heap.size, 1, none⟩ = some (.string d) := (hB_w8.cell (p := ⟨w.heap.size, 1, none⟩) lr2).trans v1'; have z2 : w8.cell? ⟨w.heap.size, 2, none⟩ = some (.int .i64 x) := (hB_w8.cell (p := ⟨w.heap.size, 2, none⟩) lr2).trans v2'; have lz : ¬ w.heap.size = w8.heap.size := (by have := hB_w8.size; omega); have lz2 : w.heap.size < w8.heap.size := (by have := hB_w8.size; omega)))
        go_ret
        exact RetB.of rfl (HBr.out.trans ((by (repeat (first | exact Below.refl _ _ | assumption | refine Below.setCell ?_ (by first | omega | (simp <;> omega)) _ | refine Below.alloc ?_ (by first | omega | (simp <;> omega)) _ | refine Below.drew ?_ | refine below_drewN' ?_ _)) : Below wr.heap.size wr _).mono HBr.out.size))

set_option maxRecDepth 100000 in
set_option maxHeartbeats 4000000 in
theorem l11_back_pos_rest (cc : Int) (d : ByteArray) (x : Int) (w : World) (hv : Vars w) (hm : MaxL w) (hc : -9223372036854775808 ≤ cc ∧ cc ≤ 9223372036854775807) (hr : Dc.right d.data.toList x = true) (hs : d.size ≤ 200)
    (hp : Dc.point d.data.toList x ≤ 300) (hp2 : -100 ≤ Dc.point d.data.toList x) (l : Lc.Loc) (hl : l ∈ Lc.six) (hf : ∀ w, Vars w → Calls Tryd.prog 13 #[.int .i64 cc] w (Find2 l w))
    (c : UInt8) (S M T G R WH : ByteArray) (hcd : l.dec = [c]) (bf : BackFacts l false d x c S M T G R WH) (hR : 0 < R.size) :
    Calls Tryd.prog 5 #[.int .i64 cc, .agg #[.bool false, .string d, .int .i64 x]] w (RetB (.bool true) w) := by
  have hsh := fun w1 (hb : Below w.heap.size w w1) => l11_shown_any w1 (hv.on hb) (hm.on hb)
  have hmx := fun W (h : Below w.heap.size w W) => hm.on h
  obtain ⟨o1, o2, o3, _, _⟩ := six_ok l hl
  obtain ⟨bwr, bmin, bst, btg, bpl, bgc, brd, brl, bmk, bgs, brs, bws, bms, bg0⟩ := bf
  have hf2 : ∀ W, Below w.heap.size w W → Calls Tryd.prog 13 #[.int .i64 cc] W (fun e w' => ∃ b, e = .returned (.tuple #[LV b l, RV l]) ∧ W.heap.size ≤ b ∧ Szs w' b l ∧ Below W.heap.size W w') := fun W h => hf W (hv.on h)
  have hrt := fun W => r7_right_any false d x W (by omega)
  rw [hr] at hrt
  have hpt := fun W => r7_point_any false d x W (by omega)
  obtain ⟨pt, hptv⟩ : ∃ p, p = Dc.point d.data.toList x := ⟨_, rfl⟩
  rw [← hptv] at hpt hp hp2
  have hw1 := fun b W h1 => lo_write_any b l false d x true W (by omega) o1 h1
  rw [bwr] at hw1
  have hp1 := fun b W h1 h2 => lo_plain_any b l G W h1 h2 (by omega) o1 o2
  rw [bpl] at hp1
  have hdg := fun W => l11_digits_any R W (by omega)
  rw [brd] at hdg
  have hmk := fun W => r7_make_any false (WH ++ R) (-(R.size : Int)) W (by rw [ByteArray.size_append]; omega) (by omega)
  rw [Dc.ba_app, bmk] at hmk
  have hva : (⟨false, d.data.toList, x, 0⟩ : Dc.Res).val = .tuple #[.agg #[.bool false, .string d, .int .i64 x], .int .i64 0] := rfl
  rw [hva] at hmk
  unfold LV at hf2 hw1 hp1
  unfold RV at hf2
  unfold tx at hf2 hw1 hp1
  have hSd : (⟨S.data.toList.toArray⟩ : ByteArray) = S := by simp
  have hWd : (⟨WH.data.toList.toArray⟩ : ByteArray) = WH := by simp
  have hMd : (⟨l.minus.toArray⟩ : ByteArray) = M := by rw [bmin]
  have hCd : (⟨l.dec.toArray⟩ : ByteArray) = ⟨#[c]⟩ := by rw [hcd]
  simp only [hSd, hWd, hMd, hCd] at hf2 hw1 hp1
  obtain ⟨v0, hv0⟩ : ∃ v : ByteArray, v = ⟨l.name.toArray⟩ := ⟨_, rfl⟩
  obtain ⟨v2, hv2⟩ : ∃ v : ByteArray, v = ⟨l.grp.toArray⟩ := ⟨_, rfl⟩
  obtain ⟨v3, hv3⟩ : ∃ v : ByteArray, v = ⟨l.list.toArray⟩ := ⟨_, rfl⟩
  obtain ⟨v6, hv6⟩ : ∃ v : ByteArray, v = ⟨l.cur.toArray⟩ := ⟨_, rfl⟩
  obtain ⟨f7, hf7⟩ : ∃ v, v = l.first := ⟨_, rfl⟩
  obtain ⟨f8, hf8⟩ : ∃ v, v = l.space := ⟨_, rfl⟩
  obtain ⟨kk, hk⟩ : ∃ v : Nat, v = (if l.two = true then 2 else 1) := ⟨_, rfl⟩
  obtain ⟨z, hz⟩ : ∃ v : Nat, v = l.second := ⟨_, rfl⟩
  simp only [← hv0, ← hv2, ← hv3, ← hv6, ← hf7, ← hf8, ← hk, ← hz] at hf2 hw1 hp1
  -- sizes and pieces
  have hTl : T.data.toList = G.data.toList ++ c :: R.data.toList := by rw [btg, if_neg (by omega)]
  have hTs : T.size = G.size + 1 + R.size := by
    have := congrArg List.length hTl
    simp only [List.length_append, List.length_cons, bs_length] at this
    omega
  have hT1 : T.extract 0 G.size = G := Dc.ba_eq _ _ (by rw [Lib.extract_data, hTl, List.drop_zero, Nat.sub_zero, List.take_left' (by rw [bs_length])])
  have hT2 : T.extract (G.size + 1) T.size = R := Dc.ba_eq _ _ (by
    rw [Lib.extract_to_end, hTl, List.drop_append, bs_length]
    rw [List.drop_eq_nil_of_le (by rw [bs_length]; omega), show G.size + 1 - G.size = 1 by omega]; rfl)
  have hSs : S.size =  T.size := by
    have := congrArg List.length bst
    simp only [if_true, if_false, Bool.false_eq_true, List.nil_append, List.length_append, bs_length] at this
    omega
  have hST : S = T := Dc.ba_eq _ _ (by rw [bst, if_neg (by simp), List.nil_append])
  have HSH := Lib.hid hsh; have HMX := Lib.hid hmx; have HF := Lib.hid hf2; have HRT := Lib.hid hrt; have HPT := Lib.hid hpt; have HW := Lib.hid hw1; have HP1 := Lib.hid hp1; have HDG := Lib.hid hdg; have HMK := Lib.hid hmk; have BGC := Lib.hid bgc; have BRL := Lib.hid brl; have HTL := Lib.hid hTl; have HTS := Lib.hid hTs; have HT1 := Lib.hid hT1; have HT2 := Lib.hid hT2; have HST := Lib.hid hST; have HSS := Lib.hid hSs
  clear hsh hmx hf2 hrt hpt hw1 hp1 hdg hmk bgc brl hTl hTs hT1 hT2 hST hSs hva hSd hWd hMd hCd hv0 hv2 hv3 hv6 hf7 hf8 hk hz hv hm hf hl o1 o2 o3 bwr bmin bst btg bpl brd bmk hcd hptv hr
  obtain rfl : T = S := HST.out.symm
  have e1 : decide (300 < pt) = false := decide_eq_false (by omega)
  have e2 : decide (pt < -100) = false := decide_eq_false (by omega)
  have e3 : decide (200 < (d.size : Int)) = false := decide_eq_false (by omega)
  have tok1 : True := trivial
  go_enter Tryd.func5, Tryd.ntmps5
  go_wp2_with (first
    | (go_at_call 12; (with_reducible refine (HSH.out _ (by (repeat (first | exact Below.refl _ _ | assumption | refine Below.setCell ?_ (by first | omega | (simp <;> omega)) _ | refine Below.alloc ?_ (by first | omega | (simp <;> omega)) _ | refine Below.drew ?_ | refine below_drewN' ?_ _)))).mono ?_); rintro e w1 ⟨rfl, hb_w1⟩; have hB_w1 : Below (w).heap.size (w) w1 := Below.trans (by (repeat (first | exact Below.refl _ _ | assumption | refine Below.setCell ?_ (by first | omega | (simp <;> omega)) _ | refine Below.alloc ?_ (by first | omega | (simp <;> omega)) _ | refine Below.drew ?_ | refine below_drewN' ?_ _))) (hb_w1.mono (by first | omega | (simp <;> omega))); obtain ⟨hc_w1, hf_w1⟩ := bcell hb_w1; have hz_w1 := hb_w1.size; (try simp only [size_drew', size_drewN', World.size_alloc, World.size_setCell] at hz_w1); have hl0_w1 : w.heap.size < w1.heap.size := (by omega); have hm0_w1 : w.heap.size ≤ w1.heap.size := (by omega); have hn0_w1 : ¬ w.heap.size = w1.heap.size := (by omega); have hq0_w1 : ¬ w1.heap.size = w.heap.size := (by omega); have hr0_w1 := fun o => hc_w1 (w.heap.size) o (by (try simp only [size_drew', size_drewN', World.size_alloc, World.size_setCell]); omega); have hg0_w1 := fun o => hf_w1 (w.heap.size) o (by (try simp only [size_drew', size_drewN', World.size_alloc, World.size_setCell]); omega))
    | (go_at_call 23; (with_reducible refine (HRT.out _).mono ?_); rintro e w2 ⟨rfl, hb_w2⟩; have hB_w2 : Below (w).heap.size (w) w2 := Below.trans (by (repeat (first | exact Below.refl _ _ | assumption | refine Below.setCell ?_ (by first | omega | (simp <;> omega)) _ | refine Below.alloc ?_ (by first | omega | (simp <;> omega)) _ | refine Below.drew ?_ | refine below_drewN' ?_ _))) (hb_w2.mono (by first | omega | (simp <;> omega))); obtain ⟨hc_w2, hf_w2⟩ := bcell hb_w2; have hz_w2 := hb_w2.size; (try simp only [size_drew', size_drewN', World.size_alloc, World.size_setCell] at hz_w2); have hl0_w2 : w.heap.size < w2.heap.size := (by omega); have hm0_w2 : w.heap.size ≤ w2.heap.size := (by omega); have hn0_w2 : ¬ w.heap.size = w2.heap.size := (by omega); have hq0_w2 : ¬ w2.heap.size = w.heap.size := (by omega); have hr0_w2 := fun o => hc_w2 (w.heap.size) o (by (try simp only [size_drew', size_drewN', World.size_alloc, World.size_setCell]); omega); have hg0_w2 := fun o => hf_w2 (w.heap.size) o (by (try simp only [size_drew', size_drewN', World.size_alloc, World.size_setCell]); omega))
    | (clear tok1; (go_at_call 24; (with_reducible refine (HPT.out _).mono ?_); rintro e w3 ⟨rfl, hb_w3⟩; have hB_w3 : Below (w).heap.size (w) w3 := Below.trans (by (repeat (first | exact Below.refl _ _ | assumption | refine Below.setCell ?_ (by first | omega | (simp <;> omega)) _ | refine Below.alloc ?_ (by first | omega | (simp <;> omega)) _ | refine Below.drew ?_ | refine below_drewN' ?_ _))) (hb_w3.mono (by first | omega | (simp <;> omega))); obtain ⟨hc_w3, hf_w3⟩ := bcell hb_w3; have hz_w3 := hb_w3.size; (try simp only [size_drew', size_drewN', World.size_alloc, World.size_setCell] at hz_w3); have hl0_w3 : w.heap.size < w3.heap.size := (by omega); have hm0_w3 : w.heap.size ≤ w3.heap.size := (by omega); have hn0_w3 : ¬ w.heap.size = w3.heap.size := (by omega); have hq0_w3 : ¬ w3.heap.size = w.heap.size := (by omega); have hr0_w3 := fun o => hc_w3 (w.heap.size) o (by (try simp only [size_drew', size_drewN', World.size_alloc, World.size_setCell]); omega); have hg0_w3 := fun o => hf_w3 (w.heap.size) o (by (try simp only [size_drew', size_drewN', World.size_alloc, World.size_setCell]); omega)))
    | (go_at_call 24; (with_reducible refine (HPT.out _).mono ?_); rintro e w4 ⟨rfl, hb_w4⟩; have hB_w4 : Below (w).heap.size (w) w4 := Below.trans (by (repeat (first | exact Below.refl _ _ | assumption | refine Below.setCell ?_ (by first | omega | (simp <;> omega)) _ | refine Below.alloc ?_ (by first | omega | (simp <;> omega)) _ | refine Below.drew ?_ | refine below_drewN' ?_ _))) (hb_w4.mono (by first | omega | (simp <;> omega))); obtain ⟨hc_w4, hf_w4⟩ := bcell hb_w4; have hz_w4 := hb_w4.size; (try simp only [size_drew', size_drewN', World.size_alloc, World.size_setCell] at hz_w4); have hl0_w4 : w.heap.size < w4.heap.size := (by omega); have hm0_w4 : w.heap.size ≤ w4.heap.size := (by omega); have hn0_w4 : ¬ w.heap.size = w4.heap.size := (by omega); have hq0_w4 : ¬ w4.heap.size = w.heap.size := (by omega); have hr0_w4 := fun o => hc_w4 (w.heap.size) o (by (try simp only [size_drew', size_drewN', World.size_alloc, World.size_setCell]); omega); have hg0_w4 := fun o => hf_w4 (w.heap.size) o (by (try simp only [size_drew', size_drewN', World.size_alloc, World.size_setCell]); omega))
    | (go_at_call 13; (with_reducible refine (HF.out _ (by (repeat (first | exact Below.refl _ _ | assumption | refine Below.setCell ?_ (by first | omega | (simp <;> omega)) _ | refine Below.alloc ?_ (by first | omega | (simp <;> omega)) _ | refine Below.drew ?_ | refine below_drewN' ?_ _)))).mono ?_); rintro e w5 ⟨b, rfl, hlow, hszs, hb_w5⟩; have hB_w5 : Below w.heap.size w w5 := Below.trans (by (repeat (first | exact Below.refl _ _ | assumption | refine Below.setCell ?_ (by first | omega | (simp <;> omega)) _ | refine Below.alloc ?_ (by first | omega | (simp <;> omega)) _ | refine Below.drew ?_ | refine below_drewN' ?_ _))) (hb_w5.mono (by first | omega | (simp <;> omega))); have hz_w5 := hb_w5.size; have hr0_w5 := fun o => (bcell hb_w5).1 w.heap.size o (by omega); have hl0_w5 : w.heap.size < w5.heap.size := (by omega); have hn0_w5 : ¬ w.heap.size = w5.heap.size := (by omega); have hq0_w5 : ¬ w5.heap.size = w.heap.size := (by omega); have hn1_w5 : ¬ w.heap.size = w5.heap.size + 1 := (by omega); have hq1_w5 : ¬ w5.heap.size + 1 = w.heap.size := (by omega))
    | (go_at_call 19; (with_reducible refine (HW.out b _ (hszs.on (by (repeat (first | exact Below.refl _ _ | assumption | refine Below.setCell ?_ (by first | omega | (simp <;> omega)) _ | refine Below.alloc ?_ (by first | omega | (simp <;> omega)) _ | refine Below.drew ?_ | refine below_drewN' ?_ _))))).mono ?_); rintro e w6 ⟨rfl, hb_w6⟩; have hB_w6 : Below (w5).heap.size (w5) w6 := Below.trans (by (repeat (first | exact Below.refl _ _ | assumption | refine Below.setCell ?_ (by first | omega | (simp <;> omega)) _ | refine Below.alloc ?_ (by first | omega | (simp <;> omega)) _ | refine Below.drew ?_ | refine below_drewN' ?_ _))) (hb_w6.mono (by first | omega | (simp <;> omega))); obtain ⟨hc_w6, hf_w6⟩ := bcell hb_w6; have hz_w6 := hb_w6.size; (try simp only [size_drew', size_drewN', World.size_alloc, World.size_setCell] at hz_w6); have hl0_w6 : w.heap.size < w6.heap.size := (by omega); have hm0_w6 : w.heap.size ≤ w6.heap.size := (by omega); have hn0_w6 : ¬ w.heap.size = w6.heap.size := (by omega); have hq0_w6 : ¬ w6.heap.size = w.heap.size := (by omega); have hr0_w6 := fun o => hc_w6 (w.heap.size) o (by (try simp only [size_drew', size_drewN', World.size_alloc, World.size_setCell]); omega); have hg0_w6 := fun o => hf_w6 (w.heap.size) o (by (try simp only [size_drew', size_drewN', World.size_alloc, World.size_setCell]); omega); have hl1_w6 : w5.heap.size < w6.heap.size := (by omega); have hm1_w6 : w5.heap.size ≤ w6.heap.size := (by omega); have hn1_w6 : ¬ w5.heap.size = w6.heap.size := (by omega); have hq1_w6 : ¬ w6.heap.size = w5.heap.size := (by omega); have hr1_w6 := fun o => hc_w6 (w5.heap.size) o (by (try simp only [size_drew', size_drewN', World.size_alloc, World.size_setCell]); omega); have hg1_w6 := fun o => hf_w6 (w5.heap.size) o (by (try simp only [size_drew', size_drewN', World.size_alloc, World.size_setCell]); omega)))
  have a0 : w6.cell? ⟨w5.heap.size, 0, none⟩ = some (.string v0) := (hr1_w6 0).trans (by simp [go_sem])
  have a1 : w6.cell? ⟨w5.heap.size, 1, none⟩ = some (.string ⟨#[c]⟩) := (hr1_w6 1).trans (by simp [go_sem])
  have a2 : w6.cell? ⟨w5.heap.size, 2, none⟩ = some (.string v2) := (hr1_w6 2).trans (by simp [go_sem])
  have a3 : w6.cell? ⟨w5.heap.size, 3, none⟩ = some (.string v3) := (hr1_w6 3).trans (by simp [go_sem])
  have a4 : w6.cell? ⟨w5.heap.size, 4, none⟩ = some (.string M) := (hr1_w6 4).trans (by simp [go_sem])
  have a5 : w6.cell? ⟨w5.heap.size, 5, none⟩ = some (.string ⟨#[37]⟩) := (hr1_w6 5).trans (by simp [go_sem])
  have a6 : w6.cell? ⟨w5.heap.size, 6, none⟩ = some (.string v6) := (hr1_w6 6).trans (by simp [go_sem])
  have a7 : w6.cell? ⟨w5.heap.size, 7, none⟩ = some (.bool f7) := (hr1_w6 7).trans (by simp [go_sem])
  have a8 : w6.cell? ⟨w5.heap.size, 8, none⟩ = some (.bool f8) := (hr1_w6 8).trans (by simp [go_sem])
  have a9 : w6.cell? ⟨w5.heap.size, 9, none⟩ = some (.slice (some ⟨b, 0, none⟩) kk kk) := (hr1_w6 9).trans (by simp [go_sem])
  have g0 : w6.cell? ⟨w.heap.size, 0, none⟩ = some (.bool false) := by
    refine (hr0_w6 0).trans ?_
    rw [cell_alloc_old (by simp; omega), cell_alloc_old (by omega)]
    exact (hr0_w5 0).trans ((hr0_w4 0).trans ((hr0_w3 0).trans ((hr0_w2 0).trans ((hr0_w1 0).trans (by simp [go_sem])))))
  have g1 : w6.cell? ⟨w.heap.size, 1, none⟩ = some (.string d) := by
    refine (hr0_w6 1).trans ?_
    rw [cell_alloc_old (by simp; omega), cell_alloc_old (by omega)]
    exact (hr0_w5 1).trans ((hr0_w4 1).trans ((hr0_w3 1).trans ((hr0_w2 1).trans ((hr0_w1 1).trans (by simp [go_sem])))))
  have g2 : w6.cell? ⟨w.heap.size, 2, none⟩ = some (.int .i64 x) := by
    refine (hr0_w6 2).trans ?_
    rw [cell_alloc_old (by simp; omega), cell_alloc_old (by omega)]
    exact (hr0_w5 2).trans ((hr0_w4 2).trans ((hr0_w3 2).trans ((hr0_w2 2).trans ((hr0_w1 2).trans (by simp [go_sem])))))
  have hs6 : Szs w6 b l := hszs.on (by (repeat (first | exact Below.refl _ _ | assumption | refine Below.setCell ?_ (by first | omega | (simp <;> omega)) _ | refine Below.alloc ?_ (by first | omega | (simp <;> omega)) _ | refine Below.drew ?_ | refine below_drewN' ?_ _)))
  have hB6 : Below w.heap.size w w6 := hB_w5.trans (hB_w6.mono hB_w5.size)
  have l1 : w5.heap.size < w6.heap.size := by omega
  have l2 : w.heap.size < w6.heap.size := by omega
  have HS6 := Lib.hid hs6; have HB6 := Lib.hid hB6
  clear hs6 hB6 hszs hb_w5 hB_w5 hr0_w5 hb_w1 hB_w1 hc_w1 hf_w1 hb_w2 hB_w2 hc_w2 hf_w2 hb_w3 hB_w3 hc_w3 hf_w3 hb_w4 hB_w4 hc_w4 hf_w4 hb_w6 hB_w6 hc_w6 hf_w6 hr0_w1 hg0_w1 hr0_w2 hg0_w2 hr0_w3 hg0_w3 hr0_w4 hg0_w4 hr0_w6 hg0_w6 hr1_w6 hg1_w6
  go_loopw [10, 11] (fun at' i wr => ∃ k : Nat, k ≤ G.size ∧ at' = .int .i64 (T.size : Int) ∧ i = .int .i64 k ∧ Below w6.heap.size w6 wr) (fun _ i _ => T.size - (intOf i).toNat)
  case atStart => exact ⟨0, by omega, rfl, rfl, by (repeat (first | exact Below.refl _ _ | assumption | refine Below.setCell ?_ (by first | omega | (simp <;> omega)) _ | refine Below.alloc ?_ (by first | omega | (simp <;> omega)) _ | refine Below.drew ?_ | refine below_drewN' ?_ _))⟩
  case round =>
    obtain ⟨k, hk, rfl, rfl, hbr⟩ := hrel
    have HBR := Lib.hid hbr
    have m1 : wr.cell? ⟨w5.heap.size, 1, none⟩ = some (.string ⟨#[c]⟩) := (hbr.cell (p := ⟨w5.heap.size, 1, none⟩) l1).trans a1
    clear hbr
    by_cases hlt : k < G.size
    · obtain ⟨X, hX⟩ : ∃ X, X = T.extract k (k + 1) := ⟨_, rfl⟩
      have hts := HTS.out
      have hXl : X.data.toList = [G[k]] := by
        have h1 : k < G.data.toList.length := by rw [bs_length]; exact hlt
        have h2 := bs_getElem? G k hlt
        rw [List.getElem?_eq_getElem h1] at h2
        rw [hX, Lib.extract_data, HTL.out, List.drop_append_of_le_length (by omega), show k + 1 - k = 1 by omega, List.drop_eq_getElem_cons h1, Option.some.inj h2]
        rfl
      have hXc : (X.toList == [c]) = false := by
        rw [toList_data, hXl]
        have := BGC.out k hlt
        simp [this]
      have hsl : ∀ w : World, (Instr.slice 9 (.string T) (some (.int .i64 (k : Int))) (some (.int .i64 ((k : Int) + 1))) none).run Tryd.prog w = .ok (.string X) w := fun w => by
        rw [run_slice_string_if w _ T .i64 .i64 _ _ Tryd.underlying9, if_pos (by omega), if_pos (by omega), show ((k : Int) + 1).toNat = k + 1 by omega, show ((k : Int)).toNat = k from rfl, hX]
      have k1 : k + 1 ≤ T.size := by omega
      have k2 : (k : Int) + 1 ≤ (T.size : Int) := by omega
      have k3 : k < T.size := by omega
      have k4 : (T.size : Int) ≤ 1000000 := by omega
      clear hX hXl hts
      go_wp2
      go_quiet (fail)
      go_wp2
      go_roundw
      case rel => exact ⟨k + 1, by omega, rfl, by go_num, HBR.out.trans ((by (repeat (first | exact Below.refl _ _ | assumption | refine Below.setCell ?_ (by first | omega | (simp <;> omega)) _ | refine Below.alloc ?_ (by first | omega | (simp <;> omega)) _ | refine Below.drew ?_ | refine below_drewN' ?_ _)) : Below wr.heap.size wr _).mono HBR.out.size)⟩
      case measure => simp [intOf]; omega
    · obtain rfl : k = G.size := by omega
      have hbr := HBR.out
      have hts := HTS.out
      have hsl : ∀ w : World, (Instr.slice 9 (.string T) (some (.int .i64 (G.size : Int))) (some (.int .i64 ((G.size : Int) + 1))) none).run Tryd.prog w = .ok (.string ⟨#[c]⟩) w := fun w => by
        have e9 : T.extract G.size (G.size + 1) = ⟨#[c]⟩ := Dc.ba_eq _ _ (by
          rw [Lib.extract_data, HTL.out, show G.size + 1 - G.size = 1 by omega, List.drop_left' (by rw [bs_length])]; rfl)
        rw [run_slice_string_if w _ T .i64 .i64 _ _ Tryd.underlying9, if_pos (by omega), if_pos (by omega), show ((G.size : Int) + 1).toNat = G.size + 1 by omega, show ((G.size : Int)).toNat = G.size from rfl, e9]
      have hsl3 : ∀ w : World, (Instr.slice 9 (.string T) none (some (.int .i64 (G.size : Int))) none).run Tryd.prog w = .ok (.string G) w := fun w => by
        rw [run_slice_string_to_if w _ T .i64 _ Tryd.underlying9, if_pos (by omega), Int.toNat_natCast, HT1.out]
      have hsl4 : ∀ w : World, (Instr.slice 9 (.string T) (some (.int .i64 ((G.size : Int) + 1))) none none).run Tryd.prog w = .ok (.string R) w := fun w => by
        rw [run_slice_string_from_if w _ T .i64 _ Tryd.underlying9, if_pos (by omega), show ((G.size : Int) + 1).toNat = G.size + 1 by omega, HT2.out]
      have k1 : G.size + 1 ≤ T.size := by omega
      have k2 : (G.size : Int) + 1 ≤ (T.size : Int) := by omega
      have k3 : G.size < T.size := by omega
      have k4 : (T.size : Int) ≤ 1000000 := by omega
      have k5 : decide (G.size = T.size) = false := decide_eq_false (by omega)
      have k6 : (G.size == T.size) = false := by simp; omega
      have k7 := isEmpty_of_pos (s := R) hR
      have k8 : ¬ R.toList = [] := by intro e; rw [e] at k7; cases k7
      have hR1 : R.size - 1 < R.size := by omega
      have k9 : ¬ (R[R.size - 1].toNat : Int) = 48 := by
        clear hts
        have := BRL.out hR
        intro e; apply this; exact UInt8.toNat_inj.1 (by have h48 : (48 : UInt8).toNat = 48 := rfl; omega)
      have k9b : (((R[R.size - 1].toNat : Int)) != 48) = true := by simpa [bne_iff_ne] using k9
      have lr1 : w5.heap.size < wr.heap.size := by have := hbr.size; omega
      have lr2 : w.heap.size < wr.heap.size := by have := hbr.size; omega
      have u0 : wr.cell? ⟨w5.heap.size, 0, none⟩ = some (.string v0) := (hbr.cell (p := ⟨w5.heap.size, 0, none⟩) l1).trans a0
      have u1 : wr.cell? ⟨w5.heap.size, 1, none⟩ = some (.string ⟨#[c]⟩) := (hbr.cell (p := ⟨w5.heap.size, 1, none⟩) l1).trans a1
      have u2 : wr.cell? ⟨w5.heap.size, 2, none⟩ = some (.string v2) := (hbr.cell (p := ⟨w5.heap.size, 2, none⟩) l1).trans a2
      have u3 : wr.cell? ⟨w5.heap.size, 3, none⟩ = some (.string v3) := (hbr.cell (p := ⟨w5.heap.size, 3, none⟩) l1).trans a3
      have u4 : wr.cell? ⟨w5.heap.size, 4, none⟩ = some (.string M) := (hbr.cell (p := ⟨w5.heap.size, 4, none⟩) l1).trans a4
      have u5 : wr.cell? ⟨w5.heap.size, 5, none⟩ = some (.string ⟨#[37]⟩) := (hbr.cell (p := ⟨w5.heap.size, 5, none⟩) l1).trans a5
      have u6 : wr.cell? ⟨w5.heap.size, 6, none⟩ = some (.string v6) := (hbr.cell (p := ⟨w5.heap.size, 6, none⟩) l1).trans a6
      have u7 : wr.cell? ⟨w5.heap.size, 7, none⟩ = some (.bool f7) := (hbr.cell (p := ⟨w5.heap.size, 7, none⟩) l1).trans a7
      have u8 : wr.cell? ⟨w5.heap.size, 8, none⟩ = some (.bool f8) := (hbr.cell (p := ⟨w5.heap.size, 8, none⟩) l1).trans a8
      have u9 : wr.cell? ⟨w5.heap.size, 9, none⟩ = some (.slice (some ⟨b, 0, none⟩) kk kk) := (hbr.cell (p := ⟨w5.heap.size, 9, none⟩) l1).trans a9
      have v0' : wr.cell? ⟨w.heap.size, 0, none⟩ = some (.bool false) := (hbr.cell (p := ⟨w.heap.size, 0, none⟩) l2).trans g0
      have v1' : wr.cell? ⟨w.heap.size, 1, none⟩ = some (.string d) := (hbr.cell (p := ⟨w.heap.size, 1, none⟩) l2).trans g1
      have v2' : wr.cell? ⟨w.heap.size, 2, none⟩ = some (.int .i64 x) := (hbr.cell (p := ⟨w.heap.size, 2, none⟩) l2).trans g2
      have hBr : Below w.heap.size w wr := HB6.out.trans (hbr.mono HB6.out.size)
      have hsr : Szs wr b l := HS6.out.on hbr
      have hmr := HMX.out _ hBr
      have HBr := Lib.hid hBr; have HSr := Lib.hid hsr; have HMr := Lib.hid hmr
      clear hBr hsr hmr hbr hts
      have s1 : ¬ 9223372036854775807 < WH.size + R.size := by omega
      go_wp2
      go_quiet (fail)
      go_wp2
      go_region_held3 (fun w' => w'.cell? ⟨w5.heap.size, 0, none⟩ = some (.string v0) ∧ w'.cell? ⟨w5.heap.size, 1, none⟩ = some (.string ⟨#[c]⟩) ∧ w'.cell? ⟨w5.heap.size, 2, none⟩ = some (.string v2) ∧ w'.cell? ⟨w5.heap.size, 3, none⟩ = some (.string v3) ∧ w'.cell? ⟨w5.heap.size, 4, none⟩ = some (.string M) ∧ w'.cell? ⟨w5.heap.size, 5, none⟩ = some (.string ⟨#[37]⟩) ∧ w'.cell? ⟨w5.heap.size, 6, none⟩ = some (.string v6) ∧ w'.cell? ⟨w5.heap.size, 7, none⟩ = some (.bool f7) ∧ w'.cell? ⟨w5.heap.size, 8, none⟩ = some (.bool f8) ∧ w'.cell? ⟨w5.heap.size, 9, none⟩ = some (.slice (some ⟨b, 0, none⟩) kk kk)) (exact ⟨(Below.cell (B := wr.heap.size) (w := wr) (p := ⟨w5.heap.size, 0, none⟩) (by (repeat (first | exact Below.refl _ _ | assumption | refine Below.setCell ?_ (by first | omega | (simp <;> omega)) _ | refine Below.alloc ?_ (by first | omega | (simp <;> omega)) _ | refine Below.drew ?_ | refine below_drewN' ?_ _))) lr1).trans u0, (Below.cell (B := wr.heap.size) (w := wr) (p := ⟨w5.heap.size, 1, none⟩) (by (repeat (first | exact Below.refl _ _ | assumption | refine Below.setCell ?_ (by first | omega | (simp <;> omega)) _ | refine Below.alloc ?_ (by first | omega | (simp <;> omega)) _ | refine Below.drew ?_ | refine below_drewN' ?_ _))) lr1).trans u1, (Below.cell (B := wr.heap.size) (w := wr) (p := ⟨w5.heap.size, 2, none⟩) (by (repeat (first | exact Below.refl _ _ | assumption | refine Below.setCell ?_ (by first | omega | (simp <;> omega)) _ | refine Below.alloc ?_ (by first | omega | (simp <;> omega)) _ | refine Below.drew ?_ | refine below_drewN' ?_ _))) lr1).trans u2, (Below.cell (B := wr.heap.size) (w := wr) (p := ⟨w5.heap.size, 3, none⟩) (by (repeat (first | exact Below.refl _ _ | assumption | refine Below.setCell ?_ (by first | omega | (simp <;> omega)) _ | refine Below.alloc ?_ (by first | omega | (simp <;> omega)) _ | refine Below.drew ?_ | refine below_drewN' ?_ _))) lr1).trans u3, (Below.cell (B := wr.heap.size) (w := wr) (p := ⟨w5.heap.size, 4, none⟩) (by (repeat (first | exact Below.refl _ _ | assumption | refine Below.setCell ?_ (by first | omega | (simp <;> omega)) _ | refine Below.alloc ?_ (by first | omega | (simp <;> omega)) _ | refine Below.drew ?_ | refine below_drewN' ?_ _))) lr1).trans u4, (Below.cell (B := wr.heap.size) (w := wr) (p := ⟨w5.heap.size, 5, none⟩) (by (repeat (first | exact Below.refl _ _ | assumption | refine Below.setCell ?_ (by first | omega | (simp <;> omega)) _ | refine Below.alloc ?_ (by first | omega | (simp <;> omega)) _ | refine Below.drew ?_ | refine below_drewN' ?_ _))) lr1).trans u5, (Below.cell (B := wr.heap.size) (w := wr) (p := ⟨w5.heap.size, 6, none⟩) (by (repeat (first | exact Below.refl _ _ | assumption | refine Below.setCell ?_ (by first | omega | (simp <;> omega)) _ | refine Below.alloc ?_ (by first | omega | (simp <;> omega)) _ | refine Below.drew ?_ | refine below_drewN' ?_ _))) lr1).trans u6, (Below.cell (B := wr.heap.size) (w := wr) (p := ⟨w5.heap.size, 7, none⟩) (by (repeat (first | exact Below.refl _ _ | assumption | refine Below.setCell ?_ (by first | omega | (simp <;> omega)) _ | refine Below.alloc ?_ (by first | omega | (simp <;> omega)) _ | refine Below.drew ?_ | refine below_drewN' ?_ _))) lr1).trans u7, (Below.cell (B := wr.heap.size) (w := wr) (p := ⟨w5.heap.size, 8, none⟩) (by (repeat (first | exact Below.refl _ _ | assumption | refine Below.setCell ?_ (by first | omega | (simp <;> omega)) _ | refine Below.alloc ?_ (by first | omega | (simp <;> omega)) _ | refine Below.drew ?_ | refine below_drewN' ?_ _))) lr1).trans u8, (Below.cell (B := wr.heap.size) (w := wr) (p := ⟨w5.heap.size, 9, none⟩) (by (repeat (first | exact Below.refl _ _ | assumption | refine Below.setCell ?_ (by first | omega | (simp <;> omega)) _ | refine Below.alloc ?_ (by first | omega | (simp <;> omega)) _ | refine Below.drew ?_ | refine below_drewN' ?_ _))) lr1).trans u9⟩) ((go_at_call 14; (with_reducible refine (HP1.out b _ (HSr.out.on (by (repeat (first | exact Below.refl _ _ | assumption | refine Below.setCell ?_ (by first | omega | (simp <;> omega)) _ | refine Below.alloc ?_ (by first | omega | (simp <;> omega)) _ | refine Below.drew ?_ | refine below_drewN' ?_ _)))) (HMr.out.on (by (repeat (first | exact Below.refl _ _ | assumption | refine Below.setCell ?_ (by first | omega | (simp <;> omega)) _ | refine Below.alloc ?_ (by first | omega | (simp <;> omega)) _ | refine Below.drew ?_ | refine below_drewN' ?_ _))))).mono ?_); rintro e w7 ⟨rfl, hb_w7⟩; have hB_w7 : Below wr.heap.size wr w7 := Below.trans (by (repeat (first | exact Below.refl _ _ | assumption | refine Below.setCell ?_ (by first | omega | (simp <;> omega)) _ | refine Below.alloc ?_ (by first | omega | (simp <;> omega)) _ | refine Below.drew ?_ | refine below_drewN' ?_ _))) (hb_w7.mono (by first | omega | (simp <;> omega)))))
      all_goals
        have x1 : w7.cell? ⟨w5.heap.size, 1, none⟩ = some (.string ⟨#[c]⟩) := (hB_w7.cell (p := ⟨w5.heap.size, 1, none⟩) lr1).trans u1
        have y0 : w7.cell? ⟨w.heap.size, 0, none⟩ = some (.bool false) := (hB_w7.cell (p := ⟨w.heap.size, 0, none⟩) lr2).trans v0'
        have y1 : w7.cell? ⟨w.heap.size, 1, none⟩ = some (.string d) := (hB_w7.cell (p := ⟨w.heap.size, 1, none⟩) lr2).trans v1'
        have y2 : w7.cell? ⟨w.heap.size, 2, none⟩ = some (.int .i64 x) := (hB_w7.cell (p := ⟨w.heap.size, 2, none⟩) lr2).trans v2'
        clear u0 u1 u2 u3 u4 u5 u6 u7 u8 u9
        go_wp2_with (first
          | (go_at_call 16; (with_reducible refine (HDG.out _).mono ?_); rintro e w' ⟨rfl, rfl⟩)
          | (go_at_call 25; (with_reducible refine (HMK.out _).mono ?_); rintro e w8 ⟨rfl, hb_w8⟩; have hB_w8 : Below wr.heap.size wr w8 := Below.trans (by (repeat (first | exact Below.refl _ _ | assumption | refine Below.setCell ?_ (by first | omega | (simp <;> omega)) _ | refine Below.alloc ?_ (by first | omega | (simp <;> omega)) _ | refine Below.drew ?_ | refine below_drewN' ?_ _))) (hb_w8.mono (by have := hB_w7.size; first | omega | (simp <;> omega))); have hz_w8 := hB_w8.size; have z0 : w8.cell? ⟨w.heap.size, 0, none⟩ = some (.bool false) := (hB_w8.cell (p := ⟨w.heap.size, 0, none⟩) lr2).trans v0'; have z1 : w8.cell? ⟨w.heap.size, 1, none⟩ = some (.string d) := (hB_w8.cell (p := ⟨w.heap.size, 1, none⟩) lr2).trans v1'; have z2 : w8.cell? ⟨w.heap.size, 2, none⟩ = some (.int .i64 x) := (hB_w8.cell (p := ⟨w.heap.size, 2, none⟩) lr2).trans v2'; have lz : ¬ w.heap.size = w8.heap.size := (by have := hB_w8.size; omega); have lz2 : w.heap.size < w8.heap.size := (by have := hB_w8.size; omega)))
        go_ret
        exact RetB.of rfl (HBr.out.trans ((by (repeat (first | exact Below.refl _ _ | assumption | refine Below.setCell ?_ (by first | omega | (simp <;> omega)) _ | refine Below.alloc ?_ (by first | omega | (simp <;> omega)) _ | refine Below.drew ?_ | refine below_drewN' ?_ _)) : Below wr.heap.size wr _).mono HBr.out.size))

set_option maxRecDepth 100000 in
set_option maxHeartbeats 4000000 in
theorem l11_back_pos_whole (cc : Int) (d : ByteArray) (x : Int) (w : World) (hv : Vars w) (hm : MaxL w) (hc : -9223372036854775808 ≤ cc ∧ cc ≤ 9223372036854775807) (hr : Dc.right d.data.toList x = true) (hs : d.size ≤ 200)
    (hp : Dc.point d.data.toList x ≤ 300) (hp2 : -100 ≤ Dc.point d.data.toList x) (l : Lc.Loc) (hl : l ∈ Lc.six) (hf : ∀ w, Vars w → Calls Tryd.prog 13 #[.int .i64 cc] w (Find2 l w))
    (c : UInt8) (S M T G R WH : ByteArray) (hcd : l.dec = [c]) (bf : BackFacts l false d x c S M T G R WH) (hR : R.size = 0) :
    Calls Tryd.prog 5 #[.int .i64 cc, .agg #[.bool false, .string d, .int .i64 x]] w (RetB (.bool true) w) := by
  have hsh := fun w1 (hb : Below w.heap.size w w1) => l11_shown_any w1 (hv.on hb) (hm.on hb)
  have hmx := fun W (h : Below w.heap.size w W) => hm.on h
  obtain ⟨o1, o2, o3, _, _⟩ := six_ok l hl
  obtain ⟨bwr, bmin, bst, btg, bpl, bgc, brd, brl, bmk, bgs, brs, bws, bms, bg0⟩ := bf
  have hf2 : ∀ W, Below w.heap.size w W → Calls Tryd.prog 13 #[.int .i64 cc] W (fun e w' => ∃ b, e = .returned (.tuple #[LV b l, RV l]) ∧ W.heap.size ≤ b ∧ Szs w' b l ∧ Below W.heap.size W w') := fun W h => hf W (hv.on h)
  have hrt := fun W => r7_right_any false d x W (by omega)
  rw [hr] at hrt
  have hpt := fun W => r7_point_any false d x W (by omega)
  obtain ⟨pt, hptv⟩ : ∃ p, p = Dc.point d.data.toList x := ⟨_, rfl⟩
  rw [← hptv] at hpt hp hp2
  have hw1 := fun b W h1 => lo_write_any b l false d x true W (by omega) o1 h1
  rw [bwr] at hw1
  have hp1 := fun b W h1 h2 => lo_plain_any b l G W h1 h2 (by omega) o1 o2
  rw [bpl] at hp1
  have hdg := fun W => l11_digits_any R W (by omega)
  rw [brd] at hdg
  have hmk := fun W => r7_make_any false (WH ++ R) (-(R.size : Int)) W (by rw [ByteArray.size_append]; omega) (by omega)
  rw [Dc.ba_app, bmk] at hmk
  have hva : (⟨false, d.data.toList, x, 0⟩ : Dc.Res).val = .tuple #[.agg #[.bool false, .string d, .int .i64 x], .int .i64 0] := rfl
  rw [hva] at hmk
  unfold LV at hf2 hw1 hp1
  unfold RV at hf2
  unfold tx at hf2 hw1 hp1
  have hSd : (⟨S.data.toList.toArray⟩ : ByteArray) = S := by simp
  have hWd : (⟨WH.data.toList.toArray⟩ : ByteArray) = WH := by simp
  have hMd : (⟨l.minus.toArray⟩ : ByteArray) = M := by rw [bmin]
  have hCd : (⟨l.dec.toArray⟩ : ByteArray) = ⟨#[c]⟩ := by rw [hcd]
  simp only [hSd, hWd, hMd, hCd] at hf2 hw1 hp1
  obtain ⟨v0, hv0⟩ : ∃ v : ByteArray, v = ⟨l.name.toArray⟩ := ⟨_, rfl⟩
  obtain ⟨v2, hv2⟩ : ∃ v : ByteArray, v = ⟨l.grp.toArray⟩ := ⟨_, rfl⟩
  obtain ⟨v3, hv3⟩ : ∃ v : ByteArray, v = ⟨l.list.toArray⟩ := ⟨_, rfl⟩
  obtain ⟨v6, hv6⟩ : ∃ v : ByteArray, v = ⟨l.cur.toArray⟩ := ⟨_, rfl⟩
  obtain ⟨f7, hf7⟩ : ∃ v, v = l.first := ⟨_, rfl⟩
  obtain ⟨f8, hf8⟩ : ∃ v, v = l.space := ⟨_, rfl⟩
  obtain ⟨kk, hk⟩ : ∃ v : Nat, v = (if l.two = true then 2 else 1) := ⟨_, rfl⟩
  obtain ⟨z, hz⟩ : ∃ v : Nat, v = l.second := ⟨_, rfl⟩
  simp only [← hv0, ← hv2, ← hv3, ← hv6, ← hf7, ← hf8, ← hk, ← hz] at hf2 hw1 hp1
  -- sizes and pieces
  have hTl : T.data.toList = G.data.toList := by rw [btg, if_pos hR, List.append_nil]
  have hTG : T = G := Dc.ba_eq _ _ hTl
  have hRe : R = ⟨#[]⟩ := Dc.ba_eq _ _ (by
    have h1 : R.data.toList.length = 0 := by rw [bs_length]; exact hR
    rw [List.length_eq_zero_iff.1 h1])
  have hmk2 := hmk
  rw [show (-(R.size : Int)) = 0 by omega] at hmk2
  have hSs : S.size =  T.size := by
    have := congrArg List.length bst
    simp only [if_true, if_false, Bool.false_eq_true, List.nil_append, List.length_append, bs_length] at this
    omega
  have hST : S = T := Dc.ba_eq _ _ (by rw [bst, if_neg (by simp), List.nil_append])
  have HSH := Lib.hid hsh; have HMX := Lib.hid hmx; have HF := Lib.hid hf2; have HRT := Lib.hid hrt; have HPT := Lib.hid hpt; have HW := Lib.hid hw1; have HP1 := Lib.hid hp1; have HDG := Lib.hid hdg; have HMK := Lib.hid hmk; have BGC := Lib.hid bgc; have BRL := Lib.hid brl; have HTL := Lib.hid hTl; have HTG := Lib.hid hTG; have HRE := Lib.hid hRe; have HR0 := Lib.hid hR; have HMK2 := Lib.hid hmk2; have HST := Lib.hid hST; have HSS := Lib.hid hSs
  clear hsh hmx hf2 hrt hpt hw1 hp1 hdg hmk bgc brl hTl hTG hRe hR hmk2 hST hSs hva hSd hWd hMd hCd hv0 hv2 hv3 hv6 hf7 hf8 hk hz hv hm hf hl o1 o2 o3 bwr bmin bst btg bpl brd bmk hcd hptv hr
  obtain rfl : T = S := HST.out.symm
  obtain rfl : T = G := HTG.out
  obtain rfl : R = ⟨#[]⟩ := HRE.out
  have e1 : decide (300 < pt) = false := decide_eq_false (by omega)
  have e2 : decide (pt < -100) = false := decide_eq_false (by omega)
  have e3 : decide (200 < (d.size : Int)) = false := decide_eq_false (by omega)
  have tok1 : True := trivial
  go_enter Tryd.func5, Tryd.ntmps5
  go_wp2_with (first
    | (go_at_call 12; (with_reducible refine (HSH.out _ (by (repeat (first | exact Below.refl _ _ | assumption | refine Below.setCell ?_ (by first | omega | (simp <;> omega)) _ | refine Below.alloc ?_ (by first | omega | (simp <;> omega)) _ | refine Below.drew ?_ | refine below_drewN' ?_ _)))).mono ?_); rintro e w1 ⟨rfl, hb_w1⟩; have hB_w1 : Below (w).heap.size (w) w1 := Below.trans (by (repeat (first | exact Below.refl _ _ | assumption | refine Below.setCell ?_ (by first | omega | (simp <;> omega)) _ | refine Below.alloc ?_ (by first | omega | (simp <;> omega)) _ | refine Below.drew ?_ | refine below_drewN' ?_ _))) (hb_w1.mono (by first | omega | (simp <;> omega))); obtain ⟨hc_w1, hf_w1⟩ := bcell hb_w1; have hz_w1 := hb_w1.size; (try simp only [size_drew', size_drewN', World.size_alloc, World.size_setCell] at hz_w1); have hl0_w1 : w.heap.size < w1.heap.size := (by omega); have hm0_w1 : w.heap.size ≤ w1.heap.size := (by omega); have hn0_w1 : ¬ w.heap.size = w1.heap.size := (by omega); have hq0_w1 : ¬ w1.heap.size = w.heap.size := (by omega); have hr0_w1 := fun o => hc_w1 (w.heap.size) o (by (try simp only [size_drew', size_drewN', World.size_alloc, World.size_setCell]); omega); have hg0_w1 := fun o => hf_w1 (w.heap.size) o (by (try simp only [size_drew', size_drewN', World.size_alloc, World.size_setCell]); omega))
    | (go_at_call 23; (with_reducible refine (HRT.out _).mono ?_); rintro e w2 ⟨rfl, hb_w2⟩; have hB_w2 : Below (w).heap.size (w) w2 := Below.trans (by (repeat (first | exact Below.refl _ _ | assumption | refine Below.setCell ?_ (by first | omega | (simp <;> omega)) _ | refine Below.alloc ?_ (by first | omega | (simp <;> omega)) _ | refine Below.drew ?_ | refine below_drewN' ?_ _))) (hb_w2.mono (by first | omega | (simp <;> omega))); obtain ⟨hc_w2, hf_w2⟩ := bcell hb_w2; have hz_w2 := hb_w2.size; (try simp only [size_drew', size_drewN', World.size_alloc, World.size_setCell] at hz_w2); have hl0_w2 : w.heap.size < w2.heap.size := (by omega); have hm0_w2 : w.heap.size ≤ w2.heap.size := (by omega); have hn0_w2 : ¬ w.heap.size = w2.heap.size := (by omega); have hq0_w2 : ¬ w2.heap.size = w.heap.size := (by omega); have hr0_w2 := fun o => hc_w2 (w.heap.size) o (by (try simp only [size_drew', size_drewN', World.size_alloc, World.size_setCell]); omega); have hg0_w2 := fun o => hf_w2 (w.heap.size) o (by (try simp only [size_drew', size_drewN', World.size_alloc, World.size_setCell]); omega))
    | (clear tok1; (go_at_call 24; (with_reducible refine (HPT.out _).mono ?_); rintro e w3 ⟨rfl, hb_w3⟩; have hB_w3 : Below (w).heap.size (w) w3 := Below.trans (by (repeat (first | exact Below.refl _ _ | assumption | refine Below.setCell ?_ (by first | omega | (simp <;> omega)) _ | refine Below.alloc ?_ (by first | omega | (simp <;> omega)) _ | refine Below.drew ?_ | refine below_drewN' ?_ _))) (hb_w3.mono (by first | omega | (simp <;> omega))); obtain ⟨hc_w3, hf_w3⟩ := bcell hb_w3; have hz_w3 := hb_w3.size; (try simp only [size_drew', size_drewN', World.size_alloc, World.size_setCell] at hz_w3); have hl0_w3 : w.heap.size < w3.heap.size := (by omega); have hm0_w3 : w.heap.size ≤ w3.heap.size := (by omega); have hn0_w3 : ¬ w.heap.size = w3.heap.size := (by omega); have hq0_w3 : ¬ w3.heap.size = w.heap.size := (by omega); have hr0_w3 := fun o => hc_w3 (w.heap.size) o (by (try simp only [size_drew', size_drewN', World.size_alloc, World.size_setCell]); omega); have hg0_w3 := fun o => hf_w3 (w.heap.size) o (by (try simp only [size_drew', size_drewN', World.size_alloc, World.size_setCell]); omega)))
    | (go_at_call 24; (with_reducible refine (HPT.out _).mono ?_); rintro e w4 ⟨rfl, hb_w4⟩; have hB_w4 : Below (w).heap.size (w) w4 := Below.trans (by (repeat (first | exact Below.refl _ _ | assumption | refine Below.setCell ?_ (by first | omega | (simp <;> omega)) _ | refine Below.alloc ?_ (by first | omega | (simp <;> omega)) _ | refine Below.drew ?_ | refine below_drewN' ?_ _))) (hb_w4.mono (by first | omega | (simp <;> omega))); obtain ⟨hc_w4, hf_w4⟩ := bcell hb_w4; have hz_w4 := hb_w4.size; (try simp only [size_drew', size_drewN', World.size_alloc, World.size_setCell] at hz_w4); have hl0_w4 : w.heap.size < w4.heap.size := (by omega); have hm0_w4 : w.heap.size ≤ w4.heap.size := (by omega); have hn0_w4 : ¬ w.heap.size = w4.heap.size := (by omega); have hq0_w4 : ¬ w4.heap.size = w.heap.size := (by omega); have hr0_w4 := fun o => hc_w4 (w.heap.size) o (by (try simp only [size_drew', size_drewN', World.size_alloc, World.size_setCell]); omega); have hg0_w4 := fun o => hf_w4 (w.heap.size) o (by (try simp only [size_drew', size_drewN', World.size_alloc, World.size_setCell]); omega))
    | (go_at_call 13; (with_reducible refine (HF.out _ (by (repeat (first | exact Below.refl _ _ | assumption | refine Below.setCell ?_ (by first | omega | (simp <;> omega)) _ | refine Below.alloc ?_ (by first | omega | (simp <;> omega)) _ | refine Below.drew ?_ | refine below_drewN' ?_ _)))).mono ?_); rintro e w5 ⟨b, rfl, hlow, hszs, hb_w5⟩; have hB_w5 : Below w.heap.size w w5 := Below.trans (by (repeat (first | exact Below.refl _ _ | assumption | refine Below.setCell ?_ (by first | omega | (simp <;> omega)) _ | refine Below.alloc ?_ (by first | omega | (simp <;> omega)) _ | refine Below.drew ?_ | refine below_drewN' ?_ _))) (hb_w5.mono (by first | omega | (simp <;> omega))); have hz_w5 := hb_w5.size; have hr0_w5 := fun o => (bcell hb_w5).1 w.heap.size o (by omega); have hl0_w5 : w.heap.size < w5.heap.size := (by omega); have hn0_w5 : ¬ w.heap.size = w5.heap.size := (by omega); have hq0_w5 : ¬ w5.heap.size = w.heap.size := (by omega); have hn1_w5 : ¬ w.heap.size = w5.heap.size + 1 := (by omega); have hq1_w5 : ¬ w5.heap.size + 1 = w.heap.size := (by omega))
    | (go_at_call 19; (with_reducible refine (HW.out b _ (hszs.on (by (repeat (first | exact Below.refl _ _ | assumption | refine Below.setCell ?_ (by first | omega | (simp <;> omega)) _ | refine Below.alloc ?_ (by first | omega | (simp <;> omega)) _ | refine Below.drew ?_ | refine below_drewN' ?_ _))))).mono ?_); rintro e w6 ⟨rfl, hb_w6⟩; have hB_w6 : Below (w5).heap.size (w5) w6 := Below.trans (by (repeat (first | exact Below.refl _ _ | assumption | refine Below.setCell ?_ (by first | omega | (simp <;> omega)) _ | refine Below.alloc ?_ (by first | omega | (simp <;> omega)) _ | refine Below.drew ?_ | refine below_drewN' ?_ _))) (hb_w6.mono (by first | omega | (simp <;> omega))); obtain ⟨hc_w6, hf_w6⟩ := bcell hb_w6; have hz_w6 := hb_w6.size; (try simp only [size_drew', size_drewN', World.size_alloc, World.size_setCell] at hz_w6); have hl0_w6 : w.heap.size < w6.heap.size := (by omega); have hm0_w6 : w.heap.size ≤ w6.heap.size := (by omega); have hn0_w6 : ¬ w.heap.size = w6.heap.size := (by omega); have hq0_w6 : ¬ w6.heap.size = w.heap.size := (by omega); have hr0_w6 := fun o => hc_w6 (w.heap.size) o (by (try simp only [size_drew', size_drewN', World.size_alloc, World.size_setCell]); omega); have hg0_w6 := fun o => hf_w6 (w.heap.size) o (by (try simp only [size_drew', size_drewN', World.size_alloc, World.size_setCell]); omega); have hl1_w6 : w5.heap.size < w6.heap.size := (by omega); have hm1_w6 : w5.heap.size ≤ w6.heap.size := (by omega); have hn1_w6 : ¬ w5.heap.size = w6.heap.size := (by omega); have hq1_w6 : ¬ w6.heap.size = w5.heap.size := (by omega); have hr1_w6 := fun o => hc_w6 (w5.heap.size) o (by (try simp only [size_drew', size_drewN', World.size_alloc, World.size_setCell]); omega); have hg1_w6 := fun o => hf_w6 (w5.heap.size) o (by (try simp only [size_drew', size_drewN', World.size_alloc, World.size_setCell]); omega)))
  have a0 : w6.cell? ⟨w5.heap.size, 0, none⟩ = some (.string v0) := (hr1_w6 0).trans (by simp [go_sem])
  have a1 : w6.cell? ⟨w5.heap.size, 1, none⟩ = some (.string ⟨#[c]⟩) := (hr1_w6 1).trans (by simp [go_sem])
  have a2 : w6.cell? ⟨w5.heap.size, 2, none⟩ = some (.string v2) := (hr1_w6 2).trans (by simp [go_sem])
  have a3 : w6.cell? ⟨w5.heap.size, 3, none⟩ = some (.string v3) := (hr1_w6 3).trans (by simp [go_sem])
  have a4 : w6.cell? ⟨w5.heap.size, 4, none⟩ = some (.string M) := (hr1_w6 4).trans (by simp [go_sem])
  have a5 : w6.cell? ⟨w5.heap.size, 5, none⟩ = some (.string ⟨#[37]⟩) := (hr1_w6 5).trans (by simp [go_sem])
  have a6 : w6.cell? ⟨w5.heap.size, 6, none⟩ = some (.string v6) := (hr1_w6 6).trans (by simp [go_sem])
  have a7 : w6.cell? ⟨w5.heap.size, 7, none⟩ = some (.bool f7) := (hr1_w6 7).trans (by simp [go_sem])
  have a8 : w6.cell? ⟨w5.heap.size, 8, none⟩ = some (.bool f8) := (hr1_w6 8).trans (by simp [go_sem])
  have a9 : w6.cell? ⟨w5.heap.size, 9, none⟩ = some (.slice (some ⟨b, 0, none⟩) kk kk) := (hr1_w6 9).trans (by simp [go_sem])
  have g0 : w6.cell? ⟨w.heap.size, 0, none⟩ = some (.bool false) := by
    refine (hr0_w6 0).trans ?_
    rw [cell_alloc_old (by simp; omega), cell_alloc_old (by omega)]
    exact (hr0_w5 0).trans ((hr0_w4 0).trans ((hr0_w3 0).trans ((hr0_w2 0).trans ((hr0_w1 0).trans (by simp [go_sem])))))
  have g1 : w6.cell? ⟨w.heap.size, 1, none⟩ = some (.string d) := by
    refine (hr0_w6 1).trans ?_
    rw [cell_alloc_old (by simp; omega), cell_alloc_old (by omega)]
    exact (hr0_w5 1).trans ((hr0_w4 1).trans ((hr0_w3 1).trans ((hr0_w2 1).trans ((hr0_w1 1).trans (by simp [go_sem])))))
  have g2 : w6.cell? ⟨w.heap.size, 2, none⟩ = some (.int .i64 x) := by
    refine (hr0_w6 2).trans ?_
    rw [cell_alloc_old (by simp; omega), cell_alloc_old (by omega)]
    exact (hr0_w5 2).trans ((hr0_w4 2).trans ((hr0_w3 2).trans ((hr0_w2 2).trans ((hr0_w1 2).trans (by simp [go_sem])))))
  have hs6 : Szs w6 b l := hszs.on (by (repeat (first | exact Below.refl _ _ | assumption | refine Below.setCell ?_ (by first | omega | (simp <;> omega)) _ | refine Below.alloc ?_ (by first | omega | (simp <;> omega)) _ | refine Below.drew ?_ | refine below_drewN' ?_ _)))
  have hB6 : Below w.heap.size w w6 := hB_w5.trans (hB_w6.mono hB_w5.size)
  have l1 : w5.heap.size < w6.heap.size := by omega
  have l2 : w.heap.size < w6.heap.size := by omega
  have HS6 := Lib.hid hs6; have HB6 := Lib.hid hB6
  clear hs6 hB6 hszs hb_w5 hB_w5 hr0_w5 hb_w1 hB_w1 hc_w1 hf_w1 hb_w2 hB_w2 hc_w2 hf_w2 hb_w3 hB_w3 hc_w3 hf_w3 hb_w4 hB_w4 hc_w4 hf_w4 hb_w6 hB_w6 hc_w6 hf_w6 hr0_w1 hg0_w1 hr0_w2 hg0_w2 hr0_w3 hg0_w3 hr0_w4 hg0_w4 hr0_w6 hg0_w6 hr1_w6 hg1_w6
  go_loopw [10, 11] (fun at' i wr => ∃ k : Nat, k ≤ T.size ∧ at' = .int .i64 (T.size : Int) ∧ i = .int .i64 k ∧ Below w6.heap.size w6 wr) (fun _ i _ => T.size - (intOf i).toNat)
  case atStart => exact ⟨0, by omega, rfl, rfl, by (repeat (first | exact Below.refl _ _ | assumption | refine Below.setCell ?_ (by first | omega | (simp <;> omega)) _ | refine Below.alloc ?_ (by first | omega | (simp <;> omega)) _ | refine Below.drew ?_ | refine below_drewN' ?_ _))⟩
  case round =>
    obtain ⟨k, hk, rfl, rfl, hbr⟩ := hrel
    have HBR := Lib.hid hbr
    have m1 : wr.cell? ⟨w5.heap.size, 1, none⟩ = some (.string ⟨#[c]⟩) := (hbr.cell (p := ⟨w5.heap.size, 1, none⟩) l1).trans a1
    clear hbr
    by_cases hlt : k < T.size
    · obtain ⟨X, hX⟩ : ∃ X, X = T.extract k (k + 1) := ⟨_, rfl⟩
      have hXl : X.data.toList = [T[k]] := by
        have h1 : k < T.data.toList.length := by rw [bs_length]; exact hlt
        have h2 := bs_getElem? T k hlt
        rw [List.getElem?_eq_getElem h1] at h2
        rw [hX, Lib.extract_data, show k + 1 - k = 1 by omega, List.drop_eq_getElem_cons h1, Option.some.inj h2]
        rfl
      have hXc : (X.toList == [c]) = false := by
        rw [toList_data, hXl]
        have := BGC.out k hlt
        simp [this]
      have hsl : ∀ w : World, (Instr.slice 9 (.string T) (some (.int .i64 (k : Int))) (some (.int .i64 ((k : Int) + 1))) none).run Tryd.prog w = .ok (.string X) w := fun w => by
        rw [run_slice_string_if w _ T .i64 .i64 _ _ Tryd.underlying9, if_pos (by omega), if_pos (by omega), show ((k : Int) + 1).toNat = k + 1 by omega, show ((k : Int)).toNat = k from rfl, hX]
      have k1 : k + 1 ≤ T.size := by omega
      have k2 : (k : Int) + 1 ≤ (T.size : Int) := by omega
      have k3 : k < T.size := by omega
      have k4 : (T.size : Int) ≤ 1000000 := by omega
      clear hX hXl
      go_wp2
      go_quiet (fail)
      go_wp2
      go_roundw
      case rel => exact ⟨k + 1, by omega, rfl, by go_num, HBR.out.trans ((by (repeat (first | exact Below.refl _ _ | assumption | refine Below.setCell ?_ (by first | omega | (simp <;> omega)) _ | refine Below.alloc ?_ (by first | omega | (simp <;> omega)) _ | refine Below.drew ?_ | refine below_drewN' ?_ _)) : Below wr.heap.size wr _).mono HBR.out.size)⟩
      case measure => simp [intOf]; omega
    · obtain rfl : k = T.size := by omega
      have hbr := HBR.out
      have hsl3 : ∀ w : World, (Instr.slice 9 (.string T) none (some (.int .i64 (T.size : Int))) none).run Tryd.prog w = .ok (.string T) w := fun w => by
        rw [run_slice_string_to_if w _ T .i64 _ Tryd.underlying9, if_pos (by omega), Int.toNat_natCast, ByteArray.extract_zero_size]
      have k1 : ¬ T.size + 1 ≤ T.size := by omega
      have k2 : ¬ (T.size : Int) + 1 ≤ (T.size : Int) := by omega
      have k4 : (T.size : Int) ≤ 1000000 := by omega
      have lr1 : w5.heap.size < wr.heap.size := by have := hbr.size; omega
      have lr2 : w.heap.size < wr.heap.size := by have := hbr.size; omega
      have u0 : wr.cell? ⟨w5.heap.size, 0, none⟩ = some (.string v0) := (hbr.cell (p := ⟨w5.heap.size, 0, none⟩) l1).trans a0
      have u1 : wr.cell? ⟨w5.heap.size, 1, none⟩ = some (.string ⟨#[c]⟩) := (hbr.cell (p := ⟨w5.heap.size, 1, none⟩) l1).trans a1
      have u2 : wr.cell? ⟨w5.heap.size, 2, none⟩ = some (.string v2) := (hbr.cell (p := ⟨w5.heap.size, 2, none⟩) l1).trans a2
      have u3 : wr.cell? ⟨w5.heap.size, 3, none⟩ = some (.string v3) := (hbr.cell (p := ⟨w5.heap.size, 3, none⟩) l1).trans a3
      have u4 : wr.cell? ⟨w5.heap.size, 4, none⟩ = some (.string M) := (hbr.cell (p := ⟨w5.heap.size, 4, none⟩) l1).trans a4
      have u5 : wr.cell? ⟨w5.heap.size, 5, none⟩ = some (.string ⟨#[37]⟩) := (hbr.cell (p := ⟨w5.heap.size, 5, none⟩) l1).trans a5
      have u6 : wr.cell? ⟨w5.heap.size, 6, none⟩ = some (.string v6) := (hbr.cell (p := ⟨w5.heap.size, 6, none⟩) l1).trans a6
      have u7 : wr.cell? ⟨w5.heap.size, 7, none⟩ = some (.bool f7) := (hbr.cell (p := ⟨w5.heap.size, 7, none⟩) l1).trans a7
      have u8 : wr.cell? ⟨w5.heap.size, 8, none⟩ = some (.bool f8) := (hbr.cell (p := ⟨w5.heap.size, 8, none⟩) l1).trans a8
      have u9 : wr.cell? ⟨w5.heap.size, 9, none⟩ = some (.slice (some ⟨b, 0, none⟩) kk kk) := (hbr.cell (p := ⟨w5.heap.size, 9, none⟩) l1).trans a9
      have v0' : wr.cell? ⟨w.heap.size, 0, none⟩ = some (.bool false) := (hbr.cell (p := ⟨w.heap.size, 0, none⟩) l2).trans g0
      have v1' : wr.cell? ⟨w.heap.size, 1, none⟩ = some (.string d) := (hbr.cell (p := ⟨w.heap.size, 1, none⟩) l2).trans g1
      have v2' : wr.cell? ⟨w.heap.size, 2, none⟩ = some (.int .i64 x) := (hbr.cell (p := ⟨w.heap.size, 2, none⟩) l2).trans g2
      have hBr : Below w.heap.size w wr := HB6.out.trans (hbr.mono HB6.out.size)
      have hsr : Szs wr b l := HS6.out.on hbr
      have hmr := HMX.out _ hBr
      have HBr := Lib.hid hBr; have HSr := Lib.hid hsr; have HMr := Lib.hid hmr
      clear hBr hsr hmr hbr
      have s1 : ¬ 9223372036854775807 < WH.size + 0 := by omega
      have s2 : WH.size ≤ 9223372036854775807 := by omega
      go_wp2
      go_region_held3 (fun w' => w'.cell? ⟨w5.heap.size, 0, none⟩ = some (.string v0) ∧ w'.cell? ⟨w5.heap.size, 1, none⟩ = some (.string ⟨#[c]⟩) ∧ w'.cell? ⟨w5.heap.size, 2, none⟩ = some (.string v2) ∧ w'.cell? ⟨w5.heap.size, 3, none⟩ = some (.string v3) ∧ w'.cell? ⟨w5.heap.size, 4, none⟩ = some (.string M) ∧ w'.cell? ⟨w5.heap.size, 5, none⟩ = some (.string ⟨#[37]⟩) ∧ w'.cell? ⟨w5.heap.size, 6, none⟩ = some (.string v6) ∧ w'.cell? ⟨w5.heap.size, 7, none⟩ = some (.bool f7) ∧ w'.cell? ⟨w5.heap.size, 8, none⟩ = some (.bool f8) ∧ w'.cell? ⟨w5.heap.size, 9, none⟩ = some (.slice (some ⟨b, 0, none⟩) kk kk)) (exact ⟨(Below.cell (B := wr.heap.size) (w := wr) (p := ⟨w5.heap.size, 0, none⟩) (by (repeat (first | exact Below.refl _ _ | assumption | refine Below.setCell ?_ (by first | omega | (simp <;> omega)) _ | refine Below.alloc ?_ (by first | omega | (simp <;> omega)) _ | refine Below.drew ?_ | refine below_drewN' ?_ _))) lr1).trans u0, (Below.cell (B := wr.heap.size) (w := wr) (p := ⟨w5.heap.size, 1, none⟩) (by (repeat (first | exact Below.refl _ _ | assumption | refine Below.setCell ?_ (by first | omega | (simp <;> omega)) _ | refine Below.alloc ?_ (by first | omega | (simp <;> omega)) _ | refine Below.drew ?_ | refine below_drewN' ?_ _))) lr1).trans u1, (Below.cell (B := wr.heap.size) (w := wr) (p := ⟨w5.heap.size, 2, none⟩) (by (repeat (first | exact Below.refl _ _ | assumption | refine Below.setCell ?_ (by first | omega | (simp <;> omega)) _ | refine Below.alloc ?_ (by first | omega | (simp <;> omega)) _ | refine Below.drew ?_ | refine below_drewN' ?_ _))) lr1).trans u2, (Below.cell (B := wr.heap.size) (w := wr) (p := ⟨w5.heap.size, 3, none⟩) (by (repeat (first | exact Below.refl _ _ | assumption | refine Below.setCell ?_ (by first | omega | (simp <;> omega)) _ | refine Below.alloc ?_ (by first | omega | (simp <;> omega)) _ | refine Below.drew ?_ | refine below_drewN' ?_ _))) lr1).trans u3, (Below.cell (B := wr.heap.size) (w := wr) (p := ⟨w5.heap.size, 4, none⟩) (by (repeat (first | exact Below.refl _ _ | assumption | refine Below.setCell ?_ (by first | omega | (simp <;> omega)) _ | refine Below.alloc ?_ (by first | omega | (simp <;> omega)) _ | refine Below.drew ?_ | refine below_drewN' ?_ _))) lr1).trans u4, (Below.cell (B := wr.heap.size) (w := wr) (p := ⟨w5.heap.size, 5, none⟩) (by (repeat (first | exact Below.refl _ _ | assumption | refine Below.setCell ?_ (by first | omega | (simp <;> omega)) _ | refine Below.alloc ?_ (by first | omega | (simp <;> omega)) _ | refine Below.drew ?_ | refine below_drewN' ?_ _))) lr1).trans u5, (Below.cell (B := wr.heap.size) (w := wr) (p := ⟨w5.heap.size, 6, none⟩) (by (repeat (first | exact Below.refl _ _ | assumption | refine Below.setCell ?_ (by first | omega | (simp <;> omega)) _ | refine Below.alloc ?_ (by first | omega | (simp <;> omega)) _ | refine Below.drew ?_ | refine below_drewN' ?_ _))) lr1).trans u6, (Below.cell (B := wr.heap.size) (w := wr) (p := ⟨w5.heap.size, 7, none⟩) (by (repeat (first | exact Below.refl _ _ | assumption | refine Below.setCell ?_ (by first | omega | (simp <;> omega)) _ | refine Below.alloc ?_ (by first | omega | (simp <;> omega)) _ | refine Below.drew ?_ | refine below_drewN' ?_ _))) lr1).trans u7, (Below.cell (B := wr.heap.size) (w := wr) (p := ⟨w5.heap.size, 8, none⟩) (by (repeat (first | exact Below.refl _ _ | assumption | refine Below.setCell ?_ (by first | omega | (simp <;> omega)) _ | refine Below.alloc ?_ (by first | omega | (simp <;> omega)) _ | refine Below.drew ?_ | refine below_drewN' ?_ _))) lr1).trans u8, (Below.cell (B := wr.heap.size) (w := wr) (p := ⟨w5.heap.size, 9, none⟩) (by (repeat (first | exact Below.refl _ _ | assumption | refine Below.setCell ?_ (by first | omega | (simp <;> omega)) _ | refine Below.alloc ?_ (by first | omega | (simp <;> omega)) _ | refine Below.drew ?_ | refine below_drewN' ?_ _))) lr1).trans u9⟩) ((go_at_call 14; (with_reducible refine (HP1.out b _ (HSr.out.on (by (repeat (first | exact Below.refl _ _ | assumption | refine Below.setCell ?_ (by first | omega | (simp <;> omega)) _ | refine Below.alloc ?_ (by first | omega | (simp <;> omega)) _ | refine Below.drew ?_ | refine below_drewN' ?_ _)))) (HMr.out.on (by (repeat (first | exact Below.refl _ _ | assumption | refine Below.setCell ?_ (by first | omega | (simp <;> omega)) _ | refine Below.alloc ?_ (by first | omega | (simp <;> omega)) _ | refine Below.drew ?_ | refine below_drewN' ?_ _))))).mono ?_); rintro e w7 ⟨rfl, hb_w7⟩; have hB_w7 : Below wr.heap.size wr w7 := Below.trans (by (repeat (first | exact Below.refl _ _ | assumption | refine Below.setCell ?_ (by first | omega | (simp <;> omega)) _ | refine Below.alloc ?_ (by first | omega | (simp <;> omega)) _ | refine Below.drew ?_ | refine below_drewN' ?_ _))) (hb_w7.mono (by first | omega | (simp <;> omega)))))
      all_goals
        have x1 : w7.cell? ⟨w5.heap.size, 1, none⟩ = some (.string ⟨#[c]⟩) := (hB_w7.cell (p := ⟨w5.heap.size, 1, none⟩) lr1).trans u1
        have y0 : w7.cell? ⟨w.heap.size, 0, none⟩ = some (.bool false) := (hB_w7.cell (p := ⟨w.heap.size, 0, none⟩) lr2).trans v0'
        have y1 : w7.cell? ⟨w.heap.size, 1, none⟩ = some (.string d) := (hB_w7.cell (p := ⟨w.heap.size, 1, none⟩) lr2).trans v1'
        have y2 : w7.cell? ⟨w.heap.size, 2, none⟩ = some (.int .i64 x) := (hB_w7.cell (p := ⟨w.heap.size, 2, none⟩) lr2).trans v2'
        clear u0 u1 u2 u3 u4 u5 u6 u7 u8 u9
        go_wp2_with (first
          | (go_at_call 16; (with_reducible refine (HDG.out _).mono ?_); rintro e w' ⟨rfl, rfl⟩)
          | (go_at_call 25; (with_reducible refine (HMK2.out _).mono ?_); rintro e w8 ⟨rfl, hb_w8⟩; have hB_w8 : Below wr.heap.size wr w8 := Below.trans (by (repeat (first | exact Below.refl _ _ | assumption | refine Below.setCell ?_ (by first | omega | (simp <;> omega)) _ | refine Below.alloc ?_ (by first | omega | (simp <;> omega)) _ | refine Below.drew ?_ | refine below_drewN' ?_ _))) (hb_w8.mono (by have := hB_w7.size; first | omega | (simp <;> omega))); have hz_w8 := hB_w8.size; have z0 : w8.cell? ⟨w.heap.size, 0, none⟩ = some (.bool false) := (hB_w8.cell (p := ⟨w.heap.size, 0, none⟩) lr2).trans v0'; have z1 : w8.cell? ⟨w.heap.size, 1, none⟩ = some (.string d) := (hB_w8.cell (p := ⟨w.heap.size, 1, none⟩) lr2).trans v1'; have z2 : w8.cell? ⟨w.heap.size, 2, none⟩ = some (.int .i64 x) := (hB_w8.cell (p := ⟨w.heap.size, 2, none⟩) lr2).trans v2'; have lz : ¬ w.heap.size = w8.heap.size := (by have := hB_w8.size; omega); have lz2 : w.heap.size < w8.heap.size := (by have := hB_w8.size; omega)))
        go_ret
        exact RetB.of rfl (HBr.out.trans ((by (repeat (first | exact Below.refl _ _ | assumption | refine Below.setCell ?_ (by first | omega | (simp <;> omega)) _ | refine Below.alloc ?_ (by first | omega | (simp <;> omega)) _ | refine Below.drew ?_ | refine below_drewN' ?_ _)) : Below wr.heap.size wr _).mono HBr.out.size))
end Go.Proofs.YtcbepojookbceaaDoor
