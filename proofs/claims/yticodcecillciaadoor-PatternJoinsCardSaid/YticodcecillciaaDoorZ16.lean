/- Patterns in the program: a section is written. -/
import Derived.Test.YticodcecillciaaDoorZ15
import Derived.Test.YticodcecillciaaDoorZ13
import Derived.Deep.RegionLaw
namespace Go.Proofs.YticodcecillciaaDoor
set_option linter.all false
open Go.RowKit

namespace Pa
/-- What has been written of a section ahead of an item. -/
def pre (s : Sec) (k : Nat) : List UInt8 := (List.range k).flatMap (printAt s)
theorem pre_zero (s : Sec) : pre s 0 = [] := rfl
theorem pre_next (s : Sec) (k : Nat) : pre s (k + 1) = pre s k ++ printAt s k := by
  unfold pre; rw [List.range_succ, List.flatMap_append]; simp
theorem pre_all (s : Sec) : printS s = pre s s.items.length := rfl
theorem text_len {x : It} (h : rightI x = true) : x.text.size ≤ 4 := by
  unfold rightI at h
  split at h
  · unfold lit at h
    simp only [Bool.and_eq_true, decide_eq_true_eq] at h
    by_cases h0 : 0 < x.text.size
    · rw [decGo_eq _ h0] at h
      have := (decN_cont x.text.size (ch x.text 0) (ch x.text 1) (ch x.text 2) (ch x.text 3)).2.2.2
      omega
    · omega
  split at h
  · simp only [Bool.or_eq_true, decide_eq_true_eq] at h
    rcases h with h | h | h <;> (rw [h]; decide)
  split at h
  · simp only [Bool.or_eq_true, decide_eq_true_eq] at h
    rcases h with h | h <;> (rw [h]; decide)
  · simp only [Bool.and_eq_true, decide_eq_true_eq] at h
    omega
theorem sign_len {x : It} (h : rightI x = true) : (sign x).length ≤ 7 := by
  have := text_len h
  have e : x.text.data.toList.length = x.text.size := by simp
  unfold sign
  repeat' split
  all_goals first | (simp only [List.length_cons]; omega) | omega | (simp [general, ba]; done) | (simp; done)
theorem last_next (l : List It) (k : Nat) (h : k < l.length) : lastN l (k + 1) = if l[k].kind = 2 then (k : Int) else lastN l k := by
  rw [lastN, getElem!_pos l k h]
theorem last_range (l : List It) (k : Nat) : lastN l k = -1 ∨ (0 ≤ lastN l k ∧ lastN l k < k) := by
  induction k with
  | zero => exact .inl rfl
  | succ k ih =>
    rw [lastN]
    split
    · right; omega
    · rcases ih with h | h
      · exact .inl h
      · right; omega
theorem bytes_app (a b : List UInt8) : (⟨a.toArray⟩ : ByteArray) ++ ⟨b.toArray⟩ = ⟨(a ++ b).toArray⟩ := by
  apply ba_ext; simp [ByteArray.data_append]
theorem printAt_len (s : Sec) (k : Nat) (hx : rightI s.items[k]! = true) (h0 : s.scale ≤ 9) : (printAt s k).length ≤ 17 := by
  have := sign_len hx
  unfold printAt
  rw [List.length_append, List.length_append]
  have e1 : (if s.grouped = true ∧ pair s.items = k then ([44] : List UInt8) else []).length ≤ 1 := by split <;> simp
  have e2 : (if last s.items = k then List.replicate s.scale.toNat (44 : UInt8) else []).length ≤ 9 := by
    split
    · rw [List.length_replicate]; omega
    · simp
  omega
end Pa
theorem repeat_one (q : Nat) : Lib.repeatL [44] q = List.replicate q 44 := by
  induction q with
  | zero => rfl
  | succ q ih => rw [Lib.repeatL, ih]; rfl

set_option maxRecDepth 100000 in
set_option maxHeartbeats 8000000 in
theorem pa_printS_any (vi : Value) (s : Pa.Sec) (B : Nat) (w : World) (h : ItsAt w B vi s.items) (hB : B ≤ w.heap.size) (hl : s.items.length ≤ 100) (hall : s.items.all Pa.rightI = true) (h0 : 0 ≤ s.scale) (h9 : s.scale ≤ 9) (hm : MaxL w) :
    Calls Tryd.prog 31 #[secV vi s] w (RetB (.string ⟨(Pa.printS s).toArray⟩) w) := by
  obtain ⟨r, hr⟩ : ∃ r : ByteArray, r = ⟨(Pa.printS s).toArray⟩ := ⟨_, rfl⟩
  rw [← hr]
  rw [Pa.pre_all] at hr
  have hpair := fun (W : World) (hW : Below w.heap.size w W) => pa_pair_any vi s B W (h.below hW hB) (Nat.le_trans hB hW.size) (by omega)
  have hhead := fun (W : World) (hW : Below w.heap.size w W) => pa_head_any vi s B W (h.below hW hB) (Nat.le_trans hB hW.size) (by omega)
  have hstep : ∀ k (hk : k < s.items.length), Pa.pre s (k + 1) = Pa.pre s k ++ (Pa.sign s.items[k] ++ ((if s.grouped = true ∧ Pa.pair s.items = k then [44] else []) ++ (if Pa.last s.items = k then List.replicate s.scale.toNat 44 else []))) := fun k hk => by
    rw [Pa.pre_next]; unfold Pa.printAt; rw [getElem!_pos s.items k hk]
  have hlen : ∀ k (hk : k < s.items.length), (Pa.pre s (k + 1)).length ≤ (Pa.pre s k).length + 17 := fun k hk => by
    rw [Pa.pre_next, List.length_append]
    have hx : Pa.rightI s.items[k]! = true := by rw [getElem!_pos s.items k hk]; exact (List.all_eq_true.1 hall) _ (List.getElem_mem hk)
    have := Pa.printAt_len s k hx h9
    omega
  have hright : ∀ k (hk : k < s.items.length), Pa.rightI s.items[k] = true := fun k hk => (List.all_eq_true.1 hall) _ (List.getElem_mem hk)
  have hhn := cutAt_le [3, 5, 6] s.items
  generalize hpre : Pa.pre s = PRE at hr hstep hlen
  have hp0 : PRE 0 = [] := by rw [← hpre]; rfl
  obtain ⟨l, g, sc⟩ := s
  unfold secV at hpair hhead ⊢
  simp only [] at h hl hall h0 h9 hpair hhead hr hstep hlen hright hhn ⊢
  clear hpre hall
  unfold HeadR at hhead
  change Pa.headN l ≤ l.length at hhn
  have hlast : Pa.last l = Pa.lastN l (Pa.headN l) := rfl
  obtain ⟨m, hmm⟩ : ∃ m, m = Pa.headN l := ⟨_, rfl⟩
  rw [← hmm] at hhead hhn hlast
  obtain ⟨a, c, rfl, hc⟩ := h.form
  have hgt := fun h0 => h.get h0
  obtain ⟨q, rfl⟩ : ∃ q : Nat, sc = (q : Int) := ⟨sc.toNat, by omega⟩
  obtain ⟨n, hn⟩ : ∃ n, n = l.length := ⟨_, rfl⟩
  obtain ⟨PV, hPV⟩ : ∃ PV : Int, PV = if g = true then Pa.pair l else -1 := ⟨_, rfl⟩
  obtain ⟨LV, hLV⟩ : ∃ LV : Int, LV = Pa.last l := ⟨_, rfl⟩
  have hstep2 : ∀ k (hk : k < l.length), PRE (k + 1) = PRE k ++ (Pa.sign l[k] ++ ((if (k : Int) = PV then [44] else []) ++ (if (k : Int) = LV then List.replicate q 44 else []))) := fun k hk => by
    rw [hstep k hk, hPV, hLV, Int.toNat_natCast]
    have e1 : (if g = true ∧ Pa.pair l = (k : Int) then ([44] : List UInt8) else []) = if (k : Int) = (if g = true then Pa.pair l else -1) then [44] else [] := by
      cases g with
      | true =>
        simp only [true_and, if_true]
        by_cases e : Pa.pair l = k
        · rw [if_pos e, if_pos e.symm]
        · rw [if_neg e, if_neg (fun h => e h.symm)]
      | false =>
        simp only [Bool.false_eq_true, false_and, if_false]
        rw [if_neg (by omega)]
    have e2 : (if Pa.last l = (k : Int) then List.replicate q (44 : UInt8) else []) = if (k : Int) = Pa.last l then List.replicate q 44 else [] := by
      by_cases e : Pa.last l = k
      · rw [if_pos e, if_pos e.symm]
      · rw [if_neg e, if_neg (fun h => e h.symm)]
    rw [e1, e2]
  rw [← hn] at hpair hhead hl hhn hr ⊢
  have hrep := fun (W : World) => Tryd.strings_Repeat ⟨#[44]⟩ q W (by omega) (by have : (⟨#[44]⟩ : ByteArray).size = 1 := rfl; rw [this]; omega)
  rw [show Lib.repeatL (⟨#[44]⟩ : ByteArray).data.toList q = List.replicate q 44 from repeat_one q] at hrep
  obtain ⟨RP, hRP⟩ : ∃ RP : ByteArray, RP = ⟨(List.replicate q (44 : UInt8)).toArray⟩ := ⟨_, rfl⟩
  rw [← hRP] at hrep
  have hRPs : RP.size ≤ 9 := by rw [hRP]; simp only [ByteArray.size, List.size_toArray, List.length_replicate]; omega
  have HRP := Lib.hid hRP; clear hRP
  have h44 : (⟨#[44]⟩ : ByteArray).size = 1 := rfl
  have hsg := fun (k : Nat) (hk : k < l.length) (W : World) (hW : Below w.heap.size w W) => pa_sign_any l[k] W (hright k hk) (by have := Pa.text_len (hright k hk); omega) (hm.on hW)
  have hsl : ∀ k (hk : k < l.length), (Pa.sign l[k]).length ≤ 7 := fun k hk => Pa.sign_len (hright k hk)
  have HSG := Lib.hid hsg; have HSL := Lib.hid hsl
  have HPAIR := Lib.hid hpair; have HHEAD := Lib.hid hhead; have HST := Lib.hid hstep2; have HLEN := Lib.hid hlen; have HRT := Lib.hid hright; have HGT := Lib.hid hgt; have HN := Lib.hid hn; have HPV := Lib.hid hPV; have HLV := Lib.hid hLV; have HR := Lib.hid hr; have HLAST := Lib.hid hlast; have HM := Lib.hid hm; have HREP := Lib.hid hrep; have HP0 := Lib.hid hp0
  clear hsg hsl hpair hhead hstep hstep2 hlen hright hgt hn hPV hLV hr hlast hm hrep h hc hmm hp0
  have hq9 : (q : Int) ≤ 9 := h9
  have hPR := pair_ge l
  cases g with
  | false =>
    have hPVe : PV = -1 := by rw [HPV.out]; rfl
    clear hPR HPAIR HPV
    subst hPVe
    go_enter Tryd.func31, Tryd.ntmps31
    go_wp2_with (first
      | (go_at_call 23; (with_reducible refine (HHEAD.out _ (by (repeat (first | exact Below.refl _ _ | assumption | refine Below.setCell ?_ (by first | omega | (simp <;> omega)) _ | refine Below.alloc ?_ (by first | omega | (simp <;> omega)) _ | refine Below.drew ?_ | refine below_drewN' ?_ _)))).mono ?_); rintro e w1 ⟨v1, rfl, h1, hb_w1⟩; have hB_w1 : Below w.heap.size w w1 := Below.next (by (repeat (first | exact Below.refl _ _ | assumption | refine Below.setCell ?_ (by first | omega | (simp <;> omega)) _ | refine Below.alloc ?_ (by first | omega | (simp <;> omega)) _ | refine Below.drew ?_ | refine below_drewN' ?_ _))) hb_w1; have H1 := Lib.hid h1; have hx1 : Bx3 w w1 (.slice a n c) false (q : Int) := Bx3.on (by first | assumption | (unfold Bx3; refine ⟨?_, ?_, ?_, ?_⟩ <;> (first | (simp; done) | (simp [go_sem]; done)))) hb_w1; (obtain ⟨a1, c1, e1, _, hc1⟩ := H1.out.taken (by rw [← HN.out]; exact hhn)); subst e1; have HC1 := Lib.hid hc1; clear hc1 H1 h1))
    go_loopw [5, 17] (fun s i wr => ∃ k : Nat, k ≤ m ∧ i = .int .i64 (k : Int) ∧ s = .int .i64 (Pa.lastN l k) ∧ Below w1.heap.size w1 wr ∧ Bx3 w wr (.slice a n c) false (q : Int)) (fun _ i _ => m - (intOf i).toNat)
    case atStart => exact ⟨0, Nat.zero_le _, rfl, rfl, Below.refl _ _, hx1⟩
    case round =>
      obtain ⟨k, hk, rfl, rfl, hbr, hxr⟩ := hrel
      have hzr := hbr.size
      have hzw := hB_w1.size
      by_cases hlt : k < m
      · obtain ⟨b, o, rfl, hb, hcl⟩ := HC1.out (by omega)
        obtain ⟨d0, d1⟩ := hcl k hlt
        replace d0 := (hbr.cell (p := ⟨b, o + k * 2, none⟩) (by simp only; omega)).trans d0
        replace d1 := (hbr.cell (p := ⟨b, o + k * 2 + 1, none⟩) (by simp only; omega)).trans d1
        have hkl : k < l.length := by have := HN.out; omega
        have hln := Pa.last_next l k hkl
        obtain ⟨K, hK⟩ : ∃ K, K = l[k].kind := ⟨_, rfl⟩
        rw [← hK] at d0 hln
        have i1 : (k : Int) < (m : Int) := by omega
        have i2 : (k : Int) ≤ 100 := by omega
        have hrx := hxr
        clear hcl hK
        by_cases hk2 : K = 2
        · subst hk2
          rw [if_pos rfl] at hln
          have HLN := Lib.hid hln; clear hln
          go_wp2_with fail
          go_roundw
          case rel => exact ⟨k + 1, by omega, by go_num, by rw [HLN.out], by first | (exact hbr.alloc hzr _) | (repeat (first | exact Below.refl _ _ | assumption | refine Below.setCell ?_ (by first | omega | (simp <;> omega)) _ | refine Below.alloc ?_ (by first | omega | (simp <;> omega)) _ | refine Below.drew ?_ | refine below_drewN' ?_ _)), hxr.on ((Below.refl _ _).alloc (Nat.le_refl _) _)⟩
          case measure => simp [intOf]; omega
        · rw [if_neg hk2] at hln
          have hk2' : (K == 2) = false := beq_eq_false_iff_ne.2 hk2
          have HLN := Lib.hid hln; clear hln hk2
          go_wp2_with fail
          go_roundw
          case rel => exact ⟨k + 1, by omega, by go_num, by rw [HLN.out], by first | (exact hbr.alloc hzr _) | (repeat (first | exact Below.refl _ _ | assumption | refine Below.setCell ?_ (by first | omega | (simp <;> omega)) _ | refine Below.alloc ?_ (by first | omega | (simp <;> omega)) _ | refine Below.drew ?_ | refine below_drewN' ?_ _)), hxr.on ((Below.refl _ _).alloc (Nat.le_refl _) _)⟩
          case measure => simp [intOf]; omega
      · have hkm : k = m := by omega
        subst hkm
        have hlv : Pa.lastN l k = LV := by rw [HLV.out, HLAST.out]
        rw [hlv]
        obtain ⟨wo, rfl⟩ : ∃ wo : World, wo = wr := ⟨_, rfl⟩
        obtain ⟨cz, c0, cg, cs⟩ := id hxr
        clear hlv
        go_wp2_with fail
        go_loopw [3, 30] (fun s i wr => ∃ (k : Nat) (O : ByteArray), k ≤ n ∧ i = .int .i64 (k : Int) ∧ s = .string O ∧ Hid (O = ⟨(PRE k).toArray⟩) ∧ O.size ≤ 17 * k ∧ Below w.heap.size w wr ∧ Bx3 w wr (.slice a n c) false (q : Int)) (fun _ i _ => n - (intOf i).toNat)
        case atStart => exact ⟨0, ⟨#[]⟩, Nat.zero_le _, rfl, rfl, Lib.hid (by first | (rw [HP0.out]; done) | (rw [HP0.out]; rfl)), by simp [ByteArray.size], hB_w1.trans (hbr.mono hzw), hxr⟩
        case round =>
          obtain ⟨j, O, hj, rfl, rfl, HO, hOs, hbj, hxj⟩ := hrel
          have hzj := hbj.size
          clear cz c0 cg cs
          obtain ⟨cz, c0, cg, cs⟩ := id hxj
          by_cases hlj : j < n
          · have hjl : j < l.length := by rw [← HN.out]; exact hlj
            obtain ⟨b, o, c', e', _, hb, hh⟩ := HGT.out (by omega)
            rw [← HN.out] at e'
            cases e'
            obtain ⟨d0, d1⟩ := hh j hjl
            replace d0 := (hbj.cell (p := ⟨b, o + j * 2, none⟩) (by simp only; omega)).trans d0
            replace d1 := (hbj.cell (p := ⟨b, o + j * 2 + 1, none⟩) (by simp only; omega)).trans d1
            have hsg := HSG.out j hjl
            unfold itV at hsg
            have hst := HST.out j hjl
            have hsl := HSL.out j hjl
            obtain ⟨SG, hSG⟩ : ∃ SG : ByteArray, SG = ⟨(Pa.sign l[j]).toArray⟩ := ⟨_, rfl⟩
            have hSGs : SG.size ≤ 7 := by rw [hSG]; simpa [ByteArray.size] using hsl
            rw [← hSG] at hsg
            obtain ⟨K, hK⟩ : ∃ K, K = l[j].kind := ⟨_, rfl⟩
            obtain ⟨TX, hTX⟩ : ∃ K, K = l[j].text := ⟨_, rfl⟩
            rw [← hK] at d0 hsg
            rw [← hTX] at d1 hsg
            have i1 : (j : Int) < (n : Int) := by omega
            have i2 : (j : Int) ≤ 100 := by omega
            have i3 : O.size ≤ 1700 := by omega
            have HS := Lib.hid hsg; have HSTP := Lib.hid hst; have HSGE := Lib.hid hSG
            clear hh hK hTX hsg hst hsl hSG
            have hkp : ¬ (j : Int) = -1 := by omega
            · by_cases hkv : (j : Int) = LV
              · have f1 : ((j : Int) == -1) = false := beq_eq_false_iff_ne.2 hkp
                have f2 : ((j : Int) == LV) = true := beq_iff_eq.2 hkv
                have hn := HSTP.out
                rw [if_neg hkp, if_pos hkv] at hn
                have HNX := Lib.hid hn; clear hn HSTP hkp hkv
                go_wp2_with (first | (go_at_call 47; (with_reducible refine (HS.out _ (by (repeat (first | exact Below.refl _ _ | assumption | refine Below.setCell ?_ (by first | omega | (simp <;> omega)) _ | refine Below.alloc ?_ (by first | omega | (simp <;> omega)) _ | refine Below.drew ?_ | refine below_drewN' ?_ _)))).mono ?_); rintro e w4 ⟨rfl, hb4⟩; have hx4 := (hxj.on ((Below.refl _ _).alloc (Nat.le_refl _) _)).on hb4; have hB4 : Below w.heap.size w w4 := (hbj.alloc hzj _).trans (hb4.mono (by simp; omega)); obtain ⟨cz4, c04, cg4, cs4⟩ := id hx4) | (go_at_call 48; (with_reducible refine (HREP.out _).mono ?_); rintro e w5 ⟨rfl, hb5⟩))
                go_roundw
                case rel => exact ⟨j + 1, O ++ SG ++ RP, by omega, by go_num, rfl, Lib.hid (by (try rw [HRP.out]); rw [HNX.out, HO.out, HSGE.out]; apply Pa.ba_ext; simp [ByteArray.data_append]), by simp only [ByteArray.size_append, h44]; omega, hB4.trans (hb5.mono hB4.size), hx4.on hb5⟩
                case measure => simp [intOf]; omega
              · have f1 : ((j : Int) == -1) = false := beq_eq_false_iff_ne.2 hkp
                have f2 : ((j : Int) == LV) = false := beq_eq_false_iff_ne.2 hkv
                have hn := HSTP.out
                rw [if_neg hkp, if_neg hkv] at hn
                have HNX := Lib.hid hn; clear hn HSTP hkp hkv
                go_wp2_with (first | (go_at_call 47; (with_reducible refine (HS.out _ (by (repeat (first | exact Below.refl _ _ | assumption | refine Below.setCell ?_ (by first | omega | (simp <;> omega)) _ | refine Below.alloc ?_ (by first | omega | (simp <;> omega)) _ | refine Below.drew ?_ | refine below_drewN' ?_ _)))).mono ?_); rintro e w4 ⟨rfl, hb4⟩; have hx4 := (hxj.on ((Below.refl _ _).alloc (Nat.le_refl _) _)).on hb4; have hB4 : Below w.heap.size w w4 := (hbj.alloc hzj _).trans (hb4.mono (by simp; omega)); obtain ⟨cz4, c04, cg4, cs4⟩ := id hx4))
                go_roundw
                case rel => exact ⟨j + 1, O ++ SG, by omega, by go_num, rfl, Lib.hid (by (try rw [HRP.out]); rw [HNX.out, HO.out, HSGE.out]; apply Pa.ba_ext; simp [ByteArray.data_append]), by simp only [ByteArray.size_append, h44]; omega, hB4, hx4⟩
                case measure => simp [intOf]; omega
          · have hjn : j = n := by omega
            subst hjn
            have hro : O = r := by rw [HO.out, HR.out]
            subst hro
            go_wp2_with fail
            go_ret
            exact RetB.of rfl (by (repeat (first | exact Below.refl _ _ | assumption | refine Below.setCell ?_ (by first | omega | (simp <;> omega)) _ | refine Below.alloc ?_ (by first | omega | (simp <;> omega)) _ | refine Below.drew ?_ | refine below_drewN' ?_ _)))
  | true =>
    have hPVe : Pa.pair l = PV := by rw [HPV.out]; rfl
    rw [hPVe] at HPAIR
    clear hPR HPV hPVe
    go_enter Tryd.func31, Tryd.ntmps31
    go_wp2_with (first
      | (go_at_call 24; (with_reducible refine (box_call3 (w := w) (vi := .slice a n c) (g := true) (sc := (q : Int)) (HPAIR.out _ (by (repeat (first | exact Below.refl _ _ | assumption | refine Below.setCell ?_ (by first | omega | (simp <;> omega)) _ | refine Below.alloc ?_ (by first | omega | (simp <;> omega)) _ | refine Below.drew ?_ | refine below_drewN' ?_ _)))) (by first | assumption | (unfold Bx3; refine ⟨?_, ?_, ?_, ?_⟩ <;> (first | (simp; done) | (simp [go_sem]; done))))).mono ?_); rintro e w0 ⟨⟨rfl, hb_w0⟩, hx_w0⟩; have hB_w0 : Below w.heap.size w w0 := Below.next (by (repeat (first | exact Below.refl _ _ | assumption | refine Below.setCell ?_ (by first | omega | (simp <;> omega)) _ | refine Below.alloc ?_ (by first | omega | (simp <;> omega)) _ | refine Below.drew ?_ | refine below_drewN' ?_ _))) hb_w0; obtain ⟨cz, c0, cg, cs⟩ := id hx_w0)
      | (go_at_call 23; (with_reducible refine (HHEAD.out _ (by (repeat (first | exact Below.refl _ _ | assumption | refine Below.setCell ?_ (by first | omega | (simp <;> omega)) _ | refine Below.alloc ?_ (by first | omega | (simp <;> omega)) _ | refine Below.drew ?_ | refine below_drewN' ?_ _)))).mono ?_); rintro e w1 ⟨v1, rfl, h1, hb_w1⟩; have hB_w1 : Below w.heap.size w w1 := Below.next (by (repeat (first | exact Below.refl _ _ | assumption | refine Below.setCell ?_ (by first | omega | (simp <;> omega)) _ | refine Below.alloc ?_ (by first | omega | (simp <;> omega)) _ | refine Below.drew ?_ | refine below_drewN' ?_ _))) hb_w1; have H1 := Lib.hid h1; have hx1 : Bx3 w w1 (.slice a n c) true (q : Int) := Bx3.on (by first | assumption | (unfold Bx3; refine ⟨?_, ?_, ?_, ?_⟩ <;> (first | (simp; done) | (simp [go_sem]; done)))) hb_w1; (obtain ⟨a1, c1, e1, _, hc1⟩ := H1.out.taken (by rw [← HN.out]; exact hhn)); subst e1; have HC1 := Lib.hid hc1; clear hc1 H1 h1))
    go_loopw [5, 17] (fun s i wr => ∃ k : Nat, k ≤ m ∧ i = .int .i64 (k : Int) ∧ s = .int .i64 (Pa.lastN l k) ∧ Below w1.heap.size w1 wr ∧ Bx3 w wr (.slice a n c) true (q : Int)) (fun _ i _ => m - (intOf i).toNat)
    case atStart => exact ⟨0, Nat.zero_le _, rfl, rfl, Below.refl _ _, hx1⟩
    case round =>
      obtain ⟨k, hk, rfl, rfl, hbr, hxr⟩ := hrel
      have hzr := hbr.size
      have hzw := hB_w1.size
      by_cases hlt : k < m
      · obtain ⟨b, o, rfl, hb, hcl⟩ := HC1.out (by omega)
        obtain ⟨d0, d1⟩ := hcl k hlt
        replace d0 := (hbr.cell (p := ⟨b, o + k * 2, none⟩) (by simp only; omega)).trans d0
        replace d1 := (hbr.cell (p := ⟨b, o + k * 2 + 1, none⟩) (by simp only; omega)).trans d1
        have hkl : k < l.length := by have := HN.out; omega
        have hln := Pa.last_next l k hkl
        obtain ⟨K, hK⟩ : ∃ K, K = l[k].kind := ⟨_, rfl⟩
        rw [← hK] at d0 hln
        have i1 : (k : Int) < (m : Int) := by omega
        have i2 : (k : Int) ≤ 100 := by omega
        have hrx := hxr
        clear hcl hK
        by_cases hk2 : K = 2
        · subst hk2
          rw [if_pos rfl] at hln
          have HLN := Lib.hid hln; clear hln
          go_wp2_with fail
          go_roundw
          case rel => exact ⟨k + 1, by omega, by go_num, by rw [HLN.out], by first | (exact hbr.alloc hzr _) | (repeat (first | exact Below.refl _ _ | assumption | refine Below.setCell ?_ (by first | omega | (simp <;> omega)) _ | refine Below.alloc ?_ (by first | omega | (simp <;> omega)) _ | refine Below.drew ?_ | refine below_drewN' ?_ _)), hxr.on ((Below.refl _ _).alloc (Nat.le_refl _) _)⟩
          case measure => simp [intOf]; omega
        · rw [if_neg hk2] at hln
          have hk2' : (K == 2) = false := beq_eq_false_iff_ne.2 hk2
          have HLN := Lib.hid hln; clear hln hk2
          go_wp2_with fail
          go_roundw
          case rel => exact ⟨k + 1, by omega, by go_num, by rw [HLN.out], by first | (exact hbr.alloc hzr _) | (repeat (first | exact Below.refl _ _ | assumption | refine Below.setCell ?_ (by first | omega | (simp <;> omega)) _ | refine Below.alloc ?_ (by first | omega | (simp <;> omega)) _ | refine Below.drew ?_ | refine below_drewN' ?_ _)), hxr.on ((Below.refl _ _).alloc (Nat.le_refl _) _)⟩
          case measure => simp [intOf]; omega
      · have hkm : k = m := by omega
        subst hkm
        have hlv : Pa.lastN l k = LV := by rw [HLV.out, HLAST.out]
        rw [hlv]
        obtain ⟨wo, rfl⟩ : ∃ wo : World, wo = wr := ⟨_, rfl⟩
        obtain ⟨cz, c0, cg, cs⟩ := id hxr
        clear hlv
        go_wp2_with fail
        go_loopw [3, 30] (fun s i wr => ∃ (k : Nat) (O : ByteArray), k ≤ n ∧ i = .int .i64 (k : Int) ∧ s = .string O ∧ Hid (O = ⟨(PRE k).toArray⟩) ∧ O.size ≤ 17 * k ∧ Below w.heap.size w wr ∧ Bx3 w wr (.slice a n c) true (q : Int)) (fun _ i _ => n - (intOf i).toNat)
        case atStart => exact ⟨0, ⟨#[]⟩, Nat.zero_le _, rfl, rfl, Lib.hid (by first | (rw [HP0.out]; done) | (rw [HP0.out]; rfl)), by simp [ByteArray.size], hB_w1.trans (hbr.mono hzw), hxr⟩
        case round =>
          obtain ⟨j, O, hj, rfl, rfl, HO, hOs, hbj, hxj⟩ := hrel
          have hzj := hbj.size
          clear cz c0 cg cs
          obtain ⟨cz, c0, cg, cs⟩ := id hxj
          by_cases hlj : j < n
          · have hjl : j < l.length := by rw [← HN.out]; exact hlj
            obtain ⟨b, o, c', e', _, hb, hh⟩ := HGT.out (by omega)
            rw [← HN.out] at e'
            cases e'
            obtain ⟨d0, d1⟩ := hh j hjl
            replace d0 := (hbj.cell (p := ⟨b, o + j * 2, none⟩) (by simp only; omega)).trans d0
            replace d1 := (hbj.cell (p := ⟨b, o + j * 2 + 1, none⟩) (by simp only; omega)).trans d1
            have hsg := HSG.out j hjl
            unfold itV at hsg
            have hst := HST.out j hjl
            have hsl := HSL.out j hjl
            obtain ⟨SG, hSG⟩ : ∃ SG : ByteArray, SG = ⟨(Pa.sign l[j]).toArray⟩ := ⟨_, rfl⟩
            have hSGs : SG.size ≤ 7 := by rw [hSG]; simpa [ByteArray.size] using hsl
            rw [← hSG] at hsg
            obtain ⟨K, hK⟩ : ∃ K, K = l[j].kind := ⟨_, rfl⟩
            obtain ⟨TX, hTX⟩ : ∃ K, K = l[j].text := ⟨_, rfl⟩
            rw [← hK] at d0 hsg
            rw [← hTX] at d1 hsg
            have i1 : (j : Int) < (n : Int) := by omega
            have i2 : (j : Int) ≤ 100 := by omega
            have i3 : O.size ≤ 1700 := by omega
            have HS := Lib.hid hsg; have HSTP := Lib.hid hst; have HSGE := Lib.hid hSG
            clear hh hK hTX hsg hst hsl hSG
            by_cases hkp : (j : Int) = PV
            · by_cases hkv : (j : Int) = LV
              · have f1 : ((j : Int) == PV) = true := beq_iff_eq.2 hkp
                have f2 : ((j : Int) == LV) = true := beq_iff_eq.2 hkv
                have hn := HSTP.out
                rw [if_pos hkp, if_pos hkv] at hn
                have HNX := Lib.hid hn; clear hn HSTP hkp hkv
                go_wp2_with (first | (go_at_call 47; (with_reducible refine (HS.out _ (by (repeat (first | exact Below.refl _ _ | assumption | refine Below.setCell ?_ (by first | omega | (simp <;> omega)) _ | refine Below.alloc ?_ (by first | omega | (simp <;> omega)) _ | refine Below.drew ?_ | refine below_drewN' ?_ _)))).mono ?_); rintro e w4 ⟨rfl, hb4⟩; have hx4 := (hxj.on ((Below.refl _ _).alloc (Nat.le_refl _) _)).on hb4; have hB4 : Below w.heap.size w w4 := (hbj.alloc hzj _).trans (hb4.mono (by simp; omega)); obtain ⟨cz4, c04, cg4, cs4⟩ := id hx4) | (go_at_call 48; (with_reducible refine (HREP.out _).mono ?_); rintro e w5 ⟨rfl, hb5⟩))
                go_roundw
                case rel => exact ⟨j + 1, O ++ SG ++ ⟨#[44]⟩ ++ RP, by omega, by go_num, rfl, Lib.hid (by (try rw [HRP.out]); rw [HNX.out, HO.out, HSGE.out]; apply Pa.ba_ext; simp [ByteArray.data_append]), by simp only [ByteArray.size_append, h44]; omega, hB4.trans (hb5.mono hB4.size), hx4.on hb5⟩
                case measure => simp [intOf]; omega
              · have f1 : ((j : Int) == PV) = true := beq_iff_eq.2 hkp
                have f2 : ((j : Int) == LV) = false := beq_eq_false_iff_ne.2 hkv
                have hn := HSTP.out
                rw [if_pos hkp, if_neg hkv] at hn
                have HNX := Lib.hid hn; clear hn HSTP hkp hkv
                go_wp2_with (first | (go_at_call 47; (with_reducible refine (HS.out _ (by (repeat (first | exact Below.refl _ _ | assumption | refine Below.setCell ?_ (by first | omega | (simp <;> omega)) _ | refine Below.alloc ?_ (by first | omega | (simp <;> omega)) _ | refine Below.drew ?_ | refine below_drewN' ?_ _)))).mono ?_); rintro e w4 ⟨rfl, hb4⟩; have hx4 := (hxj.on ((Below.refl _ _).alloc (Nat.le_refl _) _)).on hb4; have hB4 : Below w.heap.size w w4 := (hbj.alloc hzj _).trans (hb4.mono (by simp; omega)); obtain ⟨cz4, c04, cg4, cs4⟩ := id hx4))
                go_roundw
                case rel => exact ⟨j + 1, O ++ SG ++ ⟨#[44]⟩, by omega, by go_num, rfl, Lib.hid (by (try rw [HRP.out]); rw [HNX.out, HO.out, HSGE.out]; apply Pa.ba_ext; simp [ByteArray.data_append]), by simp only [ByteArray.size_append, h44]; omega, hB4, hx4⟩
                case measure => simp [intOf]; omega
            · by_cases hkv : (j : Int) = LV
              · have f1 : ((j : Int) == PV) = false := beq_eq_false_iff_ne.2 hkp
                have f2 : ((j : Int) == LV) = true := beq_iff_eq.2 hkv
                have hn := HSTP.out
                rw [if_neg hkp, if_pos hkv] at hn
                have HNX := Lib.hid hn; clear hn HSTP hkp hkv
                go_wp2_with (first | (go_at_call 47; (with_reducible refine (HS.out _ (by (repeat (first | exact Below.refl _ _ | assumption | refine Below.setCell ?_ (by first | omega | (simp <;> omega)) _ | refine Below.alloc ?_ (by first | omega | (simp <;> omega)) _ | refine Below.drew ?_ | refine below_drewN' ?_ _)))).mono ?_); rintro e w4 ⟨rfl, hb4⟩; have hx4 := (hxj.on ((Below.refl _ _).alloc (Nat.le_refl _) _)).on hb4; have hB4 : Below w.heap.size w w4 := (hbj.alloc hzj _).trans (hb4.mono (by simp; omega)); obtain ⟨cz4, c04, cg4, cs4⟩ := id hx4) | (go_at_call 48; (with_reducible refine (HREP.out _).mono ?_); rintro e w5 ⟨rfl, hb5⟩))
                go_roundw
                case rel => exact ⟨j + 1, O ++ SG ++ RP, by omega, by go_num, rfl, Lib.hid (by (try rw [HRP.out]); rw [HNX.out, HO.out, HSGE.out]; apply Pa.ba_ext; simp [ByteArray.data_append]), by simp only [ByteArray.size_append, h44]; omega, hB4.trans (hb5.mono hB4.size), hx4.on hb5⟩
                case measure => simp [intOf]; omega
              · have f1 : ((j : Int) == PV) = false := beq_eq_false_iff_ne.2 hkp
                have f2 : ((j : Int) == LV) = false := beq_eq_false_iff_ne.2 hkv
                have hn := HSTP.out
                rw [if_neg hkp, if_neg hkv] at hn
                have HNX := Lib.hid hn; clear hn HSTP hkp hkv
                go_wp2_with (first | (go_at_call 47; (with_reducible refine (HS.out _ (by (repeat (first | exact Below.refl _ _ | assumption | refine Below.setCell ?_ (by first | omega | (simp <;> omega)) _ | refine Below.alloc ?_ (by first | omega | (simp <;> omega)) _ | refine Below.drew ?_ | refine below_drewN' ?_ _)))).mono ?_); rintro e w4 ⟨rfl, hb4⟩; have hx4 := (hxj.on ((Below.refl _ _).alloc (Nat.le_refl _) _)).on hb4; have hB4 : Below w.heap.size w w4 := (hbj.alloc hzj _).trans (hb4.mono (by simp; omega)); obtain ⟨cz4, c04, cg4, cs4⟩ := id hx4))
                go_roundw
                case rel => exact ⟨j + 1, O ++ SG, by omega, by go_num, rfl, Lib.hid (by (try rw [HRP.out]); rw [HNX.out, HO.out, HSGE.out]; apply Pa.ba_ext; simp [ByteArray.data_append]), by simp only [ByteArray.size_append, h44]; omega, hB4, hx4⟩
                case measure => simp [intOf]; omega
          · have hjn : j = n := by omega
            subst hjn
            have hro : O = r := by rw [HO.out, HR.out]
            subst hro
            go_wp2_with fail
            go_ret
            exact RetB.of rfl (by (repeat (first | exact Below.refl _ _ | assumption | refine Below.setCell ?_ (by first | omega | (simp <;> omega)) _ | refine Below.alloc ?_ (by first | omega | (simp <;> omega)) _ | refine Below.drew ?_ | refine below_drewN' ?_ _)))
end Go.Proofs.YticodcecillciaaDoor

/- Patterns in the program: a pattern is written. -/
namespace Go.Proofs.YticodcecillciaaDoor
set_option linter.all false
open Go.RowKit

theorem right_parts {l : List Pa.Sec} (h : Pa.right l = true) : 1 ≤ l.length ∧ l.length ≤ 4 ∧ Pa.total l ≤ 100 ∧ Pa.wrong l < 0 := by
  unfold Pa.right at h
  simp only [Bool.and_eq_true, decide_eq_true_eq] at h
  exact ⟨h.1, h.2.1, h.2.2.1, h.2.2.2⟩
theorem wrong_neg {l : List Pa.Sec} (h : Pa.wrong l < 0) : ∀ k, k < l.length → Pa.bad l k = false := by
  unfold Pa.wrong at h
  intro k hk
  cases e : (List.range l.length).find? (Pa.bad l) with
  | some i => rw [e] at h; simp only at h; omega
  | none =>
    rw [List.find?_eq_none] at e
    simpa using e k (List.mem_range.2 hk)
theorem right_sec {l : List Pa.Sec} (h : Pa.right l = true) (k : Nat) (hk : k < l.length) : Pa.shape l[k] ≠ 0 ∧ l[k].items.length ≤ 100 := by
  obtain ⟨_, _, h3, h4⟩ := right_parts h
  have := wrong_neg h4 k hk
  have ht := total_item l k hk
  refine ⟨fun e => ?_, by omega⟩
  unfold Pa.bad at this
  rw [getElem!_pos l k hk, if_pos e] at this
  cases this
theorem shape_parts {s : Pa.Sec} (h : Pa.shape s ≠ 0) : s.items.all Pa.rightI = true ∧ 0 ≤ s.scale ∧ s.scale ≤ 9 := by
  unfold Pa.shape at h
  split at h
  · rename_i ha
    split at h
    · split at h
      · rename_i hh; exact ⟨ha, hh.1, hh.2.1⟩
      · exact absurd rfl h
    · split at h
      · rename_i hh; rw [hh.2]; exact ⟨ha, by omega, by omega⟩
      · exact absurd rfl h
  · exact absurd rfl h
def strCells (l : List Pa.Sec) : List Value := l.map fun s => .string ⟨(Pa.printS s).toArray⟩
theorem infoStr : (Tryd.prog.info? 9).map (fun i => (i.zero, i.size, i.bytes)) = some (some (.string ⟨#[]⟩), 1, 16) := by kernel_rfl
theorem printS_len (s : Pa.Sec) (hall : s.items.all Pa.rightI = true) (h9 : s.scale ≤ 9) : (Pa.printS s).length ≤ 17 * s.items.length := by
  rw [Pa.pre_all]
  have key : ∀ k, k ≤ s.items.length → (Pa.pre s k).length ≤ 17 * k := by
    intro k
    induction k with
    | zero => intro _; rw [Pa.pre_zero]; simp
    | succ k ih =>
      intro hk
      rw [Pa.pre_next, List.length_append]
      have := ih (by omega)
      have := Pa.printAt_len s k (by rw [getElem!_pos s.items k (by omega)]; exact (List.all_eq_true.1 hall) _ (List.getElem_mem _)) h9
      omega
  exact key _ (Nat.le_refl _)
theorem join_len (L : List (List UInt8)) (m : Nat) (h : ∀ x ∈ L, x.length ≤ m) : (Lib.join L [59]).length ≤ (m + 1) * L.length := by
  induction L with
  | nil => simp [Lib.join]
  | cons x L ih =>
    have h1 := h x (by simp)
    have h2 := ih (fun y hy => h y (by simp [hy]))
    cases L with
    | nil => simp [Lib.join]; omega
    | cons y L =>
      have e : Lib.join (x :: y :: L) [59] = x ++ ([59] ++ Lib.join (y :: L) [59]) := by simp [Lib.join, List.intercalate]
      rw [e, List.length_append, List.length_append, List.length_cons, List.length_nil, List.length_cons (a := x), Nat.mul_add (m + 1)]
      omega

set_option maxRecDepth 100000 in
set_option maxHeartbeats 8000000 in
theorem pa_print_right (l : List Pa.Sec) (v : Value) (B : Nat) (w : World) (h : SecsAt w B v l) (hB : B ≤ w.heap.size) (hu : U8 w) (hm : MaxL w) (hr : Pa.right l = true) :
    Calls Tryd.prog 13 #[.agg #[v]] w (RetB (.string ⟨(Pa.print l).toArray⟩) w) := by
  obtain ⟨h1, h4, ht, _⟩ := right_parts hr
  have hit : ∀ k (h : k < l.length), l[k].items.length ≤ 1000000 := fun k hk => by have := (right_sec hr k hk).2; omega
  have hrt := fun (W : World) (hW : Below w.heap.size w W) => pa_right2_any l v B W (h.below hW hB) (Nat.le_trans hB hW.size) (by omega) hit (hu.on hW)
  rw [hr] at hrt
  have hres : Pa.print l = Lib.join (l.map Pa.printS) [59] := by unfold Pa.print; rw [if_pos hr]
  obtain ⟨r, hrr⟩ : ∃ r : ByteArray, r = ⟨(Pa.print l).toArray⟩ := ⟨_, rfl⟩
  rw [← hrr]
  rw [hres] at hrr
  obtain ⟨b, o, c, rfl, hc, hb, hh⟩ := h.get (by omega)
  obtain ⟨n, hn⟩ : ∃ n, n = l.length := ⟨_, rfl⟩
  rw [← hn] at h1 h4 hrt ⊢
  have hbw : b < w.heap.size := by omega
  have hps : ∀ k (hk : k < l.length) (vi : Value) (W : World), Below w.heap.size w W → ItsAt w B vi l[k].items → Calls Tryd.prog 31 #[secV vi l[k]] W (RetB (.string ⟨(Pa.printS l[k]).toArray⟩) W) := fun k hk vi W hW hi => by
    obtain ⟨a1, a2, a3⟩ := shape_parts (right_sec hr k hk).1
    exact pa_printS_any vi l[k] B W (hi.below hW hB) (Nat.le_trans hB hW.size) (right_sec hr k hk).2 a1 a2 a3 (hm.on hW)
  have hlen : (Lib.join (l.map Pa.printS) [59]).length ≤ 10000 := by
    have := join_len (l.map Pa.printS) 1700 (fun x hx => by
      rw [List.mem_map] at hx
      obtain ⟨s, hs, rfl⟩ := hx
      obtain ⟨k, hk, rfl⟩ := List.getElem_of_mem hs
      obtain ⟨a1, a2, a3⟩ := shape_parts (right_sec hr k hk).1
      have := printS_len l[k] a1 a3
      have := (right_sec hr k hk).2
      omega)
    rw [List.length_map, ← hn] at this
    omega
  obtain ⟨i0, hI⟩ := info_parts infoStr
  obtain ⟨hi, hi0, hi1, hi2⟩ := hI
  have HH := Lib.hid hh; have HN := Lib.hid hn; have HRT := Lib.hid hrt; have HPS := Lib.hid hps; have HLEN := Lib.hid hlen; have HRR := Lib.hid hrr
  clear hh hn hrt hps hlen hrr hres hit ht h hr hu hm hc hb
  go_enter Tryd.func13, Tryd.ntmps13
  go_wp2_with (go_at_call 11; (with_reducible refine (HRT.out _ (by (repeat (first | exact Below.refl _ _ | assumption | refine Below.setCell ?_ (by first | omega | (simp <;> omega)) _ | refine Below.alloc ?_ (by first | omega | (simp <;> omega)) _ | refine Below.drew ?_ | refine below_drewN' ?_ _)))).mono ?_); rintro e w1 ⟨rfl, hb_w1⟩; have hB1 : Below w.heap.size w w1 := Below.next (by (repeat (first | exact Below.refl _ _ | assumption | refine Below.setCell ?_ (by first | omega | (simp <;> omega)) _ | refine Below.alloc ?_ (by first | omega | (simp <;> omega)) _ | refine Below.drew ?_ | refine below_drewN' ?_ _))) hb_w1; have hc0 : w1.cell? ⟨w.heap.size, 0, none⟩ = some (.slice (some ⟨b, o, none⟩) n c) := (hb_w1.cell (p := ⟨w.heap.size, 0, none⟩) (by simp)).trans (by simp [go_sem]))
  go_loopw [3, 12] (fun s i wr => ∃ k : Nat, k ≤ n ∧ i = .int .i64 (k : Int) ∧ Hid (RowG wr w.heap.size 9 1 s k (strCells (l.take k))) ∧ Below w.heap.size w wr) (fun _ i _ => n - (intOf i).toNat)
  case atStart => exact ⟨0, Nat.zero_le _, rfl, Lib.hid (RowG.nil _ _ _ _), hB1⟩
  case round =>
    obtain ⟨k, hk, rfl, HRow, hbr⟩ := hrel
    have hzr := hbr.size
    obtain ⟨⟨av, cv, rfl⟩, _⟩ := id HRow.out
    by_cases hlt : k < n
    · have hkl : k < l.length := by rw [← HN.out]; exact hlt
      obtain ⟨vi, hvi, d0, d1, d2⟩ := HH.out k hkl
      replace d0 := (hbr.cell (p := ⟨b, o + k * 3, none⟩) hbw).trans d0
      replace d1 := (hbr.cell (p := ⟨b, o + k * 3 + 1, none⟩) hbw).trans d1
      replace d2 := (hbr.cell (p := ⟨b, o + k * 3 + 2, none⟩) hbw).trans d2
      have hps := fun W hW => HPS.out k hkl vi W hW hvi
      obtain ⟨ai, ci, rfl, _⟩ := hvi.form
      unfold secV at hps
      have hsc : strCells (l.take (k + 1)) = strCells (l.take k) ++ [.string ⟨(Pa.printS l[k]).toArray⟩] := by
        unfold strCells; rw [List.take_succ_eq_append_getElem hkl, List.map_append]; rfl
      obtain ⟨X, hX⟩ : ∃ X : ByteArray, X = ⟨(Pa.printS l[k]).toArray⟩ := ⟨_, rfl⟩
      rw [← hX] at hps hsc
      have i1 : (k : Int) < (n : Int) := by omega
      have i2 : (k : Int) ≤ 4 := by omega
      have HS := Lib.hid hps; have HSC := Lib.hid hsc
      obtain ⟨xs, hxs⟩ : ∃ xs, xs = strCells (l.take k) := ⟨_, rfl⟩
      rw [← hxs] at HRow HSC
      clear hps hsc hX hvi hxs
      go_wp2_with (first
        | (go_at_call 31; (with_reducible refine (HS.out _ (by first | (exact hbr.alloc hzr _) | (repeat (first | exact Below.refl _ _ | assumption | refine Below.setCell ?_ (by first | omega | (simp <;> omega)) _ | refine Below.alloc ?_ (by first | omega | (simp <;> omega)) _ | refine Below.drew ?_ | refine below_drewN' ?_ _)))).mono ?_); rintro e w4 ⟨rfl, hb4⟩; have hB4 : Below w.heap.size w w4 := (hbr.alloc hzr _).trans (hb4.mono (by simp; omega)); have hz4 := hB4.size; have hown := (HRow.out.on (((Below.refl _ _).alloc (Nat.le_refl _) _).trans (hb4.mono (by simp)))).2)
        | (at_builtin; refine wpList_append_lies _ rfl _ _ 62 rfl w.heap.size 9 i0 (.string ⟨#[]⟩) 1 16 Tryd.underlying62 hi hi0 hi1 hi2 rfl (by decide) _ _ _ rfl (hown.alloc _) ⟨w4.heap.size, 0, none⟩ 1 1 [.string X] rfl rfl (cell_newG w4 [.string X] _) (by simp [Value.oneCell']) (by decide) (by unfold maxLen; omega) (by omega) (by simp; omega) (w4.heap.size + 1) (by simp) ?_; intro g' cap' w5 hown5 hgrow hat hlt5))
      go_roundw
      case rel =>
        refine ⟨k + 1, by omega, by go_num, Lib.hid (RowG.of hown5 rfl (by rw [HSC.out])), ?_⟩
        exact (hB4.alloc hB4.size _).grown hgrow (by rw [World.size_alloc]; have := hB4.size; omega) (fun j e => (HRow.out.lt e).1)
      case measure => simp [intOf]; omega
    · have hkn : k = n := by omega
      subst hkn
      obtain ⟨g, cap, e, hg1, hg2, hcap, hcells, _⟩ := HRow.out.get (by omega)
      cases e
      have hjoin := Tryd.strings_Join g 0 cv (l.map fun s => ⟨(Pa.printS s).toArray⟩) ⟨#[59]⟩ wr (fun j x hx => by
        rw [Nat.zero_add]
        refine hcells j _ ?_
        unfold strCells
        rw [List.take_of_length_le (by rw [← HN.out]; exact Nat.le_refl _), List.getElem?_map]
        rw [List.getElem?_map] at hx
        obtain ⟨s, hs, rfl⟩ := Option.map_eq_some_iff.1 hx
        rw [hs]; rfl) hg2 (by rw [List.length_map, ← HN.out]; omega) (by rw [List.length_map, ← HN.out]; exact hcap) (by
          have := HLEN.out
          have e : (l.map fun s => (⟨(Pa.printS s).toArray⟩ : ByteArray)).map (·.data.toList) = l.map Pa.printS := by rw [List.map_map]; exact List.map_congr_left fun _ _ => rfl
          rw [e, show (⟨#[59]⟩ : ByteArray).data.toList = [59] from rfl]
          omega)
      have e : (l.map fun s => (⟨(Pa.printS s).toArray⟩ : ByteArray)).map (·.data.toList) = l.map Pa.printS := by rw [List.map_map]; exact List.map_congr_left fun _ _ => rfl
      rw [e, show (⟨#[59]⟩ : ByteArray).data.toList = [59] from rfl, ← HRR.out, List.length_map, ← HN.out] at hjoin
      have HJ := Lib.hid hjoin
      clear hjoin hcells e HRR HLEN
      go_wp2_with (go_at_call 32; (with_reducible refine (HJ.out).mono ?_); rintro e w7 ⟨rfl, hb7⟩)
      go_ret
      exact RetB.of rfl (hbr.trans (hb7.mono hzr))

set_option maxRecDepth 100000 in
set_option maxHeartbeats 8000000 in
theorem pa_print_any (l : List Pa.Sec) (v : Value) (B : Nat) (w : World) (h : SecsAt w B v l) (hB : B ≤ w.heap.size) (hl : l.length ≤ 1000) (hit : ∀ k (h : k < l.length), l[k].items.length ≤ 1000000) (hu : U8 w) (hm : MaxL w) :
    Calls Tryd.prog 13 #[.agg #[v]] w (RetB (.string ⟨(Pa.print l).toArray⟩) w) := by
  cases hr : Pa.right l with
  | true => exact pa_print_right l v B w h hB hu hm hr
  | false =>
    have hrt := fun (W : World) (hW : Below w.heap.size w W) => pa_right2_any l v B W (h.below hW hB) (Nat.le_trans hB hW.size) hl hit (hu.on hW)
    rw [hr] at hrt
    have hres : Pa.print l = [] := by unfold Pa.print; rw [hr]; rfl
    rw [hres]
    obtain ⟨a, c, rfl, _⟩ := h.form
    have HRT := Lib.hid hrt
    clear hrt hres hr h hit
    generalize l.length = n at *
    go_enter Tryd.func13, Tryd.ntmps13
    go_wp2_with (go_at_call 11; (with_reducible refine (HRT.out _ (by (repeat (first | exact Below.refl _ _ | assumption | refine Below.setCell ?_ (by first | omega | (simp <;> omega)) _ | refine Below.alloc ?_ (by first | omega | (simp <;> omega)) _ | refine Below.drew ?_ | refine below_drewN' ?_ _)))).mono ?_); rintro e w1 ⟨rfl, hb_w1⟩; have hB1 : Below w.heap.size w w1 := Below.next (by (repeat (first | exact Below.refl _ _ | assumption | refine Below.setCell ?_ (by first | omega | (simp <;> omega)) _ | refine Below.alloc ?_ (by first | omega | (simp <;> omega)) _ | refine Below.drew ?_ | refine below_drewN' ?_ _))) hb_w1)
    go_ret
    exact RetB.of rfl hB1
end Go.Proofs.YticodcecillciaaDoor

/- The statements of chapter 13: a section, as the document has it. -/
namespace Go.Proofs.YticodcecillciaaDoor
set_option linter.all false
open Go.RowKit

theorem infoRItem : (Tryd.prog.info? 58).map (fun i => (i.zero, i.size, i.bytes)) = some (some (.agg #[.int .i64 0, .string ⟨#[]⟩]), 2, 24) := by kernel_rfl
/-- What 'section' gives: the section, its items in a row of their own. -/
def SectR (w : World) (s : Pa.Sec) (e : Ending) (w' : World) : Prop := ∃ v, e = .returned (secV v s) ∧ RowG w' w.heap.size 58 2 v s.items.length (itCells s.items) ∧ Below w.heap.size w w'
theorem RowG.base {w : World} {base base' n sz : Nat} {T : TypeId} {v : Value} {xs : List Value} (h : RowG w base T sz v n xs) (hb : base' ≤ base) : RowG w base' T sz v n xs := by
  refine ⟨h.1, h.2.1, ?_⟩
  rcases h.2.2 with hh | ⟨g, cap, cur, e, h1, hh⟩
  · exact .inl hh
  · exact .inr ⟨g, cap, cur, e, Nat.le_trans hb h1, hh⟩
theorem itCells_take (l : List Pa.It) (k : Nat) (h : k < l.length) : itCells (l.take (k + 1)) = itCells (l.take k) ++ [.int .i64 l[k].kind, .string l[k].text] := by
  rw [List.take_succ_eq_append_getElem h, itCells_snoc]

set_option maxRecDepth 100000 in
set_option maxHeartbeats 8000000 in
theorem l13_section_any (vi : Value) (s : Pa.Sec) (B : Nat) (w : World) (h : ItsAt w B vi s.items) (hB : B ≤ w.heap.size) (hl : s.items.length ≤ 1000000) :
    Calls Tryd.prog 19 #[secV vi s] w (SectR w s) := by
  obtain ⟨i0, hI⟩ := info_parts infoRItem
  obtain ⟨hi, hi0, hi1, hi2⟩ := hI
  obtain ⟨l, g, sc⟩ := s
  simp only [] at h hl
  obtain ⟨a, c, rfl, hc⟩ := h.form
  have hgt := fun h0 => h.get h0
  obtain ⟨n, hn⟩ : ∃ n, n = l.length := ⟨_, rfl⟩
  unfold secV
  show Calls _ _ #[.agg #[.slice a l.length c, .bool g, .int .i64 sc]] _ _
  rw [← hn] at hl ⊢
  obtain ⟨W2, hW2⟩ : ∃ W2, W2 = (w.alloc (.cells #[.slice a n c, .bool g, .int .i64 sc] 32)).alloc (.cells #[.slice none 0 0, .bool false, .int .i64 0] 36) := ⟨_, rfl⟩
  have hz2 : W2.heap.size = w.heap.size + 1 + 1 := by rw [hW2]; simp
  have hB2 : Below w.heap.size w W2 := by rw [hW2]; exact (((Below.refl _ w).alloc (Nat.le_refl _) _).alloc (by simp) _)
  have hx2 : W2.cell? ⟨w.heap.size, 0, none⟩ = some (.slice a n c) ∧ W2.cell? ⟨w.heap.size, 1, none⟩ = some (.bool g) ∧ W2.cell? ⟨w.heap.size, 2, none⟩ = some (.int .i64 sc) := by
    rw [hW2]; refine ⟨?_, ?_, ?_⟩ <;> simp [go_sem]
  have hr2 : Mem W2 (w.heap.size + 1) [.slice none 0 0, .bool false, .int .i64 0] 36 := by
    rw [hW2]
    have := Mem.new (w.alloc (.cells #[.slice a n c, .bool g, .int .i64 sc] 32)) [.slice none 0 0, .bool false, .int .i64 0] 36
    rwa [World.size_alloc] at this
  have HGT := Lib.hid hgt; have HN := Lib.hid hn; have HX2 := Lib.hid hx2; have HR2 := Lib.hid hr2; have HW2 := Lib.hid hW2; have HB2 := Lib.hid hB2
  clear hgt hn h hc hx2 hr2 hW2 hB2
  go_enter Tryd.func19, Tryd.ntmps19
  go_wp2_with fail
  rw [← HW2.out]
  go_loopw [3, 4] (fun s i wr => ∃ k : Nat, k ≤ n ∧ i = .int .i64 (k : Int) ∧ Hid (RowG wr W2.heap.size 58 2 s k (itCells (l.take k))) ∧ Below W2.heap.size W2 wr) (fun _ i _ => n - (intOf i).toNat)
  case atStart => exact ⟨0, Nat.zero_le _, rfl, Lib.hid (RowG.nil _ _ _ _), Below.refl _ _⟩
  case round =>
    obtain ⟨k, hk, rfl, HRow, hbr⟩ := hrel
    have hzr := hbr.size
    obtain ⟨⟨av, cv, rfl⟩, _⟩ := id HRow.out
    have hbw : Below w.heap.size w wr := HB2.out.trans (hbr.mono HB2.out.size)
    have cx0 := (hbr.cell (p := ⟨w.heap.size, 0, none⟩) (by simp only; omega)).trans HX2.out.1
    have cx1 := (hbr.cell (p := ⟨w.heap.size, 1, none⟩) (by simp only; omega)).trans HX2.out.2.1
    have cx2 := (hbr.cell (p := ⟨w.heap.size, 2, none⟩) (by simp only; omega)).trans HX2.out.2.2
    by_cases hlt : k < n
    · have hkl : k < l.length := by rw [← HN.out]; exact hlt
      obtain ⟨b, o, c', e', _, hb, hh⟩ := HGT.out (by omega)
      rw [← HN.out] at e'
      cases e'
      obtain ⟨d0, d1⟩ := hh k hkl
      replace d0 := (hbw.cell (p := ⟨b, o + k * 2, none⟩) (by simp only; omega)).trans d0
      replace d1 := (hbw.cell (p := ⟨b, o + k * 2 + 1, none⟩) (by simp only; omega)).trans d1
      have hit := itCells_take l k hkl
      obtain ⟨K, hK⟩ : ∃ K, K = l[k].kind := ⟨_, rfl⟩
      obtain ⟨TX, hTX⟩ : ∃ K, K = l[k].text := ⟨_, rfl⟩
      rw [← hK, ← hTX] at hit
      rw [← hK] at d0
      rw [← hTX] at d1
      obtain ⟨xs, hxs⟩ : ∃ xs, xs = itCells (l.take k) := ⟨_, rfl⟩
      rw [← hxs] at HRow hit
      have i1 : (k : Int) < (n : Int) := by omega
      have i2 : (k : Int) ≤ 1000000 := by omega
      have hown := HRow.out.2
      have HIT := Lib.hid hit
      have HBR := Lib.hid hbr
      clear hh hK hTX hit hxs
      go_wp2_with fail
      go_region_law (first | (refine step_append_lies _ rfl _ _ 34 rfl W2.heap.size 58 i0 (.agg #[.int .i64 0, .string ⟨#[]⟩]) 2 24 Tryd.underlying34 hi hi0 hi1 hi2 rfl (by decide) _ _ _ rfl ((hown.alloc _).drew) ⟨wr.heap.size, 0, none⟩ 1 1 [.int .i64 K, .string TX] (by rfl) (by rfl) (World.news_of_block (cs := #[.int .i64 K, .string TX]) (t := 58) (fr := (0, 0)) (heap_alloc_new wr _)) (by simp [Value.oneCell']) (by decide) (by unfold maxLen; omega) (by omega) (by simp; omega) (wr.heap.size + 1) (by simp) ?_; intro g2 cap2 w2 hown3 hgrow hat hlt))
      all_goals
        (try go_wp2)
        go_roundw
        case rel =>
          refine ⟨k + 1, by omega, by go_num, Lib.hid (RowG.of hown3 rfl (by rw [HIT.out])), ?_⟩
          exact ((HBR.out.alloc hzr _).drew).grown hgrow (by simp; omega) (fun j e => (HRow.out.lt e).1)
        case measure => simp [intOf]; omega
    · have hkn : k = n := by omega
      subst hkn
      have hm := HR2.out.below hbr (by omega)
      have q0 := hm.get 0 rfl
      have q1 := hm.get 1 rfl
      have q2 := hm.get 2 rfl
      have fr := hm.frozen
      go_wp2_with fail
      have hne : ∀ j, (Value.slice av k cv).ownBlock = some j → ¬ j = w.heap.size + 1 := fun j e => by have := (HRow.out.lt e).1; omega
      have hRow2 := ((HRow.out.other (a := ⟨w.heap.size + 1, 0, none⟩) (fun e => hne _ e rfl) (.slice av k cv)).other (a := ⟨w.heap.size + 1, 1, none⟩) (fun e => hne _ e rfl) (.bool g)).other (a := ⟨w.heap.size + 1, 2, none⟩) (fun e => hne _ e rfl) (.int .i64 sc)
      refine bodyPost_ret (v := .agg #[.slice av k cv, .bool g, .int .i64 sc]) (by simp [results, Tryd.results19, go_sem, q0, q1, q2, fr]) rfl ⟨.slice av k cv, rfl, ?_, ?_⟩
      · refine RowG.base (base := W2.heap.size) (RowG.of hRow2.2 HN.out ?_) (by omega)
        rw [List.take_of_length_le (by rw [← HN.out]; exact Nat.le_refl _)]
      · exact ((hbw.setCell (p := ⟨w.heap.size + 1, 0, none⟩) (by simp only; omega) _).setCell (p := ⟨w.heap.size + 1, 1, none⟩) (by simp only; omega) _).setCell (p := ⟨w.heap.size + 1, 2, none⟩) (by simp only; omega) _
end Go.Proofs.YticodcecillciaaDoor

/- The statements of chapter 13: sections, as the document has them. -/
namespace Go.Proofs.YticodcecillciaaDoor
set_option linter.all false
open Go.RowKit

/-- Sections that are the call's own: the row, and each section's items in a row of its own. -/
structure SecsOwn (w : World) (base : Nat) (v : Value) (vis : List Value) (l : List Pa.Sec) : Prop where
  row : RowG w base 36 3 v l.length (secCells vis l)
  len : vis.length = l.length
  its : ∀ k (h : k < vis.length) (h2 : k < l.length), RowG w base 58 2 vis[k] l[k].items.length (itCells l[k].items)
  apt : ∀ k (h : k < vis.length) x, vis[k].ownBlock = some x → v.ownBlock ≠ some x
theorem SecsOwn.nil (w : World) (base : Nat) : SecsOwn w base (.slice none 0 0) [] [] :=
  ⟨RowG.nil _ _ _ _, rfl, fun k h => absurd h (by simp), fun k h => absurd h (by simp)⟩
theorem SecsOwn.on {w w' : World} {base : Nat} {v : Value} {vis : List Value} {l : List Pa.Sec} (h : SecsOwn w base v vis l) (hb : Below w.heap.size w w') : SecsOwn w' base v vis l :=
  ⟨h.row.on hb, h.len, fun k h1 h2 => (h.its k h1 h2).on hb, h.apt⟩
theorem SecsOwn.base {w : World} {base base' : Nat} {v : Value} {vis : List Value} {l : List Pa.Sec} (h : SecsOwn w base v vis l) (hb : base' ≤ base) : SecsOwn w base' v vis l :=
  ⟨h.row.base hb, h.len, fun k h1 h2 => (h.its k h1 h2).base hb, h.apt⟩
theorem SecsOwn.push {w w1 : World} {base : Nat} {v v' vi : Value} {vis : List Value} {l : List Pa.Sec} {x : Pa.Sec} {tmp : Obj} (h : SecsOwn w base v vis l)
    (hi : RowG w base 58 2 vi x.items.length (itCells x.items)) (hvi : ∀ j, vi.ownBlock = some j → v.ownBlock ≠ some j)
    (hgrow : (w.alloc tmp).grownBy w1 v.ownBlock) (hown : v'.ownBlock = v.ownBlock ∨ v'.ownBlock = some (w.alloc tmp).heap.size)
    (hrow : RowG w1 base 36 3 v' (l.length + 1) (secCells vis l ++ [vi, .bool x.grouped, .int .i64 x.scale])) : SecsOwn w1 base v' (vis ++ [vi]) (l ++ [x]) := by
  have hlen := h.len
  have hn : Below w.heap.size w (w.alloc tmp) := (Below.refl _ w).alloc (Nat.le_refl _) tmp
  have hsz : (w.alloc tmp).heap.size = w.heap.size + 1 := World.size_alloc _ _
  refine ⟨RowG.of hrow.2 (by simp) (by rw [secCells_snoc hlen]), by simp [hlen], fun k h1 h2 => ?_, fun k h1 j hj => ?_⟩
  · by_cases e : k < vis.length
    · have hk : k < l.length := by omega
      have e1 : (l ++ [x])[k]'h2 = l[k]'hk := List.getElem_append_left hk
      have e2 : (vis ++ [vi])[k]'h1 = vis[k]'e := List.getElem_append_left e
      simp only [e1, e2]
      exact ((h.its k e hk).on hn).grown hgrow (fun j hj e3 => h.apt k e j hj e3)
    · have hk : k = vis.length := by simp at h1; omega
      have e1 : (l ++ [x])[k]'h2 = x := by rw [List.getElem_append_right (by omega)]; simp
      have e2 : (vis ++ [vi])[k]'h1 = vi := by rw [List.getElem_append_right (by omega)]; simp
      simp only [e1, e2]
      exact (hi.on hn).grown hgrow (fun j hj e3 => hvi j hj e3)
  · have hlt : j < w.heap.size := by
      by_cases e : k < vis.length
      · have hk : k < l.length := by omega
        have e2 : (vis ++ [vi])[k]'h1 = vis[k]'e := List.getElem_append_left e
        rw [e2] at hj
        exact ((h.its k e hk).lt hj).2
      · have hk : k = vis.length := by simp at h1; omega
        have e2 : (vis ++ [vi])[k]'h1 = vi := by rw [List.getElem_append_right (by omega)]; simp
        rw [e2] at hj
        exact (hi.lt hj).2
    have hne : v.ownBlock ≠ some j := by
      by_cases e : k < vis.length
      · have e2 : (vis ++ [vi])[k]'h1 = vis[k]'e := List.getElem_append_left e
        rw [e2] at hj
        exact h.apt k e j hj
      · have e2 : (vis ++ [vi])[k]'h1 = vi := by rw [List.getElem_append_right (by omega)]; simp
        rw [e2] at hj
        exact hvi j hj
    intro e
    rcases hown with e2 | e2
    · exact hne (e2.symm.trans e)
    · rw [e2] at e; have := Option.some.inj e; omega
theorem rowIts {w : World} {base : Nat} {v : Value} {l : List Pa.It} {T : TypeId} (h : RowG w base T 2 v l.length (itCells l)) : ItsAt w w.heap.size v l := by
  by_cases h0 : 0 < l.length
  · obtain ⟨g, c, rfl, _, hg, hc, hh, _⟩ := h.get h0
    refine ⟨_, c, rfl, hc, fun _ => ⟨g, 0, rfl, hg, fun k hk => ?_⟩⟩
    obtain ⟨a1, a2⟩ := itCells_get l k hk
    rw [Nat.zero_add]
    exact ⟨hh _ _ a1, hh _ _ a2⟩
  · obtain ⟨⟨a, c, rfl⟩, _⟩ := h
    have e1 : l = [] := List.length_eq_zero_iff.1 (by omega)
    subst e1
    exact ⟨a, c, rfl, Nat.zero_le _, fun h => absurd h h0⟩
theorem SecsOwn.read {w : World} {base : Nat} {v : Value} {vis : List Value} {l : List Pa.Sec} (h : SecsOwn w base v vis l) : SecsAt w w.heap.size v l := by
  by_cases h0 : 0 < l.length
  · obtain ⟨g, c, e, _, hg, hc, hh, _⟩ := h.row.get h0
    refine ⟨_, c, e, hc, fun _ => ⟨g, 0, rfl, hg, fun k hk => ?_⟩⟩
    obtain ⟨a1, a2, a3⟩ := secCells_get h.len k hk
    rw [Nat.zero_add]
    exact ⟨_, rowIts (h.its k (by rw [h.len]; exact hk) hk), hh _ _ a1, hh _ _ a2, hh _ _ a3⟩
  · obtain ⟨⟨a, c, e⟩, _⟩ := h.row
    refine ⟨a, c, e, by omega, fun h => absurd h h0⟩

theorem infoRSec : (Tryd.prog.info? 36).map (fun i => (i.zero, i.size, i.bytes)) = some (some (.agg #[.slice none 0 0, .bool false, .int .i64 0]), 3, 40) := by kernel_rfl
/-- What 'sections' gives. -/
def SecsR (w : World) (l : List Pa.Sec) (e : Ending) (w' : World) : Prop := ∃ v vis, e = .returned v ∧ SecsOwn w' w.heap.size v vis l ∧ Below w.heap.size w w'

set_option maxRecDepth 100000 in
set_option maxHeartbeats 8000000 in
theorem l13_sections_any (l : List Pa.Sec) (v : Value) (B : Nat) (w : World) (h : SecsAt w B v l) (hB : B ≤ w.heap.size) (hl : l.length ≤ 1000) (hit : ∀ k (h : k < l.length), l[k].items.length ≤ 1000000) :
    Calls Tryd.prog 8 #[.agg #[v]] w (SecsR w l) := by
  obtain ⟨i0, hI⟩ := info_parts infoRSec
  obtain ⟨hi, hi0, hi1, hi2⟩ := hI
  obtain ⟨a, c, rfl, hc⟩ := h.form
  have hgt := fun h0 => h.get h0
  obtain ⟨n, hn⟩ : ∃ n, n = l.length := ⟨_, rfl⟩
  rw [← hn] at hl ⊢
  obtain ⟨W1, hW1⟩ : ∃ W1, W1 = w.alloc (.cells #[.slice a n c] 24) := ⟨_, rfl⟩
  have hz1 : W1.heap.size = w.heap.size + 1 := by rw [hW1]; simp
  have hB1 : Below w.heap.size w W1 := by rw [hW1]; exact (Below.refl _ w).alloc (Nat.le_refl _) _
  have hx1 : W1.cell? ⟨w.heap.size, 0, none⟩ = some (.slice a n c) := by rw [hW1]; simp [go_sem]
  have HGT := Lib.hid hgt; have HN := Lib.hid hn; have HX1 := Lib.hid hx1; have HW1 := Lib.hid hW1; have HB1 := Lib.hid hB1; have HIT := Lib.hid hit
  clear hgt hn h hc hx1 hW1 hB1 hit
  go_enter Tryd.func8, Tryd.ntmps8
  go_wp2_with fail
  rw [← HW1.out]
  go_loopw [3, 4] (fun s i wr => ∃ (k : Nat) (vis : List Value), k ≤ n ∧ i = .int .i64 (k : Int) ∧ Hid (SecsOwn wr W1.heap.size s vis (l.take k)) ∧ Below W1.heap.size W1 wr) (fun _ i _ => n - (intOf i).toNat)
  case atStart => exact ⟨0, [], Nat.zero_le _, rfl, Lib.hid (SecsOwn.nil _ _), Below.refl _ _⟩
  case round =>
    obtain ⟨k, vis, hk, rfl, HOwn, hbr⟩ := hrel
    have hzr := hbr.size
    have hkt : (l.take k).length = k := by rw [List.length_take, ← HN.out]; omega
    obtain ⟨⟨av, cv, rfl⟩, _⟩ := id HOwn.out.row
    have hbw : Below w.heap.size w wr := HB1.out.trans (hbr.mono HB1.out.size)
    have cx0 := (hbr.cell (p := ⟨w.heap.size, 0, none⟩) (by simp only; omega)).trans HX1.out
    by_cases hlt : k < n
    · have hkl : k < l.length := by rw [← HN.out]; exact hlt
      obtain ⟨b, o, c', e', _, hb, hh⟩ := HGT.out (by omega)
      rw [← HN.out] at e'
      cases e'
      obtain ⟨vi, hvi, d0, d1, d2⟩ := hh k hkl
      replace d0 := (hbw.cell (p := ⟨b, o + k * 3, none⟩) (by simp only; omega)).trans d0
      replace d1 := (hbw.cell (p := ⟨b, o + k * 3 + 1, none⟩) (by simp only; omega)).trans d1
      replace d2 := (hbw.cell (p := ⟨b, o + k * 3 + 2, none⟩) (by simp only; omega)).trans d2
      have hsec := l13_section_any vi l[k] B wr (hvi.below hbw hB) (by omega) (HIT.out k hkl)
      replace hsec := hsec.mono (R' := fun e w' => ∃ a4 c4, e = .returned (.agg #[.slice a4 l[k].items.length c4, .bool l[k].grouped, .int .i64 l[k].scale]) ∧ RowG w' wr.heap.size 58 2 (.slice a4 l[k].items.length c4) l[k].items.length (itCells l[k].items) ∧ Below wr.heap.size wr w') (fun e w' hh => by
        obtain ⟨v4, e1, e2, e3⟩ := hh
        obtain ⟨⟨a4, c4, rfl⟩, _⟩ := id e2
        exact ⟨a4, c4, e1, e2, e3⟩)
      obtain ⟨ai, ci, rfl, _⟩ := hvi.form
      unfold secV at hsec
      have htk : l.take (k + 1) = l.take k ++ [l[k]] := List.take_succ_eq_append_getElem hkl
      have i1 : (k : Int) < (n : Int) := by omega
      have i2 : (k : Int) ≤ 1000 := by omega
      have HS := Lib.hid hsec; have HTK := Lib.hid htk
      have HBR := Lib.hid hbr
      rw [hkt]
      have hOwn := HOwn.out
      obtain ⟨xs, hxs⟩ : ∃ xs, xs = secCells vis (l.take k) := ⟨_, rfl⟩
      have HXS := Lib.hid hxs
      clear hh hsec htk hvi hxs
      go_wp2_with (first
        | (go_at_call 19; (with_reducible refine (HS.out).mono ?_); rintro e w4 ⟨a4, c4, rfl, hr4, hb4⟩; have hz4 := hb4.size; have HR4 := Lib.hid hr4; have HB4 := Lib.hid hb4; have hown := (hOwn.on hb4).row.2; rw [hkt] at hown; clear hr4)
        | (at_builtin; refine wpList_append_lies _ rfl _ _ 27 rfl W1.heap.size 36 i0 (.agg #[.slice none 0 0, .bool false, .int .i64 0]) 3 40 Tryd.underlying27 hi hi0 hi1 hi2 rfl (by decide) _ _ _ rfl ((hown.alloc _).alloc _) ⟨w4.heap.size + 1, 0, none⟩ 1 1 [.slice a4 l[k].items.length c4, .bool l[k].grouped, .int .i64 l[k].scale] rfl rfl (fun j u hj => (by have := cell_newG (w4.alloc (.cells #[.slice a4 l[k].items.length c4, .bool l[k].grouped, .int .i64 l[k].scale] 36)) [.slice a4 l[k].items.length c4, .bool l[k].grouped, .int .i64 l[k].scale] 36 j u hj; rw [World.size_alloc] at this; exact this)) (by simp [Value.oneCell']) (by decide) (by unfold maxLen; omega) (by omega) (by simp; omega) (w4.heap.size + 1 + 1) (by simp) ?_; intro g' cap' w5 hown5 hgrow hat hlt5))
      have hn4 : Below w4.heap.size w4 (w4.alloc (.cells #[.slice a4 l[k].items.length c4, .bool l[k].grouped, .int .i64 l[k].scale] 36)) := (Below.refl _ _).alloc (Nat.le_refl _) _
      have hz5 : (w4.alloc (.cells #[.slice a4 l[k].items.length c4, .bool l[k].grouped, .int .i64 l[k].scale] 36)).heap.size = w4.heap.size + 1 := World.size_alloc _ _
      have hob : (Value.slice av (l.take k).length cv).ownBlock = (Value.slice av k cv).ownBlock := by rw [hkt]
      have hpush := ((hOwn.on HB4.out).on hn4).push (x := l[k]) ((HR4.out.base (by omega)).on hn4) (fun j hj e => by have h1 := (HR4.out.lt hj).1; have h2 := (hOwn.row.lt e).2; omega) (by rw [hob]; exact hgrow)
        (v' := .slice (some ⟨g', 0, none⟩) (k + 1) cap') (by
          have hat2 : (Value.slice av k cv).ownBlock = some g' ∨ g' = w4.heap.size + 1 + 1 := hat
          rcases hat2 with e | e
          · left; rw [hob, e]; rfl
          · right; rw [World.size_alloc, hz5, e]; rfl)
        (RowG.of hown5 (by rw [hkt]) rfl)
      rw [← HTK.out] at hpush
      refine ⟨⟨k + 1, _, by omega, by go_num, Lib.hid hpush, ?_⟩, by simp [intOf]; omega⟩
      exact ((HBR.out.trans (HB4.out.mono hzr)).alloc (by omega) _ |>.alloc (by rw [hz5]; omega) _).grown hgrow (by rw [World.size_alloc, hz5]; omega) (fun j e => (hOwn.row.lt (by rw [hob]; exact e)).1)
    · have hkn : k = n := by omega
      subst hkn
      have hOwn := HOwn.out
      rw [List.take_of_length_le (by rw [← HN.out]; exact Nat.le_refl _)] at hOwn
      rw [hkt]
      go_wp2_with fail
      go_ret
      rw [List.take_of_length_le (by rw [← HN.out]; exact Nat.le_refl _)] at hkt
      refine ⟨_, vis, rfl, ?_, hbw⟩
      rw [hkt] at *
      exact hOwn.base (by omega)
end Go.Proofs.YticodcecillciaaDoor
