import Derived.Test.YtcbepojookbceaaDoorT37
import Derived.Test.YtcbepojookbceaaDoorBytes
namespace Go.Proofs.YtcbepojookbceaaDoor
set_option linter.all false
open Go.RowKit

theorem r11_digit_any (c : UInt8) (w : World) : Calls Tryd.prog 44 #[.int .u8 c.toNat] w (Ret0 (.bool (Dc.isDig c)) w) := by
  have h1 : (decide (48 ≤ (c.toNat : Int)) && decide ((c.toNat : Int) ≤ 57)) = Dc.isDig c := rfl
  have H1 := Lib.hid h1; clear h1
  by_cases h : 48 ≤ (c.toNat : Int)
  · go_enter Tryd.func44, Tryd.ntmps44
    go_wp2
    go_ret
    exact Ret0.of (by rw [← H1.out]; simp [h])
  · go_enter Tryd.func44, Tryd.ntmps44
    go_wp2
    go_ret
    exact Ret0.of (by rw [← H1.out, decide_eq_false (by omega)]; rfl)
theorem r11_digit_yes (c : UInt8) (h : Dc.isDig c = true) (w : World) : Calls Tryd.prog 44 #[.int .u8 c.toNat] w (Ret0 (.bool true) w) := by
  have := r11_digit_any c w; rwa [h] at this
theorem r11_digit_no (c : UInt8) (h : Dc.isDig c = false) (w : World) : Calls Tryd.prog 44 #[.int .u8 c.toNat] w (Ret0 (.bool false) w) := by
  have := r11_digit_any c w; rwa [h] at this

def comb (o : Dc.Bs) (m : Bool) (x : Option (Dc.Bs × Bool)) : Option (Dc.Bs × Bool) := x.map fun r => (o ++ r.1, m || r.2)
theorem scan_dig (g : Dc.Bs) (s : ByteArray) (i : Nat) (h : i < s.size) (hd : Dc.isDig s[i] = true) (o : Dc.Bs) (m : Bool) :
    comb o m (Lc.scan g (s.size - i) (s.data.toList.drop i)) = comb (o ++ [s[i]]) m (Lc.scan g (s.size - (i + 1)) (s.data.toList.drop (i + 1))) := by
  rw [Dc.drop_cons s i h, show s.size - i = s.size - (i + 1) + 1 by omega, Lc.scan, if_pos hd]
  unfold comb
  rw [Option.map_map]
  congr 1
  funext r
  simp
theorem scan_bad (g : Dc.Bs) (s : ByteArray) (i : Nat) (h : i < s.size) (hd : Dc.isDig s[i] = false) (hp : g.isPrefixOf (s.data.toList.drop i) = false) (o : Dc.Bs) (m : Bool) : comb o m (Lc.scan g (s.size - i) (s.data.toList.drop i)) = none := by
  rw [Dc.drop_cons s i h] at hp ⊢
  rw [show s.size - i = s.size - (i + 1) + 1 by omega, Lc.scan, if_neg (by rw [hd]; simp), if_neg (by rw [hp]; simp)]
  rfl
theorem scan_pref (g : Dc.Bs) (hg : g ≠ []) (s : ByteArray) (i : Nat) (h : i < s.size) (hd : Dc.isDig s[i] = false) (hp : g.isPrefixOf (s.data.toList.drop i) = true) (o : Dc.Bs) (m : Bool) :
    comb o m (Lc.scan g (s.size - i) (s.data.toList.drop i)) = comb o true (Lc.scan g (s.size - (i + g.length)) (s.data.toList.drop (i + g.length))) := by
  have hp2 : 0 < g.length := List.length_pos_iff.2 hg
  have e : (s[i] :: s.data.toList.drop (i + 1)).drop g.length = s.data.toList.drop (i + g.length) := by
    rw [← Dc.drop_cons s i h, List.drop_drop]
  rw [Dc.drop_cons s i h] at hp ⊢
  rw [show s.size - i = s.size - (i + 1) + 1 by omega, Lc.scan, if_neg (by rw [hd]; simp), if_pos hp, e]
  rw [Lc.scan_fuel g hg (s.size - (i + 1)) _ (by rw [List.length_drop, bs_length]; omega) (s.size - (i + g.length)) (by rw [List.length_drop, bs_length]; omega)]
  unfold comb
  rw [Option.map_map]
  congr 1
  funext r
  simp
theorem pref_iff (g : Dc.Bs) (s : ByteArray) (i : Nat) (h : i ≤ s.size) : g.isPrefixOf (s.data.toList.drop i) = true ↔ (i + g.length ≤ s.size ∧ (s.extract i (i + g.length)).data.toList = g) := by
  rw [List.isPrefixOf_iff_prefix, List.prefix_iff_eq_take, Lib.extract_data, show i + g.length - i = g.length by omega]
  constructor
  · intro e
    have hl := congrArg List.length e
    rw [List.length_take, List.length_drop, bs_length] at hl
    exact ⟨by omega, e.symm⟩
  · rintro ⟨_, e⟩; exact e.symm

theorem RowB.string_on {w w1 : World} {base : Nat} {a : Option Addr} {cap : Nat} {l : List UInt8} (h : RowB w base (.slice a l.length cap) l) (hl : 0 < l.length) (hb : Below w.heap.size w w1) :
    (convert 63 9 (.slice a l.length cap)).run Tryd.prog w1 = .ok (.string ⟨l.toArray⟩) w1 := by
  obtain ⟨g, cap', e, _, hgl⟩ := h.some hl
  simp only [Value.slice.injEq] at e
  obtain ⟨rfl, _, rfl⟩ := e
  refine run_convert_bytes_back w1 _ _ 5 ⟨g, 0, none⟩ cap l Tryd.underlying63 Tryd.underlying5 Tryd.underlying9 ?_
  intro j hj
  have h1 := h.2.cellAt j (by omega)
  have ha : (⟨g, 0, none⟩ : Addr).add j = ⟨g, j, none⟩ := by
    unfold Addr.add
    split
    · rename_i e; subst e; rfl
    · simp
  rw [ha, hb.cell (p := ⟨g, j, none⟩) hgl, h1]; simp [hj]

/-- What the reference tells of a text. -/
def told (z : Nat) (g s : Dc.Bs) (x : Option (Dc.Bs × Bool)) : Dc.Bs × Bool := match x with
  | none => ([], false)
  | some (o, m) => if o = [] ∨ (m = true ∧ Lc.grouped z g o ≠ s) then ([], false) else (o, true)

set_option maxRecDepth 100000 in
set_option maxHeartbeats 4000000 in
theorem r11_plain_any (l : Lc.Loc) (s : ByteArray) (w : World) (hs : s.size ≤ 22000) (hsh : Short l) (hg1 : 1 ≤ l.grp.length) (hgd : ∀ c, l.grp[0]? = some c → Dc.isDig c = false) :
    Calls Tryd.prog 15 #[RV l, .string s] w (RetB (.tuple #[tx (Lc.plainC l.second l.grp s.data.toList).1, .bool (Lc.plainC l.second l.grp s.data.toList).2]) w) := by
  obtain ⟨_, _, hsg, _, _⟩ := hsh
  have hgne : l.grp ≠ [] := fun e => by rw [e] at hg1; simp at hg1
  have hpl : Lc.plainC l.second l.grp s.data.toList = told l.second l.grp s.data.toList (Lc.scan l.grp s.size s.data.toList) := by
    rw [Lc.plain_scan _ _ _ hgne hgd, bs_length]; rfl
  rw [hpl]
  obtain ⟨tot, htot⟩ : ∃ t, t = Lc.scan l.grp s.size s.data.toList := ⟨_, rfl⟩
  rw [← htot]
  obtain ⟨r, hr⟩ : ∃ r : Value, r = .tuple #[tx (told l.second l.grp s.data.toList tot).1, .bool (told l.second l.grp s.data.toList tot).2] := ⟨_, rfl⟩
  rw [← hr]
  have hstart : tot = comb [] false (Lc.scan l.grp (s.size - 0) (s.data.toList.drop 0)) := by
    rw [htot, Nat.sub_zero, List.drop_zero]; unfold comb; cases Lc.scan l.grp s.size s.data.toList <;> simp
  obtain ⟨G, hG⟩ : ∃ v : ByteArray, v = ⟨l.grp.toArray⟩ := ⟨_, rfl⟩
  have hGz : G.size = l.grp.length := by rw [hG, size_mk]
  have hGd : G.data.toList = l.grp := by rw [hG]
  have hgw : ∀ (o : Dc.Bs) W, o.length ≤ 22000 → Calls Tryd.prog 18 #[RV l, .string ⟨o.toArray⟩] W (RetB (.string ⟨(Lc.grouped l.second l.grp o).toArray⟩) W) := fun o W h =>
    r11_grouped_any l ⟨o.toArray⟩ W (by rw [size_mk]; omega) hsg
  unfold RV tx at hgw ⊢
  obtain ⟨v0, hv0⟩ : ∃ v : ByteArray, v = ⟨l.name.toArray⟩ := ⟨_, rfl⟩
  obtain ⟨v1, hv1⟩ : ∃ v : ByteArray, v = ⟨l.dec.toArray⟩ := ⟨_, rfl⟩
  obtain ⟨v3, hv3⟩ : ∃ v : ByteArray, v = ⟨l.list.toArray⟩ := ⟨_, rfl⟩
  obtain ⟨v4, hv4⟩ : ∃ v : ByteArray, v = ⟨l.minus.toArray⟩ := ⟨_, rfl⟩
  obtain ⟨v6, hv6⟩ : ∃ v : ByteArray, v = ⟨l.cur.toArray⟩ := ⟨_, rfl⟩
  obtain ⟨f7, hf7⟩ : ∃ v, v = l.first := ⟨_, rfl⟩
  obtain ⟨f8, hf8⟩ : ∃ v, v = l.space := ⟨_, rfl⟩
  obtain ⟨k, hk⟩ : ∃ v : Int, v = (l.second : Int) := ⟨_, rfl⟩
  rw [← hv0, ← hv1, ← hG, ← hv3, ← hv4, ← hv6, ← hf7, ← hf8, ← hk] at hgw ⊢
  obtain ⟨i0, hi, hz0, hz1, hz2⟩ := info_parts Tryd.infoU8
  have hGb : 1 ≤ G.size ∧ G.size ≤ 10 := by omega
  obtain ⟨hGb1, hGb2⟩ := hGb
  have HR := Lib.hid hr; have HGW := Lib.hid hgw; have HST := Lib.hid hstart; have HGZ := Lib.hid hGz; have HGD := Lib.hid hGd; have HGNE := Lib.hid hgne
  clear hr hgw hstart hGz hGd hgne hG hv0 hv1 hv3 hv4 hv6 hf7 hf8 hk htot hpl hgd hg1 hsg
  go_enter Tryd.func15, Tryd.ntmps15
  go_wp2_with fail
  go_loopw [6, 7, 8] (fun v mm ii wr => ∃ (i : Nat) (o : Dc.Bs) (m : Bool), i ≤ s.size ∧ o.length ≤ i ∧ ii = .int .i64 i ∧ mm = .bool m ∧ tot = comb o m (Lc.scan l.grp (s.size - i) (s.data.toList.drop i)) ∧ RowB wr (w.heap.size + 1) v o ∧ Below (w.heap.size + 1) (w.alloc (.cells #[.string v0, .string v1, .string G, .string v3, .string v4, .string ⟨#[37]⟩, .string v6, .bool f7, .bool f8, .int .i64 k] 27)) wr) (fun _ _ ii _ => s.size - (intOf ii).toNat)
  case atStart => exact ⟨0, [], false, Nat.zero_le _, Nat.le_refl _, rfl, rfl, HST.out, RowB.nil _ _, Below.refl _ _⟩
  case round =>
    obtain ⟨i, o, m, hiz, hol, rfl, rfl, htt, hrow, hbw⟩ := hrel
    obtain ⟨q0, q1, q2, q3, q4, q5, q6, q7, q8, q9⟩ := box10 hbw
    have hbz := hbw.size
    simp only [World.size_alloc] at hbz
    have hbl : Below w.heap.size w wr := ((Below.refl _ _).alloc (Nat.le_refl _) _).trans (hbw.mono (by omega))
    have HTT := Lib.hid htt; have HBL := Lib.hid hbl; clear htt hbl
    by_cases hlt : i < s.size
    · by_cases hd : Dc.isDig s[i] = true
      · have hsc := scan_dig l.grp s i hlt hd o m
        have hdig := Lib.hid (r11_digit_yes s[i] hd)
        have HSC := Lib.hid hsc; clear hsc hd
        have hown := hrow.own
        clear q0 q1 q2 q3 q4 q5 q6 q7 q8 q9
        go_wp2_with (first
          | (go_at_call 44; (with_reducible refine (hdig.out _).mono ?_); rintro e w' ⟨rfl, rfl⟩)
          | (at_builtin; refine wpList_append_own _ rfl _ _ 63 rfl (w.heap.size + 1) 5 i0 (.int .u8 0) 1 1 Tryd.underlying63 hi hz0 hz1 hz2 rfl (by decide) _ _ _ rfl (hown.alloc _) ⟨wr.heap.size, 0, none⟩ 1 1 [.int .u8 (s[i].toNat : Int)] rfl rfl (cell_one_new _ _ _) (by simp [Value.oneCell']) (by unfold maxLen; omega) (by omega) (by simp; omega) ?_; intro v' w1 hown' hgrow hnil))
        have hrow' : RowB w1 (w.heap.size + 1) v' (o ++ [s[i]]) := RowB.of hown' (by simp) (by simp)
        have hbw' := (hbw.alloc (by omega) (.cells #[.int .u8 (s[i].toNat : Int)] 5)).grown hgrow (by simp; omega) (fun j e => (hown.lt j e).1)
        clear hown' hgrow hnil
        go_wp2
        go_roundw
        case rel => exact ⟨i + 1, o ++ [s[i]], m, by omega, by simp; omega, by go_num, rfl, by rw [← HSC.out]; exact HTT.out, hrow', hbw'⟩
        case measure => simp [intOf]; omega
      · have hdf : Dc.isDig s[i] = false := by simpa using hd
        have hdig := Lib.hid (r11_digit_no s[i] hdf)
        have hpi := pref_iff l.grp s i hiz
        rw [← HGZ.out, ← HGD.out] at hpi
        cases hpre : l.grp.isPrefixOf (s.data.toList.drop i) with
        | false =>
          have hbad := scan_bad l.grp s i hlt hdf hpre o m
          have hrr : r = .tuple #[.string ⟨#[]⟩, .bool false] := by rw [HR.out, HTT.out, hbad]; rfl
          have HRR := Lib.hid hrr
          rw [HGD.out, hpre] at hpi
          have hno : ¬ (i + G.size ≤ s.size ∧ (s.extract i (i + G.size)).data.toList = l.grp) := fun e => by have := hpi.2 e; cases this
          by_cases hfit : i + G.size ≤ s.size
          · obtain ⟨T, hT⟩ : ∃ T, T = s.extract i (i + G.size) := ⟨_, rfl⟩
            have hne : (T.toList == G.toList) = false := by
              rw [beq_eq_false_iff_ne, toList_data, toList_data, HGD.out, hT]; exact fun e => hno ⟨hfit, e⟩
            have hne2 : (T.toList != G.toList) = true := by rw [bne, hne]; rfl
            have hsl : ∀ w : World, (Instr.slice 9 (.string s) (some (.int .i64 i)) (some (.int .i64 ((i : Int) + G.size))) none).run Tryd.prog w = .ok (.string T) w := fun w => by
              rw [hT, run_slice_string_if w _ s .i64 .i64 i ((i : Int) + G.size) Tryd.underlying9, if_pos (by omega), if_pos (by omega)]; rfl
            have e5 : (i : Int) + G.size ≤ s.size := by omega
            have e6 : 0 ≤ (i : Int) + G.size := by omega
            have e7 : IntKind.i64.wrap ((i : Int) + G.size) = (i : Int) + G.size := IntWalk.i64_in _ (by omega)
            clear hpi hno hrr hbad hpre hdf hd hT
            go_wp2_with (go_at_call 44; (with_reducible refine (hdig.out _).mono ?_); rintro e w' ⟨rfl, rfl⟩)
            go_quiet (fail)
            clear e7
            go_wp2
            go_ret2
            exact RetB.of HRR.out.symm (below_drewN' HBL.out _)
          · have e5 : (s.size : Int) < i + G.size := by omega
            clear hpi hno hrr hbad hpre hdf hd hfit
            go_wp2_with (go_at_call 44; (with_reducible refine (hdig.out _).mono ?_); rintro e w' ⟨rfl, rfl⟩)
            go_quiet (fail)
            go_wp2
            go_ret2
            exact RetB.of HRR.out.symm (below_drewN' HBL.out _)
        | true =>
          have hok := scan_pref l.grp HGNE.out s i hlt hdf hpre o m
          rw [← HGZ.out] at hok
          obtain ⟨hfit, heq⟩ := (pref_iff l.grp s i hiz).1 hpre
          rw [← HGZ.out] at hfit heq
          obtain ⟨T, hT⟩ : ∃ T, T = s.extract i (i + G.size) := ⟨_, rfl⟩
          have hne : (T.toList == G.toList) = true := by
            rw [beq_iff_eq, toList_data, toList_data, HGD.out, hT]; exact heq
          have hne2 : (T.toList != G.toList) = false := by rw [bne, hne]; rfl
          have hsl : ∀ w : World, (Instr.slice 9 (.string s) (some (.int .i64 i)) (some (.int .i64 ((i : Int) + G.size))) none).run Tryd.prog w = .ok (.string T) w := fun w => by
            rw [hT, run_slice_string_if w _ s .i64 .i64 i ((i : Int) + G.size) Tryd.underlying9, if_pos (by omega), if_pos (by omega)]; rfl
          have e5 : (i : Int) + G.size ≤ s.size := by omega
          have e6 : 0 ≤ (i : Int) + G.size := by omega
          have e7 : IntKind.i64.wrap ((i : Int) + G.size) = (i : Int) + G.size := IntWalk.i64_in _ (by omega)
          have HOK := Lib.hid hok
          clear hpi heq hok hpre hdf hd hT
          go_wp2_with (go_at_call 44; (with_reducible refine (hdig.out _).mono ?_); rintro e w' ⟨rfl, rfl⟩)
          go_quiet (fail)
          clear e7
          go_wp2
          go_roundw
          case rel => exact ⟨i + G.size, o, true, by omega, by omega, by go_num, rfl, by rw [← HOK.out]; exact HTT.out, hrow, below_drewN' hbw _⟩
          case measure => simp [intOf]; omega
    · have hie : i = s.size := by omega
      have htot2 : tot = some (o, m) := by
        rw [HTT.out, hie, Nat.sub_self]
        cases s.data.toList.drop s.size <;> simp [Lc.scan, comb]
      have hrr := HR.out
      rw [htot2] at hrr
      obtain ⟨ad, cap, rfl⟩ := hrow.shape
      simp only [told] at hrr
      by_cases ho : o.length = 0
      · have ho2 : o = [] := List.length_eq_zero_iff.1 ho
        rw [if_pos (.inl ho2)] at hrr
        have e1 : ((o.length : Int) == 0) = true := beq_iff_eq.2 (by omega)
        have HRR := Lib.hid hrr; clear hrr htot2 ho ho2 hie
        go_wp2
        go_ret2
        exact RetB.of HRR.out.symm HBL.out
      · have ho2 : o ≠ [] := fun e => ho (by rw [e]; rfl)
        have e1 : ((o.length : Int) == 0) = false := beq_eq_false_iff_ne.2 (by omega)
        have hcv := fun W hb => hrow.string_on (w1 := W) (by omega) hb
        have hcv0 := hcv wr (Below.refl _ _)
        cases m with
        | false =>
          rw [if_neg (by rintro (e | ⟨e, _⟩); exact ho2 e; cases e)] at hrr
          have HRR := Lib.hid hrr; clear hrr htot2 ho ho2 hie hcv
          go_wp2
          go_ret2
          exact RetB.of HRR.out.symm HBL.out
        | true =>
          obtain ⟨Q, hQ⟩ : ∃ Q : ByteArray, Q = ⟨(Lc.grouped l.second l.grp o).toArray⟩ := ⟨_, rfl⟩
          have hg := fun W => HGW.out o W (by omega)
          rw [← hQ] at hg
          have HG := Lib.hid hg; have HCV := Lib.hid hcv
          by_cases hq : Q.toList = s.toList
          · have hq2 : Lc.grouped l.second l.grp o = s.data.toList := by rw [toList_data, toList_data] at hq; rw [← hq, hQ]
            rw [if_neg (by rintro (e | ⟨_, e⟩); exact ho2 e; exact e hq2)] at hrr
            have b1 : (Q.toList == s.toList) = true := by simpa using hq
            have HRR := Lib.hid hrr; clear hrr htot2 ho ho2 hie hcv hg hQ hq hq2
            go_wp2_with (go_at_call 18; (with_reducible refine (HG.out _).mono ?_); rintro e w5 ⟨rfl, hb5⟩; have hcv5 := HCV.out w5 hb5)
            all_goals go_ret2
            all_goals exact RetB.of HRR.out.symm (HBL.out.trans (hb5.mono (by omega)))
          · have hq2 : Lc.grouped l.second l.grp o ≠ s.data.toList := fun e => hq (by rw [toList_data, toList_data, hQ]; exact e)
            rw [if_pos (.inr ⟨rfl, hq2⟩)] at hrr
            have b1 : (Q.toList == s.toList) = false := by simpa using hq
            have HRR := Lib.hid hrr; clear hrr htot2 ho ho2 hie hcv hg hQ hq hq2
            go_wp2_with (go_at_call 18; (with_reducible refine (HG.out _).mono ?_); rintro e w5 ⟨rfl, hb5⟩; have hcv5 := HCV.out w5 hb5)
            all_goals go_ret2
            all_goals exact RetB.of HRR.out.symm (HBL.out.trans (hb5.mono (by omega)))
end Go.Proofs.YtcbepojookbceaaDoor
