import Derived.Test.YtiglekomfgfilaaGreatDoorY19
import Derived.Test.YtiglekomfgfilaaGreatDoorY7
import Derived.Test.YtiglekomfgfilaaGreatDoorY17
import Derived.Deep.DeepCutAuto
namespace Go.Proofs.YtiglekomfgfilaaGreatDoor
set_option maxRecDepth 100000
set_option maxHeartbeats 1000000
set_option linter.all false
open Go.RowKit
attribute [local go_sem] Dc.Res.val
def RowK (w : World) (b : Nat) (l : List UInt8) : Prop :=
  b < w.heap.size ∧ ∀ (j : Nat) (c : UInt8), l[j]? = some c → w.cell? ⟨b, j, none⟩ = some (.int .u8 (c.toNat : Int)) ∧ w.frozen? ⟨b, j, none⟩ = false
theorem RowK.at {w : World} {b : Nat} {l : List UInt8} (h : RowK w b l) (j : Nat) (c : UInt8) (hc : l[j]? = some c) : w.cell? ⟨b, j, none⟩ = some (.int .u8 (c.toNat : Int)) ∧ w.frozen? ⟨b, j, none⟩ = false := h.2 j c hc
theorem RowK.set {w : World} {b : Nat} {l : List UInt8} (h : RowK w b l) (i : Nat) (c : UInt8) : RowK (w.setCell ⟨b, i, none⟩ (.int .u8 (c.toNat : Int))) b (l.set i c) := by
  refine ⟨by simpa using h.1, fun j d hd => ⟨?_, ?_⟩⟩
  · by_cases e : i = j
    · subst e
      have hl : i < l.length := by
        have := (List.getElem?_eq_some_iff.1 hd).1; simpa using this
      rw [List.getElem?_set_self hl] at hd
      rw [← Option.some.inj hd]
      exact World.cell?_setCell_same (h := (h.2 i _ (List.getElem?_eq_getElem hl)).1) ..
    · rw [List.getElem?_set_ne e] at hd
      rw [World.cell?_setCell_other (a := ⟨b, i, none⟩) (b := ⟨b, j, none⟩) (h := by simp [e])]
      exact (h.2 j d hd).1
  · rw [World.frozen?_setCell]
    have hj : j < l.length := by
      have := (List.getElem?_eq_some_iff.1 hd).1; simpa using this
    exact (h.2 j _ (List.getElem?_eq_getElem hj)).2
theorem RowK.made (w : World) (s : ByteArray) (cap n m : Nat) (hn : s.size ≤ n) : RowK (w.alloc (.cells (bytesRow s cap) 5 (n, m))) w.heap.size s.data.toList := by
  refine ⟨by simp, fun j c hc => ?_⟩
  have hj : j < s.size := by
    have := (List.getElem?_eq_some_iff.1 hc).1; simpa using this
  refine ⟨?_, ?_⟩
  · rw [World.cell?_alloc_mark, bytesRow, Array.getElem?_append_left (by simpa using hj)]
    rw [Array.getElem?_map]
    rw [Array.getElem?_toList] at hc
    rw [hc]; rfl
  · unfold World.frozen?; rw [heap_alloc_new]; simp; omega
theorem RowK.of_own {w : World} {base : Nat} {v : Value} {l : List UInt8} (h : w.ownsRow base 5 1 v l.length (l.map fun c => Value.int .u8 (c.toNat : Int))) (hl : 0 < l.length) : ∃ g cap, v = .slice (some ⟨g, 0, none⟩) l.length cap ∧ RowK w g l := by
  rcases h.2 with ⟨_, e⟩ | ⟨g, cap, cur, e, hb, hh, hrest⟩
  · omega
  · refine ⟨g, cap, e, (Array.getElem?_eq_some_iff.1 hh).1, fun j c hc => ?_⟩
    rw [e] at h
    have hj : j < l.length := (List.getElem?_eq_some_iff.1 hc).1
    refine ⟨?_, h.frozenAt j⟩
    rw [h.cellAt j (by omega), List.getElem?_map, hc]; rfl
theorem RowK.on {w w1 : World} {b : Nat} {l : List UInt8} (h : RowK w b l) (hb : Below w.heap.size w w1) : RowK w1 b l :=
  ⟨Nat.lt_of_lt_of_le h.1 hb.size, fun j c hc => ⟨(hb.cell (p := ⟨b, j, none⟩) h.1).trans (h.2 j c hc).1, (hb.frozen (p := ⟨b, j, none⟩) h.1).trans (h.2 j c hc).2⟩⟩
def KeptAt (W0 : World) (L : List UInt8) (a : Value) (wr : World) : Prop := ∃ b cap, a = .slice (some ⟨b, 0, none⟩) L.length cap ∧ Below W0.heap.size W0 wr ∧ RowK wr b L
theorem half_of (R : ByteArray) (h0 : 0 < R.size) : Dc.half R.data.toList = if (R.toList == [53]) = true then 0 else if 53 < (R[0].toNat : Int) ∨ (R[0].toNat : Int) = 53 ∧ 1 < (R.size : Int) then 1 else -1 := by
  have hl := bs_length R
  rw [toList_data, Dc.cons_of_bytes R h0, Dc.half_cases]
  have h1 : ((R.extract 1 R.size).data.toList = []) ↔ ¬ 1 < R.size := by
    rw [← List.length_eq_zero_iff, bs_length, ByteArray.size_extract]; omega
  have h2 : ((R[0] :: (R.extract 1 R.size).data.toList == [53]) = true) ↔ (R[0].toNat = 53 ∧ ¬ 1 < R.size) := by
    rw [beq_iff_eq, List.cons.injEq, h1]
    exact and_congr ⟨fun e => by rw [e]; rfl, fun e => UInt8.toNat_inj.1 (by simpa using e)⟩ Iff.rfl
  simp only [h1, h2]
  (repeat' split) <;> first | rfl | (exfalso; omega)
theorem up_of (n : Bool) (K R : ByteArray) (way : Int) (h0 : 0 < R.size) : Dc.up n K.data.toList R.data.toList way =
    if way = 0 then decide (0 < Dc.half R.data.toList) || (decide (Dc.half R.data.toList = 0) && Dc.odd K.data.toList)
    else if way = 1 then decide (0 ≤ Dc.half R.data.toList) else if way = 3 then true else if way = 4 then n else decide (way = 5) && !n := by
  rw [Dc.up, if_neg (Dc.ne_nil_of_bytes R h0)]
theorem r7_cut_any (n : Bool) (s : ByteArray) (x way : Int) (k : Nat) (w : World) (hs : s.size ≤ 1000000) (hd : Dc.allDig s.data.toList = true) (hx : -1000000 ≤ x ∧ x ≤ 1000000) (hk : k < s.size) (hw : 0 ≤ way ∧ way ≤ 5) :
    Calls Tryz.prog 60 #[.agg #[.bool n, .string s, .int .i64 x], .int .i64 k, .int .i64 way] w (RetB (Dc.cut n s.data.toList x k way).val w) := by
  obtain ⟨hx1, hx2⟩ := hx
  have hK : (s.extract 0 k).data.toList = s.data.toList.take k := by rw [Lib.extract_data, List.drop_zero, Nat.sub_zero]
  have hR : (s.extract k s.size).data.toList = s.data.toList.drop k := Lib.extract_to_end s k
  have hKz : (s.extract 0 k).size = k := by rw [ByteArray.size_extract]; omega
  have hRz : (s.extract k s.size).size = s.size - k := by rw [ByteArray.size_extract]; omega
  have hKd : Dc.allDig (s.extract 0 k).data.toList = true := by rw [hK]; exact Dc.dig_take hd k
  have hC : Dc.cut n s.data.toList x k way = Dc.mk n (if Dc.up n (s.extract 0 k).data.toList (s.extract k s.size).data.toList way = true then Dc.more (s.extract 0 k).data.toList else (s.extract 0 k).data.toList) (x + s.size - k) := by
    have e0 : (if (k : Int) < 0 then 48 :: s.data.toList else s.data.toList.drop (k : Int).toNat) = s.data.toList.drop k := by rw [if_neg (by omega), Int.toNat_natCast]
    unfold Dc.cut
    simp only [e0]
    rw [bs_length, hK, hR, Int.toNat_natCast]
  obtain ⟨K, hKe⟩ : ∃ K, K = s.extract 0 k := ⟨_, rfl⟩
  obtain ⟨R, hRe⟩ : ∃ R, R = s.extract k s.size := ⟨_, rfl⟩
  rw [← hKe] at hKd hC hKz
  rw [← hRe] at hC hRz
  obtain ⟨r, hr⟩ : ∃ r, r = (Dc.cut n s.data.toList x k way).val := ⟨_, rfl⟩
  rw [← hr]
  rw [hC] at hr
  have hsl : ∀ w : World, (Instr.slice 9 (.string s) none (some (.int .i64 k)) none).run Tryz.prog w = .ok (.string K) w := fun w => by
    rw [hKe, run_slice_string_to_if w _ s .i64 k Tryz.underlying9, if_pos (by omega), Int.toNat_natCast]
  have hsr : ∀ w : World, (Instr.slice 9 (.string s) (some (.int .i64 k)) none none).run Tryz.prog w = .ok (.string R) w := fun w => by
    rw [hRe, run_slice_string_from_if w _ s .i64 k Tryz.underlying9, if_pos (by omega), Int.toNat_natCast]
  have hcv : ∀ w : World, (convert 9 110 (.string K)).run Tryz.prog w = _ := fun w => run_bytes_of_string w 9 110 5 K Tryz.underlying9 Tryz.underlying110 Tryz.underlying5
  have HR := Lib.hid hr; have HKD := Lib.hid hKd; have HKZ := Lib.hid hKz; have HRZ := Lib.hid hRz
  clear hC hKe hRe hK hR hr hKd hKz hRz
  obtain ⟨u, hu⟩ : ∃ u, u = Dc.up n K.data.toList R.data.toList way := ⟨_, rfl⟩
  have hu0 := hu
  have HU0 := Lib.hid hu0; clear hu0
  obtain ⟨od, hod⟩ : ∃ o, o = Dc.odd K.data.toList := ⟨_, rfl⟩
  have hR0 : 0 < R.size := by have := HRZ.out; omega
  have hhf := half_of R hR0
  rw [up_of n K R way hR0] at hu
  obtain ⟨hf, hff⟩ : ∃ h, h = Dc.half R.data.toList := ⟨_, rfl⟩
  rw [← hff] at hhf hu
  rw [← hod] at hu
  have hRe := isEmpty_of_pos hR0
  have hRe' : (!R.toList.isEmpty) = true := by rw [hRe]; rfl
  have HU := Lib.hid hu; have HHF := Lib.hid hhf; have HOD := Lib.hid hod; clear hu hhf hff hod
  obtain ⟨kc, hkc⟩ : ∃ c, c = grownCap ((w.alloc (Obj.cells #[Value.bool n, Value.string s, Value.int IntKind.i64 x] 27)).alloc (Obj.cells #[Value.bool false, Value.string ⟨#[]⟩, Value.int IntKind.i64 0] 27)) K.size 0 5 := ⟨_, rfl⟩
  obtain ⟨W0, hW0⟩ : ∃ W : World, W = (w.alloc (Obj.cells #[Value.bool n, Value.string s, Value.int IntKind.i64 x] 27)).alloc (Obj.cells #[Value.bool false, Value.string ⟨#[]⟩, Value.int IntKind.i64 0] 27) := ⟨_, rfl⟩
  have hz0 : W0.heap.size = w.heap.size + 1 + 1 := by rw [hW0]; simp
  have hb0 : Below w.heap.size w W0 := by rw [hW0]; exact ((Below.refl _ _).alloc (Nat.le_refl _) _).alloc (by simp) _
  have c0 : W0.cell? ⟨w.heap.size, 0, none⟩ = some (.bool n) := by rw [hW0]; simp [go_sem]
  have c1 : ∀ o, W0.frozen? ⟨w.heap.size + 1, o, none⟩ = false := by rw [hW0]; intro o; simp [go_sem]
  have c2 : W0.cell? ⟨w.heap.size + 1, 0, none⟩ = some (.bool false) ∧ W0.cell? ⟨w.heap.size + 1, 1, none⟩ = some (.string ⟨#[]⟩) ∧ W0.cell? ⟨w.heap.size + 1, 2, none⟩ = some (.int .i64 0) := by rw [hW0]; simp [go_sem]
  have HW0 := Lib.hid hW0; have HB0 := Lib.hid hb0; have HKC := Lib.hid hkc; have HZ0 := Lib.hid hz0
  have HC0 := Lib.hid c0; have HC1 := Lib.hid c1; have HC2 := Lib.hid c2
  clear hb0 hkc hz0 c0 c1 c2 hW0
  go_enter Tryz.func60, Tryz.ntmps60
  go_upto_if 33 with (fail)
  go_cut [11] (fun a wr => a = .int .i64 hf ∧ Below W0.heap.size W0 wr ∧ RowK wr (w.heap.size + 1 + 1) K.data.toList)
  case first => as_aux_lemma =>
    have hwr : ∀ W1 : World, W1 = ((((w.alloc (Obj.cells #[Value.bool n, Value.string s, Value.int IntKind.i64 x] 27)).alloc (Obj.cells #[Value.bool false, Value.string ⟨#[]⟩, Value.int IntKind.i64 0] 27))).alloc (Obj.cells (bytesRow K kc) 5 ((bytesRow K kc).size, (bytesRow K kc).size + 1))).drew → Below W0.heap.size W0 W1 ∧ RowK W1 (w.heap.size + 1 + 1) K.data.toList := by
      intro W1 e
      rw [← HW0.out] at e
      rw [e, ← HZ0.out]
      refine ⟨((Below.refl _ _).alloc (Nat.le_refl _) _).drew, ?_⟩
      exact RowK.made W0 K kc _ _ (by simp [bytesRow])
    rw [HKC.out] at hwr
    have HWR := Lib.hid hwr; clear hwr
    go_wp2
    all_goals go_meet
    all_goals refine ⟨congrArg (Value.int .i64) ?_, HWR.out _ rfl⟩
    all_goals rw [HHF.out]
    all_goals first
      | (have hb : (R.toList == [53]) = true := by assumption
         rw [hb]; rfl)
      | (have hb : (R.toList == [53]) = false := by assumption
         have h1 : 53 < (R[0].toNat : Int) ∨ (R[0].toNat : Int) = 53 ∧ 1 < (R.size : Int) := by omega
         rw [hb, if_neg (by simp), if_pos h1])
      | (have hb : (R.toList == [53]) = false := by assumption
         have h1 : ¬ (53 < (R[0].toNat : Int) ∨ (R[0].toNat : Int) = 53 ∧ 1 < (R.size : Int)) := by omega
         rw [hb, if_neg (by simp), if_neg h1])
  case rest => as_aux_lemma =>
    obtain ⟨rfl, hbw, hrow⟩ := hcut
    have HBW := Lib.hid hbw; have HROW := Lib.hid hrow; clear hbw hrow
    have hr0 : wc.cell? ⟨w.heap.size, 0, none⟩ = some (.bool n) := by rw [(bcell HBW.out).1 _ _ (by rw [HZ0.out]; omega), HC0.out]
    go_upto_region 11 with (fail)
    go_cut [12] (fun a wr => a = .bool od ∧ wr = wc)
    case first => as_aux_lemma =>
      by_cases hk0 : 0 < k
      · have hkz := HKZ.out
        have hlast := Dc.odd_last K (by omega)
        rw [← HOD.out] at hlast
        have hcell := (HROW.out.at (k - 1) (K[K.size - 1]'(by omega)) (by rw [Dc.get?_bytes K (k - 1) (by omega)]; congr 2; omega)).1
        obtain ⟨c, hc⟩ : ∃ c, c = K[K.size - 1]'(by omega) := ⟨_, rfl⟩
        rw [← hc] at hcell hlast
        have HL := Lib.hid hlast; clear hlast hc
        have hk1 : k - 1 < K.size := by omega
        have HKZ2 := Lib.hid hkz; clear hkz
        go_wp2
        all_goals go_meet
        all_goals exact ⟨by rw [HL.out]; try simp, rfl⟩
      · have hko : Dc.odd K.data.toList = false := Dc.odd_nil (by rw [bs_length]; have := HKZ.out; omega)
        rw [← HOD.out] at hko
        have HL := Lib.hid hko; clear hko
        go_wp2
        all_goals go_meet
        all_goals exact ⟨by rw [HL.out]; try rfl, rfl⟩
    case rest => as_aux_lemma =>
      obtain ⟨rfl, hwc⟩ := hcut
      subst hwc
      go_upto_block 0 with (fail)
      go_cut [13] (fun a wr => a = .bool u ∧ wr = wc)
      case first => as_aux_lemma =>
        have hcase : way = 0 ∨ way = 1 ∨ way = 2 ∨ way = 3 ∨ way = 4 ∨ way = 5 := by omega
        have h3 : hf = -1 ∨ hf = 0 ∨ hf = 1 := by rw [HHF.out]; (repeat' split) <;> omega
        clear hw
        rcases h3 with rfl | rfl | rfl
        all_goals rcases hcase with rfl | rfl | rfl | rfl | rfl | rfl
        all_goals
          have hu := HU.out
          have HU2 := Lib.hid hu; clear hu
          go_wp2
        all_goals go_meet
        all_goals refine ⟨congrArg Value.bool ?_, rfl⟩
        all_goals rw [HU2.out]
        all_goals simp
      case rest => as_aux_lemma =>
        obtain ⟨rfl, hwc⟩ := hcut
        subst hwc
        have hcv : ∀ (L : List UInt8) (b m cap : Nat) (W : World), RowK W b L → L.length = m → (convert 110 9 (.slice (some ⟨b, 0, none⟩) m cap)).run Tryz.prog W = .ok (.string ⟨L.toArray⟩) W := by
          intro L b m cap W h hm
          subst hm
          refine run_convert_bytes_back W _ _ 5 ⟨b, 0, none⟩ cap L Tryz.underlying110 Tryz.underlying5 Tryz.underlying9 ?_
          intro j hj
          have ha : (⟨b, 0, none⟩ : Addr).add j = ⟨b, j, none⟩ := by
            unfold Addr.add
            split
            · rename_i e; subst e; rfl
            · simp
          rw [ha]; exact (h.at j _ (List.getElem?_eq_getElem hj)).1
        have HCV := Lib.hid hcv; clear hcv
        obtain ⟨L, hL⟩ : ∃ L, L = if u = true then Dc.more K.data.toList else K.data.toList := ⟨_, rfl⟩
        have HL := Lib.hid hL; clear hL
        have hLl : L.length ≤ 1000001 := by
          rw [HL.out]
          have := Dc.more_len K.data.toList
          have h2 := bs_length K
          have h3 := HKZ.out
          split <;> omega
        go_upto_region 24 with (fail)
        go_cut [91] (fun a wr => a = .bool u ∧ wr = wc)
        case first => as_aux_lemma =>
          cases u
          all_goals
            go_wp2
            go_meet
            exact ⟨rfl, rfl⟩
        obtain ⟨rfl, hwc⟩ := hcut
        subst hwc
        go_upto_if 91 with (fail)
        go_cut [9] (fun a wr => KeptAt W0 L a wr)
        case first => as_aux_lemma =>
          cases u with
          | false =>
            go_wp2
            go_meet
            have hll := HL.out
            rw [if_neg (by simp)] at hll
            exact ⟨_, _, by rw [hll, bs_length], HBW.out, by rw [hll]; exact HROW.out⟩
          | true =>
            obtain ⟨i0, hi, hz0, hz1, hz2⟩ := info_parts Tryz.infoU8
            have hkl : K.data.toList.length = k := by rw [bs_length, HKZ.out]
            have HKL := Lib.hid hkl; clear hkl
            have hll := HL.out
            rw [if_pos rfl] at hll
            have HLL := Lib.hid hll; clear hll hr0
            go_wp2_with fail
            go_loopw [14] (fun i wr => ∃ (j : Nat) (q : Int), j ≤ k ∧ i = .int .i64 q ∧ q = (j : Int) - 1 ∧ Below W0.heap.size W0 wr ∧ RowK wr (w.heap.size + 1 + 1) (Dc.rowAt K.data.toList j) ∧ (∀ c ∈ K.data.toList.drop j, c = 57)) (fun i _ => (intOf i + 1).toNat)
            case atStart => exact ⟨k, (k : Int) - 1, Nat.le_refl _, rfl, rfl, HBW.out, by have := HROW.out; rw [← HKL.out, Dc.rowAt_all]; exact this, by rw [← HKL.out, List.drop_length]; simp⟩
            case round =>
              obtain ⟨j, q, hj, rfl, hq, hbw, hrow, hall⟩ := hrel
              have HBW2 := Lib.hid hbw; have HROW2 := Lib.hid hrow; have HALL := Lib.hid hall; clear hbw hrow hall
              cases j with
              | zero =>
                obtain rfl : q = -1 := by omega
                clear hq
                go_upto_region 30 with (fail)
                have hnine := Dc.more_nines K.data.toList HALL.out
                have hcells : ∀ (j : Nat) (u : Value), ((Dc.rowAt K.data.toList 0).map fun c => Value.int .u8 (c.toNat : Int))[j]? = some u → wr.cell? ⟨w.heap.size + 1 + 1, j, none⟩ = some u := by
                  intro j u hu
                  rw [List.getElem?_map] at hu
                  cases hg : (Dc.rowAt K.data.toList 0)[j]? with
                  | none => rw [hg] at hu; cases hu
                  | some c => rw [hg] at hu; rw [(HROW2.out.at j c hg).1]; exact hu
                have hbl := HROW2.out.1
                have hadd : ∀ j : Nat, (⟨w.heap.size + 1 + 1, 0, none⟩ : Addr).add j = ⟨w.heap.size + 1 + 1, j, none⟩ := fun j => by
                  unfold Addr.add
                  split
                  · rename_i e; subst e; rfl
                  · simp
                have hnews : ∀ (o : Obj) (j : Nat) (u : Value), ((Dc.rowAt K.data.toList 0).map fun c => Value.int .u8 (c.toNat : Int))[j]? = some u → (wr.alloc o).cell? ((⟨w.heap.size + 1 + 1, 0, none⟩ : Addr).add j) = some u := fun o j u h => by
                  rw [hadd, World.cell?_alloc_old _ _ _ (Nat.ne_of_lt hbl)]; exact hcells j u h
                have hone : ∀ u ∈ (Dc.rowAt K.data.toList 0).map (fun c => Value.int .u8 (c.toNat : Int)), u.oneCell' = true := by
                  intro u hu
                  obtain ⟨c, _, rfl⟩ := List.mem_map.1 hu
                  rfl
                have hnl : ((Dc.rowAt K.data.toList 0).map fun c => Value.int .u8 (c.toNat : Int)).length = K.size * 1 := by
                  rw [List.length_map, Dc.rowAt_len _ _ (Nat.zero_le _), bs_length, Nat.mul_one]
                have hzz := HBW2.out.size
                have hz0' := HZ0.out
                have hkz := HKZ.out
                have hown := World.ownsRow_lit (base := W0.heap.size) (e := 5) (size := 1) wr #[.int .u8 49] 1 hzz (by unfold maxLen; omega) rfl
                have hb1 : 1 + K.size ≤ maxLen := by unfold maxLen; omega
                have hb2 : (1 + K.size) * 1 ≤ 140737488355328 := by omega
                have hb3 : W0.heap.size ≤ (wr.alloc (.cells #[.int .u8 49] 5)).heap.size := by simp; omega
                have HCL := Lib.hid hcells; have HNN := Lib.hid hnine; have HNW := Lib.hid hnews; have HONE := Lib.hid hone; have HNL := Lib.hid hnl; have HOWN := Lib.hid hown; have HZK := Lib.hid hkz; have HZZ := Lib.hid hz0'
                clear hcells hnine hnews hone hnl hown hkz hz0' hadd
                go_wp2_with (at_builtin; refine wpList_append_own _ rfl _ _ 110 rfl W0.heap.size 5 i0 (.int .u8 0) 1 1 Tryz.underlying110 hi hz0 hz1 hz2 rfl (by decide) _ 1 [.int .u8 49] rfl HOWN.out ⟨w.heap.size + 1 + 1, 0, none⟩ K.size _ ((Dc.rowAt K.data.toList 0).map fun c => Value.int .u8 (c.toNat : Int)) rfl HNL.out (HNW.out _) HONE.out hb1 hb2 hb3 ?_; intro v' w1 hown' hgrow hnil)
                have hlen : (49 :: Dc.rowAt K.data.toList 0).length = 1 + K.size := by rw [List.length_cons, Dc.rowAt_len _ _ (Nat.zero_le _), bs_length]; omega
                obtain ⟨g, cap, rfl, hrk⟩ := RowK.of_own (l := 49 :: Dc.rowAt K.data.toList 0) (by rw [hlen]; exact hown') (by simp)
                have hbB := (HBW2.out.alloc hzz (.cells #[.int .u8 49] 5)).grown hgrow hb3 (fun j e => (HOWN.out.lt j e).1)
                have hLe : L = 49 :: Dc.rowAt K.data.toList 0 := by rw [HLL.out, HNN.out]; simp [Dc.rowAt]
                have HRK := Lib.hid hrk; have HBB := Lib.hid hbB; have HLE := Lib.hid hLe; clear hown' hgrow hnil hlen hrk hbB hLe
                go_wp2
                go_meet
                exact ⟨g, cap, by rw [HLE.out], HBB.out, by rw [HLE.out]; exact HRK.out⟩
              | succ m =>
                obtain rfl : q = (m : Int) := by omega
                clear hq
                have hmk : m < k := by omega
                obtain ⟨c, hc⟩ : ∃ c, K.data.toList[m]? = some c := ⟨_, List.getElem?_eq_getElem (by rw [HKL.out]; omega)⟩
                have hcr : (Dc.rowAt K.data.toList (m + 1))[m]? = some c := by rw [Dc.rowAt_get _ _ _ (by rw [HKL.out]; omega) (by omega)]; exact hc
                obtain ⟨hcell, hfr⟩ := HROW2.out.at m c hcr
                have hcd := Dc.dig_mem HKD.out (List.mem_of_getElem? hc)
                obtain ⟨hcd1, hcd2⟩ := hcd
                have HC := Lib.hid hc; have HCR := Lib.hid hcr; clear hc hcr
                have hmK : m < K.size := by have := HKZ.out; omega
                by_cases h57 : (c.toNat : Int) = 57
                · have b57 : ((c.toNat : Int) == 57) = true := by simpa using h57
                  have H57 := Lib.hid h57; clear h57
                  go_wp2
                  go_roundw
                  case rel => exact ⟨m, (m : Int) - 1, by omega, by go_num, rfl, HBW2.out.setCell (by rw [HZ0.out]; simp) _, by
                    have h1 := HROW2.out.set m 48
                    have h2 := Dc.rowAt_set K.data.toList (m + 1) (by omega) (by rw [HKL.out]; omega)
                    rw [Nat.add_sub_cancel] at h2
                    rw [h2] at h1
                    exact h1, by
                    intro d hd
                    rw [List.drop_eq_getElem_cons (by rw [HKL.out]; omega)] at hd
                    rcases List.mem_cons.1 hd with e | e
                    · rw [e]
                      have h1 := HC.out
                      rw [List.getElem?_eq_getElem (by rw [HKL.out]; omega)] at h1
                      rw [Option.some.inj h1]; exact UInt8.toNat_inj.1 (by have := H57.out; simp; omega)
                    · exact HALL.out d e⟩
                  case measure => simp [intOf]
                · have b57 : ((c.toNat : Int) == 57) = false := by simpa using h57
                  have H57 := Lib.hid h57; clear h57
                  have hwr : IntKind.u8.wrap ((c.toNat : Int) + 1) = (c.toNat : Int) + 1 := IntWalk.u8_in _ (by omega)
                  go_wp2
                  go_meet
                  have h1 := HROW2.out.set m (c + 1)
                  have h2 := Dc.more_at K.data.toList (m + 1) (by omega) (by rw [HKL.out]; omega) HALL.out c (by simpa using HC.out) (fun e => H57.out (by rw [e]; rfl))
                  rw [Nat.add_sub_cancel] at h2
                  have h3 : ((c + 1).toNat : Int) = (c.toNat : Int) + 1 := by
                    have : (c + 1).toNat = c.toNat + 1 := by
                      have h3 := UInt8.toNat_add c 1
                      rw [h3]; simp; omega
                    omega
                  rw [h3] at h1
                  have hlen : L.length = K.size := by rw [HLL.out, h2, List.length_set, Dc.rowAt_len _ _ (by rw [HKL.out]; omega), bs_length]
                  exact ⟨w.heap.size + 1 + 1, _, by rw [hlen], HBW2.out.setCell (by rw [HZ0.out]; simp) _, by rw [HLL.out, h2]; exact h1⟩
        case rest => as_aux_lemma =>
          obtain ⟨b, cap, rfl, hbw, hrow⟩ := hcut
          have hr := HR.out
          rw [← HU0.out, ← HL.out] at hr
          have hmk : ∀ w, Calls Tryz.prog 24 #[.bool n, .string ⟨L.toArray⟩, .int .i64 (x + s.size - k)] w (RetB r w) := fun w => by
            rw [hr]; exact r7_make_any n ⟨L.toArray⟩ _ w (by rw [size_mk]; omega) (by omega)
          obtain ⟨q, hq⟩ : ∃ q : Dc.Res, r = q.val := ⟨_, hr⟩
          rw [hq] at hmk
          have HM := Lib.hid hmk; have HQ := Lib.hid hq; clear hr hmk hq
          have hconv := HCV.out L b L.length cap wc hrow rfl
          obtain ⟨hcc, hff⟩ := bcell hbw
          have hz := hbw.size
          rw [HZ0.out] at hz
          have g1 : ∀ o, wc.frozen? ⟨w.heap.size + 1, o, none⟩ = false := fun o => by rw [hff _ _ (by rw [HZ0.out]; omega)]; exact HC1.out o
          have g2 : wc.cell? ⟨w.heap.size + 1, 0, none⟩ = some (.bool false) ∧ wc.cell? ⟨w.heap.size + 1, 1, none⟩ = some (.string ⟨#[]⟩) ∧ wc.cell? ⟨w.heap.size + 1, 2, none⟩ = some (.int .i64 0) := by
            refine ⟨?_, ?_, ?_⟩ <;> rw [hcc _ _ (by rw [HZ0.out]; omega)]
            · exact HC2.out.1
            · exact HC2.out.2.1
            · exact HC2.out.2.2
          have hr0 : wc.cell? ⟨w.heap.size, 0, none⟩ = some (.bool n) := by rw [hcc _ _ (by rw [HZ0.out]; omega)]; exact HC0.out
          obtain ⟨g3, g4, g5⟩ := g2
          have HBW0 := Lib.hid (HB0.out.trans (hbw.mono (by rw [HZ0.out]; omega)))
          clear hbw hcc hff hrow
          go_wp2_with fail
          refine (HM.out wc).mono ?_
          rintro e w5 ⟨rfl, hb5⟩
          have hB5 := Lib.hid (HBW0.out.trans (hb5.mono (by omega)))
          obtain ⟨hcc, hff⟩ := bcell hb5
          have e1 := fun o => (hff (w.heap.size + 1) o (by omega)).trans (g1 o)
          have e2 := (hcc (w.heap.size + 1) 0 (by omega)).trans g3
          have e3 := (hcc (w.heap.size + 1) 1 (by omega)).trans g4
          have e4 := (hcc (w.heap.size + 1) 2 (by omega)).trans g5
          clear hcc hff g1 g3 g4 g5 hb5
          go_wp2
          (refine bodyPost_ret (v := Dc.Res.val q) (by (simp [results, Tryz.results60, go_sem, Dc.Res.val, e1, e2, e3, e4]; done)) rfl (RetB.of HQ.out.symm ?_))
          have := hB5.out
          (repeat (first | exact Below.refl _ _ | assumption | refine Below.setCell ?_ (by first | omega | (simp <;> omega)) _ | refine Below.alloc ?_ (by first | omega | (simp <;> omega)) _ | refine Below.drew ?_ | refine below_drewN' ?_ _))
end Go.Proofs.YtiglekomfgfilaaGreatDoor

namespace Go.Proofs.YtiglekomfgfilaaGreatDoor
set_option maxRecDepth 100000
set_option maxHeartbeats 1000000
set_option linter.all false
open Go.RowKit
attribute [local go_sem] Dc.Res.val
theorem r7_sig_any (n : Bool) (s : ByteArray) (x k way : Int) (w : World) (hs : s.size ≤ 1000000) (hx : -9223372036854775808 ≤ x ∧ x ≤ 9223372036854775807) (hk : -9223372036854775808 ≤ k ∧ k ≤ 9223372036854775807) :
    Calls Tryz.prog 23 #[.agg #[.bool n, .string s, .int .i64 x], .int .i64 k, .int .i64 way] w (RetB (Dc.sig n s.data.toList x k way).val w) := by
  obtain ⟨hk1, hk2⟩ := hk
  have hright := fun w => r7_right_any n s x w (by omega)
  by_cases hok : Dc.right s.data.toList x = true ∧ 0 ≤ way ∧ way ≤ 5 ∧ 1 ≤ k
  · obtain ⟨h0, h1, h2, h3⟩ := id hok
    have hdx := Dc.right_exp h0
    have hdd := Dc.right_dig h0
    rw [h0] at hright
    have HR := Lib.hid hright; have HO := Lib.hid hok; have HD := Lib.hid hdd; clear hright hok h0 hdd
    by_cases hl : (s.size : Int) ≤ k
    · have hm := sig_same (n := n) HO.out (by rw [bs_length]; exact hl)
      have HM := Lib.hid hm; clear hm
      go_enter Tryz.func23, Tryz.ntmps23
      go_wp2_with (go_at_call 59; (with_reducible refine (HR.out _).mono ?_); rintro e w1 ⟨rfl, hb_w1⟩; have hB_w1 : Below (w).heap.size (w) w1 := Below.trans (by (repeat (first | exact Below.refl _ _ | assumption | refine Below.setCell ?_ (by first | omega | (simp <;> omega)) _ | refine Below.alloc ?_ (by first | omega | (simp <;> omega)) _ | refine Below.drew ?_ | refine below_drewN' ?_ _))) (hb_w1.mono (by first | omega | (simp <;> omega))); obtain ⟨hc_w1, hf_w1⟩ := bcell hb_w1; have hz_w1 := hb_w1.size; (try simp only [zD, zN, zA, zS] at hz_w1); have hk := own6 hb_w1 (w.heap.size) (by (try simp only [zD, zN, zA, zS]); omega); obtain ⟨hl0_w1, hm0_w1, hn0_w1, hq0_w1, hr0_w1, hg0_w1⟩ := hk; have hk := own6 hb_w1 (w.heap.size + 1) (by (try simp only [zD, zN, zA, zS]); omega); obtain ⟨hl1_w1, hm1_w1, hn1_w1, hq1_w1, hr1_w1, hg1_w1⟩ := hk)
      (refine bodyPost_ret (v := .tuple #[.agg #[.bool n, .string s, .int .i64 x], .int .i64 0]) (by (simp [results, Tryz.results23, go_sem, hr0_w1, hl0_w1, hm0_w1, hn0_w1, hq0_w1, hr1_w1, hl1_w1, hm1_w1, hn1_w1, hq1_w1]; done)) rfl (RetB.of (congrArg Dc.Res.val HM.out).symm (by (repeat (first | exact Below.refl _ _ | assumption | refine Below.setCell ?_ (by first | omega | (simp <;> omega)) _ | refine Below.alloc ?_ (by first | omega | (simp <;> omega)) _ | refine Below.drew ?_ | refine below_drewN' ?_ _)))))
    · have hm := sig_cut (n := n) HO.out (by rw [bs_length]; exact hl)
      obtain ⟨m, rfl⟩ : ∃ m : Nat, k = m := ⟨k.toNat, by omega⟩
      have hcut := fun w => r7_cut_any n s x way m w hs HD.out (by omega) (by omega) ⟨h1, h2⟩
      rw [← hm] at hcut
      have HC := Lib.hid hcut; clear hm hcut
      go_enter Tryz.func23, Tryz.ntmps23
      go_wp2_with (first
        | (go_at_call 59; (with_reducible refine (HR.out _).mono ?_); rintro e w1 ⟨rfl, hb_w1⟩; have hB_w1 : Below (w).heap.size (w) w1 := Below.trans (by (repeat (first | exact Below.refl _ _ | assumption | refine Below.setCell ?_ (by first | omega | (simp <;> omega)) _ | refine Below.alloc ?_ (by first | omega | (simp <;> omega)) _ | refine Below.drew ?_ | refine below_drewN' ?_ _))) (hb_w1.mono (by first | omega | (simp <;> omega))); obtain ⟨hc_w1, hf_w1⟩ := bcell hb_w1; have hz_w1 := hb_w1.size; (try simp only [zD, zN, zA, zS] at hz_w1); have hk := own6 hb_w1 (w.heap.size) (by (try simp only [zD, zN, zA, zS]); omega); obtain ⟨hl0_w1, hm0_w1, hn0_w1, hq0_w1, hr0_w1, hg0_w1⟩ := hk; have hk := own6 hb_w1 (w.heap.size + 1) (by (try simp only [zD, zN, zA, zS]); omega); obtain ⟨hl1_w1, hm1_w1, hn1_w1, hq1_w1, hr1_w1, hg1_w1⟩ := hk)
        | (go_at_call 60; (with_reducible refine (HC.out _).mono ?_); rintro e w3 ⟨rfl, hb_w3⟩; have hB_w3 : Below (w).heap.size (w) w3 := Below.trans (by (repeat (first | exact Below.refl _ _ | assumption | refine Below.setCell ?_ (by first | omega | (simp <;> omega)) _ | refine Below.alloc ?_ (by first | omega | (simp <;> omega)) _ | refine Below.drew ?_ | refine below_drewN' ?_ _))) (hb_w3.mono (by first | omega | (simp <;> omega))); obtain ⟨hc_w3, hf_w3⟩ := bcell hb_w3; have hz_w3 := hb_w3.size; (try simp only [zD, zN, zA, zS] at hz_w3); have hk := own6 hb_w3 (w.heap.size) (by (try simp only [zD, zN, zA, zS]); omega); obtain ⟨hl0_w3, hm0_w3, hn0_w3, hq0_w3, hr0_w3, hg0_w3⟩ := hk; have hk := own6 hb_w3 (w.heap.size + 1) (by (try simp only [zD, zN, zA, zS]); omega); obtain ⟨hl1_w3, hm1_w3, hn1_w3, hq1_w3, hr1_w3, hg1_w3⟩ := hk))
      (refine bodyPost_ret (v := Dc.Res.val (Dc.sig n s.data.toList x m way)) (by (simp [results, Tryz.results23, go_sem, Dc.Res.val, hr0_w1, hl0_w1, hm0_w1, hn0_w1, hq0_w1, hr1_w1, hl1_w1, hm1_w1, hn1_w1, hq1_w1, hr0_w3, hl0_w3, hm0_w3, hn0_w3, hq0_w3, hr1_w3, hl1_w3, hm1_w3, hn1_w3, hq1_w3]; done)) rfl (RetB.of rfl (by (repeat (first | exact Below.refl _ _ | assumption | refine Below.setCell ?_ (by first | omega | (simp <;> omega)) _ | refine Below.alloc ?_ (by first | omega | (simp <;> omega)) _ | refine Below.drew ?_ | refine below_drewN' ?_ _)))))
  · have hm := sig_bad (n := n) hok
    obtain ⟨b, hb⟩ : ∃ b, b = Dc.right s.data.toList x := ⟨_, rfl⟩
    rw [← hb] at hright hok
    have HR := Lib.hid hright; have HM := Lib.hid hm; clear hright hm hb
    cases b
    · clear hok
      go_enter Tryz.func23, Tryz.ntmps23
      go_wp2_with (go_at_call 59; (with_reducible refine (HR.out _).mono ?_); rintro e w1 ⟨rfl, hb_w1⟩; have hB_w1 : Below (w).heap.size (w) w1 := Below.trans (by (repeat (first | exact Below.refl _ _ | assumption | refine Below.setCell ?_ (by first | omega | (simp <;> omega)) _ | refine Below.alloc ?_ (by first | omega | (simp <;> omega)) _ | refine Below.drew ?_ | refine below_drewN' ?_ _))) (hb_w1.mono (by first | omega | (simp <;> omega))); obtain ⟨hc_w1, hf_w1⟩ := bcell hb_w1; have hz_w1 := hb_w1.size; (try simp only [zD, zN, zA, zS] at hz_w1); have hk := own6 hb_w1 (w.heap.size) (by (try simp only [zD, zN, zA, zS]); omega); obtain ⟨hl0_w1, hm0_w1, hn0_w1, hq0_w1, hr0_w1, hg0_w1⟩ := hk; have hk := own6 hb_w1 (w.heap.size + 1) (by (try simp only [zD, zN, zA, zS]); omega); obtain ⟨hl1_w1, hm1_w1, hn1_w1, hq1_w1, hr1_w1, hg1_w1⟩ := hk)
      all_goals (refine bodyPost_ret (v := .tuple #[.agg #[.bool false, .string ⟨#[]⟩, .int .i64 0], .int .i64 1]) (by (simp [results, Tryz.results23, go_sem, hr0_w1, hl0_w1, hm0_w1, hn0_w1, hq0_w1, hr1_w1, hl1_w1, hm1_w1, hn1_w1, hq1_w1]; done)) rfl (RetB.of (congrArg Dc.Res.val HM.out).symm (by (repeat (first | exact Below.refl _ _ | assumption | refine Below.setCell ?_ (by first | omega | (simp <;> omega)) _ | refine Below.alloc ?_ (by first | omega | (simp <;> omega)) _ | refine Below.drew ?_ | refine below_drewN' ?_ _)))))
    · have hn : ¬ (0 ≤ way ∧ way ≤ 5 ∧ 1 ≤ k) := fun h => hok ⟨rfl, h⟩
      have HN := Lib.hid hn; clear hok hn
      go_enter Tryz.func23, Tryz.ntmps23
      go_wp2_with (go_at_call 59; (with_reducible refine (HR.out _).mono ?_); rintro e w1 ⟨rfl, hb_w1⟩; have hB_w1 : Below (w).heap.size (w) w1 := Below.trans (by (repeat (first | exact Below.refl _ _ | assumption | refine Below.setCell ?_ (by first | omega | (simp <;> omega)) _ | refine Below.alloc ?_ (by first | omega | (simp <;> omega)) _ | refine Below.drew ?_ | refine below_drewN' ?_ _))) (hb_w1.mono (by first | omega | (simp <;> omega))); obtain ⟨hc_w1, hf_w1⟩ := bcell hb_w1; have hz_w1 := hb_w1.size; (try simp only [zD, zN, zA, zS] at hz_w1); have hk := own6 hb_w1 (w.heap.size) (by (try simp only [zD, zN, zA, zS]); omega); obtain ⟨hl0_w1, hm0_w1, hn0_w1, hq0_w1, hr0_w1, hg0_w1⟩ := hk; have hk := own6 hb_w1 (w.heap.size + 1) (by (try simp only [zD, zN, zA, zS]); omega); obtain ⟨hl1_w1, hm1_w1, hn1_w1, hq1_w1, hr1_w1, hg1_w1⟩ := hk)
      all_goals first
        | (exfalso; exact HN.out (by omega))
        | (refine bodyPost_ret (v := .tuple #[.agg #[.bool false, .string ⟨#[]⟩, .int .i64 0], .int .i64 1]) (by (simp [results, Tryz.results23, go_sem, hr0_w1, hl0_w1, hm0_w1, hn0_w1, hq0_w1, hr1_w1, hl1_w1, hm1_w1, hn1_w1, hq1_w1]; done)) rfl (RetB.of (congrArg Dc.Res.val HM.out).symm (by (repeat (first | exact Below.refl _ _ | assumption | refine Below.setCell ?_ (by first | omega | (simp <;> omega)) _ | refine Below.alloc ?_ (by first | omega | (simp <;> omega)) _ | refine Below.drew ?_ | refine below_drewN' ?_ _)))))
end Go.Proofs.YtiglekomfgfilaaGreatDoor
