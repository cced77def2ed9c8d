/- Patterns in the document: a pattern is written. (Printed by gen/mkd11.py.) -/
import Derived.Test.YticodcecillciaaDoorZ18
namespace Go.Proofs.YticodcecillciaaDoor
set_option linter.all false
open Go.RowKit

namespace Pa
/-- What has been written ahead of a section, without and with the semicolon. -/
def pj (l : List Sec) (i : Nat) : List UInt8 := Lib.join ((l.take i).map printS) [59]
def pk (l : List Sec) (i : Nat) : List UInt8 := pj l i ++ (if 0 < i then [59] else [])
theorem join_snoc (L : List (List UInt8)) (x : List UInt8) (h : 0 < L.length) : Lib.join (L ++ [x]) [59] = Lib.join L [59] ++ ([59] ++ x) := by
  induction L with
  | nil => simp at h
  | cons y L ih =>
    cases L with
    | nil => simp [Lib.join, List.intercalate]
    | cons z L =>
      have e1 : ∀ M : List (List UInt8), Lib.join (y :: z :: M) [59] = y ++ ([59] ++ Lib.join (z :: M) [59]) := fun M => by simp [Lib.join, List.intercalate]
      have := ih (by simp)
      rw [List.cons_append, List.cons_append, e1, e1, show z :: (L ++ [x]) = (z :: L) ++ [x] from rfl, this]
      simp
theorem pj_next (l : List Sec) (i : Nat) (h : i < l.length) : pj l (i + 1) = pk l i ++ printS l[i] := by
  unfold pk pj
  rw [List.take_succ_eq_append_getElem h, List.map_append]
  by_cases h0 : 0 < i
  · rw [if_pos h0, List.map_singleton, join_snoc _ _ (by rw [List.length_map, List.length_take]; omega)]
    simp
  · obtain rfl : i = 0 := by omega
    simp [Lib.join, List.intercalate]
theorem new_txt {O2 SG O3 : ByteArray} {A B S : List UInt8} (h2 : O2 = ⟨(A ++ B).toArray⟩) (hs : SG = ⟨S.toArray⟩) (h3 : O3 = O2 ++ SG ++ ⟨#[44]⟩) (T : List UInt8) : O3 ++ (⟨T.toArray⟩ : ByteArray) = ⟨(A ++ (B ++ (S ++ ([44] ++ T)))).toArray⟩ := by
  subst h3 h2 hs; apply ba_ext; simp [ByteArray.data_append]
theorem new_txt0 {O2 SG O3 : ByteArray} {A B S : List UInt8} (h2 : O2 = ⟨(A ++ B).toArray⟩) (hs : SG = ⟨S.toArray⟩) (h3 : O3 = O2 ++ SG) (T : List UInt8) : O3 ++ (⟨T.toArray⟩ : ByteArray) = ⟨(A ++ (B ++ (S ++ ([] ++ T)))).toArray⟩ := by
  subst h3 h2 hs; apply ba_ext; simp [ByteArray.data_append]
theorem app_nil (O : ByteArray) : O = O ++ ⟨(List.replicate 0 (44 : UInt8)).toArray⟩ := by apply ba_ext; simp [ByteArray.data_append]
theorem rep_size (u : Nat) : (⟨(List.replicate u (44 : UInt8)).toArray⟩ : ByteArray).size = u := by simp only [ByteArray.size, List.size_toArray, List.length_replicate]
theorem pj_zero (l : List Sec) : pj l 0 = [] := rfl
/-- The first pair of whole digits: whether it stands here, whether it stood before. -/
theorem pair_at (l : List It) (k : Nat) : (twoAt l k = true ∧ ¬ (0 ≤ pair l ∧ pair l < k)) ↔ pair l = k := by
  unfold pair
  cases e : (List.range l.length).find? (twoAt l) with
  | none =>
    simp only
    constructor
    · rintro ⟨h, _⟩
      have hl : k < l.length := by
        unfold twoAt at h
        rw [Bool.and_eq_true, decide_eq_true_iff] at h
        have := h.1
        have := cutAt_len [3, 5, 6] l
        unfold headN at *
        omega
      rw [List.find?_eq_none] at e
      exact absurd h (e k (List.mem_range.2 hl))
    · intro h; omega
  | some i =>
    simp only
    have hi := List.find?_some e
    constructor
    · rintro ⟨h, h2⟩
      have hl : k < l.length := by
        unfold twoAt at h
        rw [Bool.and_eq_true, decide_eq_true_iff] at h
        have := h.1
        have := cutAt_len [3, 5, 6] l
        unfold headN at *
        omega
      have hik : i ≤ k := by
        rw [List.find?_eq_some_iff_append] at e
        obtain ⟨_, xs, ys, e1, e2⟩ := e
        by_cases hc : k < xs.length
        · have hm : k ∈ xs := by
            have h3 := congrArg (·[k]?) e1
            simp only [List.getElem?_range hl, List.getElem?_append_left hc] at h3
            exact List.mem_of_getElem? h3.symm
          have := e2 k hm
          rw [h] at this; simp at this
        · have h3 := congrArg (·[xs.length]?) e1
          simp only [List.getElem?_append_right (Nat.le_refl _), Nat.sub_self, List.getElem?_cons_zero] at h3
          have := List.getElem?_eq_some_iff.1 h3
          obtain ⟨ha, hb⟩ := this
          rw [List.getElem_range] at hb
          omega
      omega
    · intro h
      obtain rfl : i = k := by omega
      exact ⟨hi, by omega⟩
end Pa

set_option maxRecDepth 100000 in
set_option maxHeartbeats 32000000 in
theorem r_print_right (l : List Pa.Sec) (v : Value) (B : Nat) (w : World) (h : SecsAt w B v l) (hB : B ≤ w.heap.size) (ht : Txt 1000000000 l) (hr : Pa.right l = true) :
    Calls Tryd.prog 14 #[v] w (RetB (.string ⟨(Pa.print l).toArray⟩) w) := by
  obtain ⟨h1, h4, _, _⟩ := right_parts hr
  have hit : ∀ k (h : k < l.length), l[k].items.length ≤ 1000000 := fun k hk => by have := (right_sec hr k hk).2; omega
  have hrt := fun (W : World) (hW : Below w.heap.size w W) => r_right_any l v B W (h.below hW hB) (Nat.le_trans hB hW.size) (by omega) hit ht
  rw [hr] at hrt
  have hres : Pa.print l = Pa.pj l l.length := by unfold Pa.print Pa.pj; rw [if_pos hr, List.take_length]
  obtain ⟨r, hrr⟩ : ∃ r : ByteArray, r = ⟨(Pa.print l).toArray⟩ := ⟨_, rfl⟩
  rw [← hrr]
  rw [hres] at hrr
  obtain ⟨b, o, c, rfl, hc, hb, hh⟩ := h.get (by omega)
  obtain ⟨n, hn⟩ : ∃ n, n = l.length := ⟨_, rfl⟩
  rw [← hn] at h1 h4 hrt hrr ⊢
  have hbw : b < w.heap.size := by omega
  have hsec : ∀ k (hk : k < l.length), l[k].items.length ≤ 100 ∧ (∀ j (hj : j < l[k].items.length), Pa.rightI l[k].items[j] = true) ∧ 0 ≤ l[k].scale ∧ l[k].scale ≤ 9 := fun k hk => by
    obtain ⟨a1, a2, a3⟩ := shape_parts (right_sec hr k hk).1
    exact ⟨(right_sec hr k hk).2, fun j hj => (List.all_eq_true.1 a1) _ (List.getElem_mem hj), a2, a3⟩
  have HH := Lib.hid hh; have HN := Lib.hid hn; have HRT := Lib.hid hrt; have HRR := Lib.hid hrr; have HSEC := Lib.hid hsec
  clear hh hn hrt hrr hres hit ht h hr hc hb hsec
  go_enter Tryd.func14, Tryd.ntmps14
  go_wp2_with (go_at_call 12; (with_reducible refine (HRT.out _ (by first | assumption | (repeat (first | exact Below.refl _ _ | assumption | refine Below.setCell ?_ (by first | omega | (simp <;> omega)) _ | refine Below.alloc ?_ (by first | omega | (simp <;> omega)) _ | refine Below.drew ?_ | refine below_drewN' ?_ _)))).mono ?_); rintro e w1 ⟨rfl, hb_w1⟩; have hB_w1 : Below w.heap.size w w1 := Below.next (by first | assumption | (repeat (first | exact Below.refl _ _ | assumption | refine Below.setCell ?_ (by first | omega | (simp <;> omega)) _ | refine Below.alloc ?_ (by first | omega | (simp <;> omega)) _ | refine Below.drew ?_ | refine below_drewN' ?_ _))) hb_w1)
  go_loopw [4, 5] (fun s i wr => ∃ (k : Nat) (O : ByteArray), k ≤ n ∧ i = .int .i64 (k : Int) ∧ s = .string O ∧ Hid (O = ⟨(Pa.pj l k).toArray⟩) ∧ O.size ≤ 2000 * k ∧ Below w.heap.size w wr) (fun _ i _ => n - (intOf i).toNat)
  case atStart => exact ⟨0, ⟨#[]⟩, Nat.zero_le _, rfl, rfl, Lib.hid (by rw [Pa.pj_zero]), by simp [ByteArray.size], hB_w1⟩
  case round =>
    obtain ⟨k, O, hk, rfl, rfl, HO, hOs, hbr⟩ := hrel
    have hzr := hbr.size
    by_cases hlt : k < n
    · have hkl : k < l.length := by rw [← HN.out]; exact hlt
      obtain ⟨vi, hvi, d0, d1, d2⟩ := HH.out k hkl
      obtain ⟨hl100, hright, hs0, hs9⟩ := HSEC.out k hkl
      have hend := fun (W : World) (hW : Below w.heap.size w W) => r_end_any vi l[k].items B W (hvi.below hW hB) (Nat.le_trans hB hW.size) (by omega)
      obtain ⟨ai, ci, rfl, _⟩ := hvi.form
      have hig := fun h0 => hvi.get h0
      have hpj := Pa.pj_next l k hkl
      have hpa := Pa.pre_all l[k]
      have hstep : ∀ j (hj : j < l[k].items.length), Pa.pre l[k] (j + 1) = Pa.pre l[k] j ++ (Pa.sign l[k].items[j] ++ ((if l[k].grouped = true ∧ Pa.pair l[k].items = j then [44] else []) ++ (if Pa.last l[k].items = j then List.replicate l[k].scale.toNat 44 else []))) := fun j hj => by
        rw [Pa.pre_next]; unfold Pa.printAt; rw [getElem!_pos l[k].items j hj]
      have hlst : Pa.last l[k].items = Pa.lastN l[k].items (Pa.headN l[k].items) := rfl
      have hhn := cutAt_le [3, 5, 6] l[k].items
      change Pa.headN l[k].items ≤ l[k].items.length at hhn
      have htwo : ∀ j, Pa.twoAt l[k].items j = (decide (j + 1 < Pa.headN l[k].items) && (decide (l[k].items[j]!.kind = 2) && decide (l[k].items[j + 1]!.kind = 2))) := fun j => rfl
      have hpat := Pa.pair_at l[k].items
      have hp0 : Pa.pre l[k] 0 = [] := rfl
      have hpk : Pa.pk l k = Pa.pj l k ++ (if 0 < k then [59] else []) := rfl
      rw [hpa] at hpj
      have hsg := fun (j : Nat) (hj : j < l[k].items.length) (W : World) => r_sign_any l[k].items[j] W (hright j hj) (by have := Pa.text_len (hright j hj); omega)
      have hsl : ∀ j (hj : j < l[k].items.length), (Pa.sign l[k].items[j]).length ≤ 7 := fun j hj => Pa.sign_len (hright j hj)
      clear hright hvi hpa
      generalize Pa.pre l[k] = PRE at hpj hstep hp0
      generalize l[k].grouped = g at hstep d1
      generalize l[k].scale = sc at hstep d2 hs0 hs9
      generalize l[k].items = L at *
      obtain ⟨q, rfl⟩ : ∃ q : Nat, sc = (q : Int) := ⟨sc.toNat, by omega⟩
      have hq9 : (q : Int) ≤ 9 := hs9
      obtain ⟨PV, hPV⟩ : ∃ x, x = Pa.pair L := ⟨_, rfl⟩
      obtain ⟨LV, hLV⟩ : ∃ x, x = Pa.last L := ⟨_, rfl⟩
      rw [← hPV] at hstep hpat
      rw [← hLV] at hstep hlst
      obtain ⟨m, hm⟩ : ∃ m, m = Pa.headN L := ⟨_, rfl⟩
      rw [← hm] at hend hlst hhn htwo
      obtain ⟨N, hNL⟩ : ∃ N, N = L.length := ⟨_, rfl⟩
      rw [← hNL] at hend hl100 hhn d0
      obtain ⟨PK, hPK⟩ : ∃ PK : ByteArray, PK = ⟨(Pa.pk l k).toArray⟩ := ⟨_, rfl⟩
      have hPKO : PK = if 0 < k then O ++ ⟨#[59]⟩ else O := by
        rw [hPK, hpk, HO.out]
        split
        · apply Pa.ba_ext; simp [ByteArray.data_append]
        · simp
      have hPKs : PK.size ≤ 2000 * k + 1 := by
        rw [hPKO]; split
        · rw [ByteArray.size_append]; have : (⟨#[59]⟩ : ByteArray).size = 1 := rfl; omega
        · omega
      have hfin : ∀ O2 : ByteArray, O2 = ⟨(Pa.pk l k ++ PRE N).toArray⟩ → O2 = ⟨(Pa.pj l (k + 1)).toArray⟩ := fun O2 e => by rw [e, hpj, hNL]
      have HSTEP := Lib.hid hstep; have HPAT := Lib.hid hpat; have HTWO := Lib.hid htwo; have HLST := Lib.hid hlst; have HEND := Lib.hid hend; have HSG := Lib.hid hsg; have HSL := Lib.hid hsl; have HIG := Lib.hid hig; have HNL := Lib.hid hNL; have HPK := Lib.hid hPK; have HFIN := Lib.hid hfin; have HP0 := Lib.hid hp0
      have i1 : (k : Int) < (n : Int) := by omega
      have i2 : (k : Int) ≤ 4 := by omega
      have i3 : O.size ≤ 10000 := by omega
      have i4 : PK.size ≤ 10000 := by omega
      have h44 : (⟨#[44]⟩ : ByteArray).size = 1 := rfl
      have HDC := Lib.hid (fun (W : World) (hW : Below w.heap.size w W) => (⟨(hW.cell (p := ⟨b, o + k * 3, none⟩) hbw).trans d0, (hW.cell (p := ⟨b, o + k * 3 + 1, none⟩) hbw).trans d1, (hW.cell (p := ⟨b, o + k * 3 + 2, none⟩) hbw).trans d2⟩ : W.cell? ⟨b, o + k * 3, none⟩ = some (.slice ai N ci) ∧ W.cell? ⟨b, o + k * 3 + 1, none⟩ = some (.bool g) ∧ W.cell? ⟨b, o + k * 3 + 2, none⟩ = some (.int .i64 (q : Int))))
      obtain ⟨c0, c1, c2⟩ := HDC.out wr hbr
      obtain ⟨wx, rfl⟩ : ∃ wx : World, wx = wr := ⟨_, rfl⟩
      clear hstep hpat htwo hlst hend hsg hsl hig hNL hPK hfin hp0 hpj hpk d0 d1 d2 hs0 hs9 hPV hLV hm
      have hstart : ∀ (Kk : Prop), True := fun _ => trivial
      by_cases hk0 : 0 < k
      · rw [if_pos hk0] at hPKO
        have j1 : (0 : Int) < (k : Int) := by omega
        have HPKO := Lib.hid hPKO
        clear hPKO
        go_wp2_with (go_at_call 33; (with_reducible refine (HEND.out _ (by first | assumption | (repeat (first | exact Below.refl _ _ | assumption | refine Below.setCell ?_ (by first | omega | (simp <;> omega)) _ | refine Below.alloc ?_ (by first | omega | (simp <;> omega)) _ | refine Below.drew ?_ | refine below_drewN' ?_ _)))).mono ?_); rintro e w5 ⟨rfl, hb_w5⟩; have hB_w5 : Below w.heap.size w w5 := Below.next (by first | assumption | (repeat (first | exact Below.refl _ _ | assumption | refine Below.setCell ?_ (by first | omega | (simp <;> omega)) _ | refine Below.alloc ?_ (by first | omega | (simp <;> omega)) _ | refine Below.drew ?_ | refine below_drewN' ?_ _))) hb_w5)
        rw [← HPKO.out]
        have hz5 := hB_w5.size
        obtain ⟨e0, e1, e2⟩ := HDC.out w5 hB_w5
        go_loopw [8, 9] (fun s i wr => ∃ j : Nat, j ≤ m ∧ i = .int .i64 (j : Int) ∧ s = .int .i64 (Pa.lastN L j) ∧ wr = w5) (fun _ i _ => m - (intOf i).toNat)
        case atStart => exact ⟨0, Nat.zero_le _, rfl, rfl, rfl⟩
        case round =>
          obtain ⟨j, hj, rfl, rfl, rfl⟩ := hrel
          by_cases hjm : j < m
          · have hjl : j < L.length := by have := HNL.out; omega
            obtain ⟨bi, oi, cc, ee, _, hbi, hhi⟩ := HIG.out (by omega)
            rw [← HNL.out] at ee
            cases ee
            obtain ⟨t0, _⟩ := hhi j hjl
            replace t0 := (hB_w5.cell (p := ⟨bi, oi + j * 2, none⟩) (by simp only; omega)).trans t0
            have hln := Pa.last_next L j hjl
            obtain ⟨K, hK⟩ : ∃ K, K = L[j].kind := ⟨_, rfl⟩
            rw [← hK] at t0 hln
            have q1 : (j : Int) < (m : Int) := by omega
            have q2 : (j : Int) ≤ 100 := by omega
            have q3 : (j : Int) < (N : Int) := by omega
            clear hhi hK
            by_cases hk2 : K = 2
            · subst hk2
              rw [if_pos rfl] at hln
              have HLN := Lib.hid hln; clear hln
              go_wp2_with fail
              go_roundw
              case rel => exact ⟨j + 1, by omega, by go_num, by rw [HLN.out], by first | trivial | rfl⟩
              case measure => simp [intOf]; omega
            · rw [if_neg hk2] at hln
              have hk2' : (K == 2) = false := beq_eq_false_iff_ne.2 hk2
              have HLN := Lib.hid hln; clear hln hk2
              go_wp2_with fail
              go_roundw
              case rel => exact ⟨j + 1, by omega, by go_num, by rw [HLN.out], by first | trivial | rfl⟩
              case measure => simp [intOf]; omega
          · have hjm2 : j = m := by omega
            have q1 : ¬ (j : Int) < (m : Int) := by omega
            have hlv : Pa.lastN L j = LV := by rw [HLST.out, hjm2]
            rw [hlv]
            clear hlv hjm2
            obtain ⟨wo, rfl⟩ : ∃ wo : World, wo = wr := ⟨_, rfl⟩
            go_wp2_with fail
            go_loopw [4, 10, 11] (fun s f i wr => ∃ (j : Nat) (O2 : ByteArray) (fl : Bool), j ≤ N ∧ i = .int .i64 (j : Int) ∧ s = .string O2 ∧ f = .bool fl ∧ Hid (O2 = ⟨(Pa.pk l k ++ PRE j).toArray⟩) ∧ O2.size ≤ 2000 * k + 1 + 17 * j ∧ Hid (fl = true ↔ (g = true ∧ 0 ≤ PV ∧ PV < j)) ∧ Below w.heap.size w wr) (fun _ _ i _ => N - (intOf i).toNat)
            case atStart => exact ⟨0, PK, false, Nat.zero_le _, rfl, rfl, rfl, Lib.hid (by rw [HPK.out, HP0.out, List.append_nil]), hPKs, Lib.hid (by first | (simp; done) | (simp; omega)), hB_w5⟩
            case round =>
              obtain ⟨t, O2, fl, htN, rfl, rfl, rfl, HO2, hO2s, HFL, hbt⟩ := hrel
              have hzt := hbt.size
              by_cases hltN : t < N
              · have htl : t < L.length := by rw [← HNL.out]; exact hltN
                obtain ⟨bi, oi, cc, ee, _, hbi, hhi⟩ := HIG.out (by omega)
                rw [← HNL.out] at ee
                cases ee
                have hig2 : ∀ W, Below w.heap.size w W → ∀ u (hu : u < L.length), W.cell? ⟨bi, oi + u * 2, none⟩ = some (.int .i64 L[u].kind) ∧ W.cell? ⟨bi, oi + u * 2 + 1, none⟩ = some (.string L[u].text) := fun W hW u hu =>
                  ⟨(hW.cell (p := ⟨bi, oi + u * 2, none⟩) (by simp only; omega)).trans (hhi u hu).1, (hW.cell (p := ⟨bi, oi + u * 2 + 1, none⟩) (by simp only; omega)).trans (hhi u hu).2⟩
                obtain ⟨x0, x1⟩ := hig2 wr hbt t htl
                have hsg := HSG.out t htl
                unfold itV at hsg
                have hst := HSTEP.out t htl
                have hslt := HSL.out t htl
                obtain ⟨SG, hSG⟩ : ∃ SG : ByteArray, SG = ⟨(Pa.sign L[t]).toArray⟩ := ⟨_, rfl⟩
                have hSGs : SG.size ≤ 7 := by rw [hSG]; simpa [ByteArray.size] using hslt
                rw [← hSG] at hsg
                have hfire : (g = true ∧ PV = (t : Int)) ↔ (g = true ∧ (fl = false ∧ (t + 1 < m ∧ (L[t]!.kind = 2 ∧ L[t + 1]!.kind = 2)))) := by
                  have h1 := HPAT.out t
                  have h2 := HFL.out
                  have h3 := HTWO.out t
                  constructor
                  · rintro ⟨hg, he⟩
                    obtain ⟨a1, a2⟩ := h1.2 he
                    rw [h3] at a1
                    simp only [Bool.and_eq_true, decide_eq_true_eq] at a1
                    refine ⟨hg, ?_, a1⟩
                    cases fl with
                    | false => rfl
                    | true => exact absurd (h2.1 rfl).2 a2
                  · rintro ⟨hg, hf, hh⟩
                    refine ⟨hg, h1.1 ⟨?_, fun hc => ?_⟩⟩
                    · rw [h3]; simp only [Bool.and_eq_true, decide_eq_true_eq]; exact hh
                    · have := h2.2 ⟨hg, hc⟩; rw [hf] at this; cases this
                have hflag : ∀ f2 : Bool, (f2 = true ↔ (fl = true ∨ (g = true ∧ PV = (t : Int)))) → (f2 = true ↔ (g = true ∧ 0 ≤ PV ∧ PV < ((t + 1 : Nat) : Int))) := fun f2 h2 => by
                  rw [h2, HFL.out]
                  constructor
                  · rintro (⟨a1, a2, a3⟩ | ⟨a1, a2⟩)
                    · exact ⟨a1, a2, by omega⟩
                    · exact ⟨a1, by omega, by omega⟩
                  · rintro ⟨a1, a2, a3⟩
                    by_cases hc : PV = (t : Int)
                    · exact .inr ⟨a1, hc⟩
                    · exact .inl ⟨a1, a2, by omega⟩
                rw [getElem!_pos L t htl] at hfire
                have p1 : (t : Int) < (N : Int) := by omega
                have p2 : (t : Int) ≤ 100 := by omega
                have p3 : O2.size ≤ 12000 := by omega
                have p4 : (m : Int) ≤ (N : Int) := by omega
                have HS := Lib.hid hsg; have HST := Lib.hid hst; have HSGE := Lib.hid hSG; have HFLAG := Lib.hid hflag; have HFIRE := Lib.hid hfire; have HIG2 := Lib.hid hig2
                clear hsg hst hslt hSG hflag hfire hig2 hhi
                have hcase : (g = true ∧ fl = false ∧ t + 1 < m ∧ L[t].kind = 2 ∧ L[t + 1]!.kind = 2) ∨ (g = false) ∨ (g = true ∧ fl = true) ∨ (g = true ∧ fl = false ∧ ¬ t + 1 < m) ∨ (g = true ∧ fl = false ∧ t + 1 < m ∧ ¬ L[t].kind = 2) ∨ (g = true ∧ fl = false ∧ t + 1 < m ∧ L[t].kind = 2 ∧ ¬ L[t + 1]!.kind = 2) := by
                  cases g <;> cases fl <;> simp <;> omega
                rcases hcase with ⟨rfl, rfl, hm1, hk1, hk2⟩ | hg | ⟨rfl, rfl⟩ | ⟨rfl, rfl, hm1⟩ | ⟨rfl, rfl, hm1, hk1⟩ | ⟨rfl, rfl, hm1, hk1, hk2⟩
                · -- the comma of the groups
                  have hyes : PV = (t : Int) := (HFIRE.out.2 ⟨rfl, rfl, hm1, hk1, hk2⟩).2
                  have hu : t + 1 < L.length := by have := HNL.out; omega
                  rw [getElem!_pos L (t + 1) hu] at hk2
                  have hst := HST.out
                  rw [if_pos ⟨rfl, hyes⟩] at hst
                  have HST2 := Lib.hid hst
                  have HF2 := Lib.hid (HFLAG.out true (by simp [hyes]))
                  have p5 : (t : Int) + 1 < (m : Int) := by omega
                  have p6 : (t : Int) + 1 < (N : Int) := by omega
                  rw [hk1] at x0
                  obtain ⟨TX, hTX⟩ : ∃ K, K = L[t].text := ⟨_, rfl⟩
                  rw [hk1, ← hTX] at HS
                  rw [← hTX] at x1
                  have hX : ∀ W, Below w.heap.size w W → W.cell? ⟨bi, oi + t * 2, none⟩ = some (.int .i64 2) ∧ W.cell? ⟨bi, oi + (t + 1) * 2, none⟩ = some (.int .i64 2) := fun W hW => by
                    have y0 := (HIG2.out W hW t htl).1
                    have y2 := (HIG2.out W hW (t + 1) hu).1
                    rw [hk1] at y0
                    rw [hk2] at y2
                    exact ⟨y0, y2⟩
                  have HX := Lib.hid hX
                  clear hX
                  clear hst hyes hk1 hk2 hTX HST
                  go_wp2_with (go_at_call 34; (with_reducible refine (HS.out _).mono ?_); rintro e w7 ⟨rfl, hb_w7⟩; have hB_w7 : Below w.heap.size w w7 := hbt.trans (hb_w7.mono hzt); obtain ⟨e0', e1', e2'⟩ := HDC.out w7 hB_w7; obtain ⟨y0, y2⟩ := HX.out w7 hB_w7)
                  have hO3s : (O2 ++ SG ++ ⟨#[44]⟩).size ≤ O2.size + 8 := by simp only [ByteArray.size_append, h44]; omega
                  obtain ⟨O3, hO3⟩ : ∃ O3, O3 = O2 ++ SG ++ ⟨#[44]⟩ := ⟨_, rfl⟩
                  rw [← hO3] at hO3s ⊢
                  have HNEW := Lib.hid (fun T => Pa.new_txt HO2.out HSGE.out hO3 T)
                  clear hO3
                  obtain ⟨wc, rfl⟩ : ∃ wc : World, wc = w7 := ⟨_, rfl⟩
                  go_loopw [4, 12] (fun s i wr => ∃ u : Nat, u ≤ (if (t : Int) = LV then q else 0) ∧ i = .int .i64 (u : Int) ∧ s = .string (O3 ++ ⟨(List.replicate u (44 : UInt8)).toArray⟩) ∧ wr = wc) (fun _ i _ => (if (t : Int) = LV then q else 0) - (intOf i).toNat)
                  case atStart => exact ⟨0, Nat.zero_le _, rfl, congrArg Value.string (Pa.app_nil O3), rfl⟩
                  case round =>
                    obtain ⟨u, hu, rfl, rfl, rfl⟩ := hrel
                    have hrs : (O3 ++ ⟨(List.replicate u (44 : UInt8)).toArray⟩).size = O3.size + u := by rw [ByteArray.size_append, Pa.rep_size]
                    by_cases hLVt : (t : Int) = LV
                    · rw [if_pos hLVt] at hu
                      have f2 : ((t : Int) == LV) = true := beq_iff_eq.2 hLVt
                      by_cases huq : u < q
                      · have z1 : (u : Int) < (q : Int) := by omega
                        have hrep : O3 ++ ⟨(List.replicate u (44 : UInt8)).toArray⟩ ++ ⟨#[44]⟩ = O3 ++ ⟨(List.replicate (u + 1) (44 : UInt8)).toArray⟩ := by apply Pa.ba_ext; simp [ByteArray.data_append, List.replicate_succ']
                        obtain ⟨O4, hO4⟩ : ∃ O4, O4 = O3 ++ ⟨(List.replicate u (44 : UInt8)).toArray⟩ := ⟨_, rfl⟩
                        rw [← hO4] at hrs hrep ⊢
                        have z3 : O4.size ≤ 13000 := by omega
                        have HREP := Lib.hid hrep
                        clear hrep hO4
                        go_wp2_with fail
                        go_roundw
                        case rel => exact ⟨u + 1, by rw [if_pos hLVt]; omega, by go_num, by rw [HREP.out], by first | trivial | rfl⟩
                        case measure => simp [intOf, hLVt]; omega
                      · have z1 : ¬ (u : Int) < (q : Int) := by omega
                        obtain rfl : u = q := by omega
                        have hst := HST2.out
                        rw [if_pos hLVt.symm, Int.toNat_natCast] at hst
                        have HO5 := Lib.hid (show O3 ++ ⟨(List.replicate u (44 : UInt8)).toArray⟩ = ⟨(Pa.pk l k ++ PRE (t + 1)).toArray⟩ from by rw [HNEW.out, hst])
                        obtain ⟨O4, hO4⟩ : ∃ O4, O4 = O3 ++ ⟨(List.replicate u (44 : UInt8)).toArray⟩ := ⟨_, rfl⟩
                        rw [← hO4] at hrs HO5 ⊢
                        clear hst hO4
                        go_wp2_with fail
                        go_roundw
                        case rel => exact ⟨t + 1, O4, true, by omega, by go_num, rfl, rfl, HO5, by omega, Lib.hid (by have := HF2.out; simpa using this), hB_w7⟩
                        case measure => simp [intOf]; omega
                    · rw [if_neg hLVt] at hu
                      have f2 : ((t : Int) == LV) = false := beq_eq_false_iff_ne.2 hLVt
                      obtain rfl : u = 0 := by omega
                      have hst := HST2.out
                      rw [if_neg (fun e => hLVt e.symm)] at hst
                      have HO5 := Lib.hid (show O3 ++ ⟨(List.replicate 0 (44 : UInt8)).toArray⟩ = ⟨(Pa.pk l k ++ PRE (t + 1)).toArray⟩ from by rw [HNEW.out, hst]; simp)
                      obtain ⟨O4, hO4⟩ : ∃ O4, O4 = O3 ++ ⟨(List.replicate 0 (44 : UInt8)).toArray⟩ := ⟨_, rfl⟩
                      rw [← hO4] at hrs HO5 ⊢
                      clear hst hO4
                      go_wp2_with fail
                      go_roundw
                      case rel => exact ⟨t + 1, O4, true, by omega, by go_num, rfl, rfl, HO5, by omega, Lib.hid (by have := HF2.out; simpa using this), hB_w7⟩
                      case measure => simp [intOf]; omega
                · subst hg
                  have hno : ¬ (false = true ∧ PV = (t : Int)) := fun hc => by cases hc.1
                  have hst := HST.out
                  rw [if_neg hno] at hst
                  have HST2 := Lib.hid hst
                  have HF2 := Lib.hid (HFLAG.out fl ⟨.inl, fun h => h.resolve_right hno⟩)
                  clear hst hno HST
                  go_wp2_with (go_at_call 34; (with_reducible refine (HS.out _).mono ?_); rintro e w7 ⟨rfl, hb_w7⟩; have hB_w7 : Below w.heap.size w w7 := hbt.trans (hb_w7.mono hzt); obtain ⟨e0', e1', e2'⟩ := HDC.out w7 hB_w7)
                  have hO3s : (O2 ++ SG).size ≤ O2.size + 8 := by simp only [ByteArray.size_append]; omega
                  obtain ⟨O3, hO3⟩ : ∃ O3, O3 = O2 ++ SG := ⟨_, rfl⟩
                  rw [← hO3] at hO3s ⊢
                  have HNEW := Lib.hid (fun T => Pa.new_txt0 HO2.out HSGE.out hO3 T)
                  clear hO3
                  obtain ⟨wc, rfl⟩ : ∃ wc : World, wc = w7 := ⟨_, rfl⟩
                  go_loopw [4, 12] (fun s i wr => ∃ u : Nat, u ≤ (if (t : Int) = LV then q else 0) ∧ i = .int .i64 (u : Int) ∧ s = .string (O3 ++ ⟨(List.replicate u (44 : UInt8)).toArray⟩) ∧ wr = wc) (fun _ i _ => (if (t : Int) = LV then q else 0) - (intOf i).toNat)
                  case atStart => exact ⟨0, Nat.zero_le _, rfl, congrArg Value.string (Pa.app_nil O3), rfl⟩
                  case round =>
                    obtain ⟨u, hu, rfl, rfl, rfl⟩ := hrel
                    have hrs : (O3 ++ ⟨(List.replicate u (44 : UInt8)).toArray⟩).size = O3.size + u := by rw [ByteArray.size_append, Pa.rep_size]
                    by_cases hLVt : (t : Int) = LV
                    · rw [if_pos hLVt] at hu
                      have f2 : ((t : Int) == LV) = true := beq_iff_eq.2 hLVt
                      by_cases huq : u < q
                      · have z1 : (u : Int) < (q : Int) := by omega
                        have hrep : O3 ++ ⟨(List.replicate u (44 : UInt8)).toArray⟩ ++ ⟨#[44]⟩ = O3 ++ ⟨(List.replicate (u + 1) (44 : UInt8)).toArray⟩ := by apply Pa.ba_ext; simp [ByteArray.data_append, List.replicate_succ']
                        obtain ⟨O4, hO4⟩ : ∃ O4, O4 = O3 ++ ⟨(List.replicate u (44 : UInt8)).toArray⟩ := ⟨_, rfl⟩
                        rw [← hO4] at hrs hrep ⊢
                        have z3 : O4.size ≤ 13000 := by omega
                        have HREP := Lib.hid hrep
                        clear hrep hO4
                        go_wp2_with fail
                        go_roundw
                        case rel => exact ⟨u + 1, by rw [if_pos hLVt]; omega, by go_num, by rw [HREP.out], by first | trivial | rfl⟩
                        case measure => simp [intOf, hLVt]; omega
                      · have z1 : ¬ (u : Int) < (q : Int) := by omega
                        obtain rfl : u = q := by omega
                        have hst := HST2.out
                        rw [if_pos hLVt.symm, Int.toNat_natCast] at hst
                        have HO5 := Lib.hid (show O3 ++ ⟨(List.replicate u (44 : UInt8)).toArray⟩ = ⟨(Pa.pk l k ++ PRE (t + 1)).toArray⟩ from by rw [HNEW.out, hst])
                        obtain ⟨O4, hO4⟩ : ∃ O4, O4 = O3 ++ ⟨(List.replicate u (44 : UInt8)).toArray⟩ := ⟨_, rfl⟩
                        rw [← hO4] at hrs HO5 ⊢
                        clear hst hO4
                        go_wp2_with fail
                        go_roundw
                        case rel => exact ⟨t + 1, O4, fl, by omega, by go_num, rfl, rfl, HO5, by omega, Lib.hid (by have := HF2.out; simpa using this), hB_w7⟩
                        case measure => simp [intOf]; omega
                    · rw [if_neg hLVt] at hu
                      have f2 : ((t : Int) == LV) = false := beq_eq_false_iff_ne.2 hLVt
                      obtain rfl : u = 0 := by omega
                      have hst := HST2.out
                      rw [if_neg (fun e => hLVt e.symm)] at hst
                      have HO5 := Lib.hid (show O3 ++ ⟨(List.replicate 0 (44 : UInt8)).toArray⟩ = ⟨(Pa.pk l k ++ PRE (t + 1)).toArray⟩ from by rw [HNEW.out, hst]; simp)
                      obtain ⟨O4, hO4⟩ : ∃ O4, O4 = O3 ++ ⟨(List.replicate 0 (44 : UInt8)).toArray⟩ := ⟨_, rfl⟩
                      rw [← hO4] at hrs HO5 ⊢
                      clear hst hO4
                      go_wp2_with fail
                      go_roundw
                      case rel => exact ⟨t + 1, O4, fl, by omega, by go_num, rfl, rfl, HO5, by omega, Lib.hid (by have := HF2.out; simpa using this), hB_w7⟩
                      case measure => simp [intOf]; omega
                · have hno : ¬ (true = true ∧ PV = (t : Int)) := fun hc => by have := (HFIRE.out.1 hc).2.1; cases this
                  have hst := HST.out
                  rw [if_neg hno] at hst
                  have HST2 := Lib.hid hst
                  have HF2 := Lib.hid (HFLAG.out true ⟨.inl, fun h => h.resolve_right hno⟩)
                  clear hst hno HST
                  go_wp2_with (go_at_call 34; (with_reducible refine (HS.out _).mono ?_); rintro e w7 ⟨rfl, hb_w7⟩; have hB_w7 : Below w.heap.size w w7 := hbt.trans (hb_w7.mono hzt); obtain ⟨e0', e1', e2'⟩ := HDC.out w7 hB_w7)
                  have hO3s : (O2 ++ SG).size ≤ O2.size + 8 := by simp only [ByteArray.size_append]; omega
                  obtain ⟨O3, hO3⟩ : ∃ O3, O3 = O2 ++ SG := ⟨_, rfl⟩
                  rw [← hO3] at hO3s ⊢
                  have HNEW := Lib.hid (fun T => Pa.new_txt0 HO2.out HSGE.out hO3 T)
                  clear hO3
                  obtain ⟨wc, rfl⟩ : ∃ wc : World, wc = w7 := ⟨_, rfl⟩
                  go_loopw [4, 12] (fun s i wr => ∃ u : Nat, u ≤ (if (t : Int) = LV then q else 0) ∧ i = .int .i64 (u : Int) ∧ s = .string (O3 ++ ⟨(List.replicate u (44 : UInt8)).toArray⟩) ∧ wr = wc) (fun _ i _ => (if (t : Int) = LV then q else 0) - (intOf i).toNat)
                  case atStart => exact ⟨0, Nat.zero_le _, rfl, congrArg Value.string (Pa.app_nil O3), rfl⟩
                  case round =>
                    obtain ⟨u, hu, rfl, rfl, rfl⟩ := hrel
                    have hrs : (O3 ++ ⟨(List.replicate u (44 : UInt8)).toArray⟩).size = O3.size + u := by rw [ByteArray.size_append, Pa.rep_size]
                    by_cases hLVt : (t : Int) = LV
                    · rw [if_pos hLVt] at hu
                      have f2 : ((t : Int) == LV) = true := beq_iff_eq.2 hLVt
                      by_cases huq : u < q
                      · have z1 : (u : Int) < (q : Int) := by omega
                        have hrep : O3 ++ ⟨(List.replicate u (44 : UInt8)).toArray⟩ ++ ⟨#[44]⟩ = O3 ++ ⟨(List.replicate (u + 1) (44 : UInt8)).toArray⟩ := by apply Pa.ba_ext; simp [ByteArray.data_append, List.replicate_succ']
                        obtain ⟨O4, hO4⟩ : ∃ O4, O4 = O3 ++ ⟨(List.replicate u (44 : UInt8)).toArray⟩ := ⟨_, rfl⟩
                        rw [← hO4] at hrs hrep ⊢
                        have z3 : O4.size ≤ 13000 := by omega
                        have HREP := Lib.hid hrep
                        clear hrep hO4
                        go_wp2_with fail
                        go_roundw
                        case rel => exact ⟨u + 1, by rw [if_pos hLVt]; omega, by go_num, by rw [HREP.out], by first | trivial | rfl⟩
                        case measure => simp [intOf, hLVt]; omega
                      · have z1 : ¬ (u : Int) < (q : Int) := by omega
                        obtain rfl : u = q := by omega
                        have hst := HST2.out
                        rw [if_pos hLVt.symm, Int.toNat_natCast] at hst
                        have HO5 := Lib.hid (show O3 ++ ⟨(List.replicate u (44 : UInt8)).toArray⟩ = ⟨(Pa.pk l k ++ PRE (t + 1)).toArray⟩ from by rw [HNEW.out, hst])
                        obtain ⟨O4, hO4⟩ : ∃ O4, O4 = O3 ++ ⟨(List.replicate u (44 : UInt8)).toArray⟩ := ⟨_, rfl⟩
                        rw [← hO4] at hrs HO5 ⊢
                        clear hst hO4
                        go_wp2_with fail
                        go_roundw
                        case rel => exact ⟨t + 1, O4, true, by omega, by go_num, rfl, rfl, HO5, by omega, Lib.hid (by have := HF2.out; simpa using this), hB_w7⟩
                        case measure => simp [intOf]; omega
                    · rw [if_neg hLVt] at hu
                      have f2 : ((t : Int) == LV) = false := beq_eq_false_iff_ne.2 hLVt
                      obtain rfl : u = 0 := by omega
                      have hst := HST2.out
                      rw [if_neg (fun e => hLVt e.symm)] at hst
                      have HO5 := Lib.hid (show O3 ++ ⟨(List.replicate 0 (44 : UInt8)).toArray⟩ = ⟨(Pa.pk l k ++ PRE (t + 1)).toArray⟩ from by rw [HNEW.out, hst]; simp)
                      obtain ⟨O4, hO4⟩ : ∃ O4, O4 = O3 ++ ⟨(List.replicate 0 (44 : UInt8)).toArray⟩ := ⟨_, rfl⟩
                      rw [← hO4] at hrs HO5 ⊢
                      clear hst hO4
                      go_wp2_with fail
                      go_roundw
                      case rel => exact ⟨t + 1, O4, true, by omega, by go_num, rfl, rfl, HO5, by omega, Lib.hid (by have := HF2.out; simpa using this), hB_w7⟩
                      case measure => simp [intOf]; omega
                · have hno : ¬ (true = true ∧ PV = (t : Int)) := fun hc => hm1 (HFIRE.out.1 hc).2.2.1
                  have p5 : ¬ (t : Int) + 1 < (m : Int) := by omega
                  have hst := HST.out
                  rw [if_neg hno] at hst
                  have HST2 := Lib.hid hst
                  have HF2 := Lib.hid (HFLAG.out false ⟨.inl, fun h => h.resolve_right hno⟩)
                  clear hst hno HST
                  go_wp2_with (go_at_call 34; (with_reducible refine (HS.out _).mono ?_); rintro e w7 ⟨rfl, hb_w7⟩; have hB_w7 : Below w.heap.size w w7 := hbt.trans (hb_w7.mono hzt); obtain ⟨e0', e1', e2'⟩ := HDC.out w7 hB_w7)
                  have hO3s : (O2 ++ SG).size ≤ O2.size + 8 := by simp only [ByteArray.size_append]; omega
                  obtain ⟨O3, hO3⟩ : ∃ O3, O3 = O2 ++ SG := ⟨_, rfl⟩
                  rw [← hO3] at hO3s ⊢
                  have HNEW := Lib.hid (fun T => Pa.new_txt0 HO2.out HSGE.out hO3 T)
                  clear hO3
                  obtain ⟨wc, rfl⟩ : ∃ wc : World, wc = w7 := ⟨_, rfl⟩
                  go_loopw [4, 12] (fun s i wr => ∃ u : Nat, u ≤ (if (t : Int) = LV then q else 0) ∧ i = .int .i64 (u : Int) ∧ s = .string (O3 ++ ⟨(List.replicate u (44 : UInt8)).toArray⟩) ∧ wr = wc) (fun _ i _ => (if (t : Int) = LV then q else 0) - (intOf i).toNat)
                  case atStart => exact ⟨0, Nat.zero_le _, rfl, congrArg Value.string (Pa.app_nil O3), rfl⟩
                  case round =>
                    obtain ⟨u, hu, rfl, rfl, rfl⟩ := hrel
                    have hrs : (O3 ++ ⟨(List.replicate u (44 : UInt8)).toArray⟩).size = O3.size + u := by rw [ByteArray.size_append, Pa.rep_size]
                    by_cases hLVt : (t : Int) = LV
                    · rw [if_pos hLVt] at hu
                      have f2 : ((t : Int) == LV) = true := beq_iff_eq.2 hLVt
                      by_cases huq : u < q
                      · have z1 : (u : Int) < (q : Int) := by omega
                        have hrep : O3 ++ ⟨(List.replicate u (44 : UInt8)).toArray⟩ ++ ⟨#[44]⟩ = O3 ++ ⟨(List.replicate (u + 1) (44 : UInt8)).toArray⟩ := by apply Pa.ba_ext; simp [ByteArray.data_append, List.replicate_succ']
                        obtain ⟨O4, hO4⟩ : ∃ O4, O4 = O3 ++ ⟨(List.replicate u (44 : UInt8)).toArray⟩ := ⟨_, rfl⟩
                        rw [← hO4] at hrs hrep ⊢
                        have z3 : O4.size ≤ 13000 := by omega
                        have HREP := Lib.hid hrep
                        clear hrep hO4
                        go_wp2_with fail
                        go_roundw
                        case rel => exact ⟨u + 1, by rw [if_pos hLVt]; omega, by go_num, by rw [HREP.out], by first | trivial | rfl⟩
                        case measure => simp [intOf, hLVt]; omega
                      · have z1 : ¬ (u : Int) < (q : Int) := by omega
                        obtain rfl : u = q := by omega
                        have hst := HST2.out
                        rw [if_pos hLVt.symm, Int.toNat_natCast] at hst
                        have HO5 := Lib.hid (show O3 ++ ⟨(List.replicate u (44 : UInt8)).toArray⟩ = ⟨(Pa.pk l k ++ PRE (t + 1)).toArray⟩ from by rw [HNEW.out, hst])
                        obtain ⟨O4, hO4⟩ : ∃ O4, O4 = O3 ++ ⟨(List.replicate u (44 : UInt8)).toArray⟩ := ⟨_, rfl⟩
                        rw [← hO4] at hrs HO5 ⊢
                        clear hst hO4
                        go_wp2_with fail
                        go_roundw
                        case rel => exact ⟨t + 1, O4, false, by omega, by go_num, rfl, rfl, HO5, by omega, Lib.hid (by have := HF2.out; simpa using this), hB_w7⟩
                        case measure => simp [intOf]; omega
                    · rw [if_neg hLVt] at hu
                      have f2 : ((t : Int) == LV) = false := beq_eq_false_iff_ne.2 hLVt
                      obtain rfl : u = 0 := by omega
                      have hst := HST2.out
                      rw [if_neg (fun e => hLVt e.symm)] at hst
                      have HO5 := Lib.hid (show O3 ++ ⟨(List.replicate 0 (44 : UInt8)).toArray⟩ = ⟨(Pa.pk l k ++ PRE (t + 1)).toArray⟩ from by rw [HNEW.out, hst]; simp)
                      obtain ⟨O4, hO4⟩ : ∃ O4, O4 = O3 ++ ⟨(List.replicate 0 (44 : UInt8)).toArray⟩ := ⟨_, rfl⟩
                      rw [← hO4] at hrs HO5 ⊢
                      clear hst hO4
                      go_wp2_with fail
                      go_roundw
                      case rel => exact ⟨t + 1, O4, false, by omega, by go_num, rfl, rfl, HO5, by omega, Lib.hid (by have := HF2.out; simpa using this), hB_w7⟩
                      case measure => simp [intOf]; omega
                · have hno : ¬ (true = true ∧ PV = (t : Int)) := fun hc => hk1 (HFIRE.out.1 hc).2.2.2.1
                  have p5 : (t : Int) + 1 < (m : Int) := by omega
                  obtain ⟨K, hK⟩ : ∃ K, K = L[t].kind := ⟨_, rfl⟩
                  obtain ⟨TX, hTX⟩ : ∃ K, K = L[t].text := ⟨_, rfl⟩
                  have hX : ∀ W, Below w.heap.size w W → W.cell? ⟨bi, oi + t * 2, none⟩ = some (.int .i64 K) := fun W hW => by rw [hK]; exact (HIG2.out W hW t htl).1
                  have HX := Lib.hid hX
                  clear hX
                  rw [← hK] at hk1 x0 HS
                  rw [← hTX] at x1 HS
                  have hk1b : (K == 2) = false := beq_eq_false_iff_ne.2 hk1
                  clear hk1 hK hTX
                  have hst := HST.out
                  rw [if_neg hno] at hst
                  have HST2 := Lib.hid hst
                  have HF2 := Lib.hid (HFLAG.out false ⟨.inl, fun h => h.resolve_right hno⟩)
                  clear hst hno HST
                  go_wp2_with (go_at_call 34; (with_reducible refine (HS.out _).mono ?_); rintro e w7 ⟨rfl, hb_w7⟩; have hB_w7 : Below w.heap.size w w7 := hbt.trans (hb_w7.mono hzt); obtain ⟨e0', e1', e2'⟩ := HDC.out w7 hB_w7; have y0 := HX.out w7 hB_w7)
                  have hO3s : (O2 ++ SG).size ≤ O2.size + 8 := by simp only [ByteArray.size_append]; omega
                  obtain ⟨O3, hO3⟩ : ∃ O3, O3 = O2 ++ SG := ⟨_, rfl⟩
                  rw [← hO3] at hO3s ⊢
                  have HNEW := Lib.hid (fun T => Pa.new_txt0 HO2.out HSGE.out hO3 T)
                  clear hO3
                  obtain ⟨wc, rfl⟩ : ∃ wc : World, wc = w7 := ⟨_, rfl⟩
                  go_loopw [4, 12] (fun s i wr => ∃ u : Nat, u ≤ (if (t : Int) = LV then q else 0) ∧ i = .int .i64 (u : Int) ∧ s = .string (O3 ++ ⟨(List.replicate u (44 : UInt8)).toArray⟩) ∧ wr = wc) (fun _ i _ => (if (t : Int) = LV then q else 0) - (intOf i).toNat)
                  case atStart => exact ⟨0, Nat.zero_le _, rfl, congrArg Value.string (Pa.app_nil O3), rfl⟩
                  case round =>
                    obtain ⟨u, hu, rfl, rfl, rfl⟩ := hrel
                    have hrs : (O3 ++ ⟨(List.replicate u (44 : UInt8)).toArray⟩).size = O3.size + u := by rw [ByteArray.size_append, Pa.rep_size]
                    by_cases hLVt : (t : Int) = LV
                    · rw [if_pos hLVt] at hu
                      have f2 : ((t : Int) == LV) = true := beq_iff_eq.2 hLVt
                      by_cases huq : u < q
                      · have z1 : (u : Int) < (q : Int) := by omega
                        have hrep : O3 ++ ⟨(List.replicate u (44 : UInt8)).toArray⟩ ++ ⟨#[44]⟩ = O3 ++ ⟨(List.replicate (u + 1) (44 : UInt8)).toArray⟩ := by apply Pa.ba_ext; simp [ByteArray.data_append, List.replicate_succ']
                        obtain ⟨O4, hO4⟩ : ∃ O4, O4 = O3 ++ ⟨(List.replicate u (44 : UInt8)).toArray⟩ := ⟨_, rfl⟩
                        rw [← hO4] at hrs hrep ⊢
                        have z3 : O4.size ≤ 13000 := by omega
                        have HREP := Lib.hid hrep
                        clear hrep hO4
                        go_wp2_with fail
                        go_roundw
                        case rel => exact ⟨u + 1, by rw [if_pos hLVt]; omega, by go_num, by rw [HREP.out], by first | trivial | rfl⟩
                        case measure => simp [intOf, hLVt]; omega
                      · have z1 : ¬ (u : Int) < (q : Int) := by omega
                        obtain rfl : u = q := by omega
                        have hst := HST2.out
                        rw [if_pos hLVt.symm, Int.toNat_natCast] at hst
                        have HO5 := Lib.hid (show O3 ++ ⟨(List.replicate u (44 : UInt8)).toArray⟩ = ⟨(Pa.pk l k ++ PRE (t + 1)).toArray⟩ from by rw [HNEW.out, hst])
                        obtain ⟨O4, hO4⟩ : ∃ O4, O4 = O3 ++ ⟨(List.replicate u (44 : UInt8)).toArray⟩ := ⟨_, rfl⟩
                        rw [← hO4] at hrs HO5 ⊢
                        clear hst hO4
                        go_wp2_with fail
                        go_roundw
                        case rel => exact ⟨t + 1, O4, false, by omega, by go_num, rfl, rfl, HO5, by omega, Lib.hid (by have := HF2.out; simpa using this), hB_w7⟩
                        case measure => simp [intOf]; omega
                    · rw [if_neg hLVt] at hu
                      have f2 : ((t : Int) == LV) = false := beq_eq_false_iff_ne.2 hLVt
                      obtain rfl : u = 0 := by omega
                      have hst := HST2.out
                      rw [if_neg (fun e => hLVt e.symm)] at hst
                      have HO5 := Lib.hid (show O3 ++ ⟨(List.replicate 0 (44 : UInt8)).toArray⟩ = ⟨(Pa.pk l k ++ PRE (t + 1)).toArray⟩ from by rw [HNEW.out, hst]; simp)
                      obtain ⟨O4, hO4⟩ : ∃ O4, O4 = O3 ++ ⟨(List.replicate 0 (44 : UInt8)).toArray⟩ := ⟨_, rfl⟩
                      rw [← hO4] at hrs HO5 ⊢
                      clear hst hO4
                      go_wp2_with fail
                      go_roundw
                      case rel => exact ⟨t + 1, O4, false, by omega, by go_num, rfl, rfl, HO5, by omega, Lib.hid (by have := HF2.out; simpa using this), hB_w7⟩
                      case measure => simp [intOf]; omega
                · have hu : t + 1 < L.length := by have := HNL.out; omega
                  have hno : ¬ (true = true ∧ PV = (t : Int)) := fun hc => hk2 (HFIRE.out.1 hc).2.2.2.2
                  rw [getElem!_pos L (t + 1) hu] at hk2
                  have p5 : (t : Int) + 1 < (m : Int) := by omega
                  have p6 : (t : Int) + 1 < (N : Int) := by omega
                  obtain ⟨TX, hTX⟩ : ∃ K, K = L[t].text := ⟨_, rfl⟩
                  obtain ⟨K, hK⟩ : ∃ K, K = L[t + 1].kind := ⟨_, rfl⟩
                  rw [hk1] at x0 HS
                  rw [← hTX] at x1 HS
                  have hX : ∀ W, Below w.heap.size w W → W.cell? ⟨bi, oi + t * 2, none⟩ = some (.int .i64 2) ∧ W.cell? ⟨bi, oi + (t + 1) * 2, none⟩ = some (.int .i64 K) := fun W hW => by
                    have y0 := (HIG2.out W hW t htl).1
                    have y2 := (HIG2.out W hW (t + 1) hu).1
                    rw [hk1] at y0
                    rw [← hK] at y2
                    exact ⟨y0, y2⟩
                  have HX := Lib.hid hX
                  clear hX
                  rw [← hK] at hk2
                  have hk2b : (K == 2) = false := beq_eq_false_iff_ne.2 hk2
                  clear hk1 hk2 hK hTX
                  have hst := HST.out
                  rw [if_neg hno] at hst
                  have HST2 := Lib.hid hst
                  have HF2 := Lib.hid (HFLAG.out false ⟨.inl, fun h => h.resolve_right hno⟩)
                  clear hst hno HST
                  go_wp2_with (go_at_call 34; (with_reducible refine (HS.out _).mono ?_); rintro e w7 ⟨rfl, hb_w7⟩; have hB_w7 : Below w.heap.size w w7 := hbt.trans (hb_w7.mono hzt); obtain ⟨e0', e1', e2'⟩ := HDC.out w7 hB_w7; obtain ⟨y0, y2⟩ := HX.out w7 hB_w7)
                  have hO3s : (O2 ++ SG).size ≤ O2.size + 8 := by simp only [ByteArray.size_append]; omega
                  obtain ⟨O3, hO3⟩ : ∃ O3, O3 = O2 ++ SG := ⟨_, rfl⟩
                  rw [← hO3] at hO3s ⊢
                  have HNEW := Lib.hid (fun T => Pa.new_txt0 HO2.out HSGE.out hO3 T)
                  clear hO3
                  obtain ⟨wc, rfl⟩ : ∃ wc : World, wc = w7 := ⟨_, rfl⟩
                  go_loopw [4, 12] (fun s i wr => ∃ u : Nat, u ≤ (if (t : Int) = LV then q else 0) ∧ i = .int .i64 (u : Int) ∧ s = .string (O3 ++ ⟨(List.replicate u (44 : UInt8)).toArray⟩) ∧ wr = wc) (fun _ i _ => (if (t : Int) = LV then q else 0) - (intOf i).toNat)
                  case atStart => exact ⟨0, Nat.zero_le _, rfl, congrArg Value.string (Pa.app_nil O3), rfl⟩
                  case round =>
                    obtain ⟨u, hu, rfl, rfl, rfl⟩ := hrel
                    have hrs : (O3 ++ ⟨(List.replicate u (44 : UInt8)).toArray⟩).size = O3.size + u := by rw [ByteArray.size_append, Pa.rep_size]
                    by_cases hLVt : (t : Int) = LV
                    · rw [if_pos hLVt] at hu
                      have f2 : ((t : Int) == LV) = true := beq_iff_eq.2 hLVt
                      by_cases huq : u < q
                      · have z1 : (u : Int) < (q : Int) := by omega
                        have hrep : O3 ++ ⟨(List.replicate u (44 : UInt8)).toArray⟩ ++ ⟨#[44]⟩ = O3 ++ ⟨(List.replicate (u + 1) (44 : UInt8)).toArray⟩ := by apply Pa.ba_ext; simp [ByteArray.data_append, List.replicate_succ']
                        obtain ⟨O4, hO4⟩ : ∃ O4, O4 = O3 ++ ⟨(List.replicate u (44 : UInt8)).toArray⟩ := ⟨_, rfl⟩
                        rw [← hO4] at hrs hrep ⊢
                        have z3 : O4.size ≤ 13000 := by omega
                        have HREP := Lib.hid hrep
                        clear hrep hO4
                        go_wp2_with fail
                        go_roundw
                        case rel => exact ⟨u + 1, by rw [if_pos hLVt]; omega, by go_num, by rw [HREP.out], by first | trivial | rfl⟩
                        case measure => simp [intOf, hLVt]; omega
                      · have z1 : ¬ (u : Int) < (q : Int) := by omega
                        obtain rfl : u = q := by omega
                        have hst := HST2.out
                        rw [if_pos hLVt.symm, Int.toNat_natCast] at hst
                        have HO5 := Lib.hid (show O3 ++ ⟨(List.replicate u (44 : UInt8)).toArray⟩ = ⟨(Pa.pk l k ++ PRE (t + 1)).toArray⟩ from by rw [HNEW.out, hst])
                        obtain ⟨O4, hO4⟩ : ∃ O4, O4 = O3 ++ ⟨(List.replicate u (44 : UInt8)).toArray⟩ := ⟨_, rfl⟩
                        rw [← hO4] at hrs HO5 ⊢
                        clear hst hO4
                        go_wp2_with fail
                        go_roundw
                        case rel => exact ⟨t + 1, O4, false, by omega, by go_num, rfl, rfl, HO5, by omega, Lib.hid (by have := HF2.out; simpa using this), hB_w7⟩
                        case measure => simp [intOf]; omega
                    · rw [if_neg hLVt] at hu
                      have f2 : ((t : Int) == LV) = false := beq_eq_false_iff_ne.2 hLVt
                      obtain rfl : u = 0 := by omega
                      have hst := HST2.out
                      rw [if_neg (fun e => hLVt e.symm)] at hst
                      have HO5 := Lib.hid (show O3 ++ ⟨(List.replicate 0 (44 : UInt8)).toArray⟩ = ⟨(Pa.pk l k ++ PRE (t + 1)).toArray⟩ from by rw [HNEW.out, hst]; simp)
                      obtain ⟨O4, hO4⟩ : ∃ O4, O4 = O3 ++ ⟨(List.replicate 0 (44 : UInt8)).toArray⟩ := ⟨_, rfl⟩
                      rw [← hO4] at hrs HO5 ⊢
                      clear hst hO4
                      go_wp2_with fail
                      go_roundw
                      case rel => exact ⟨t + 1, O4, false, by omega, by go_num, rfl, rfl, HO5, by omega, Lib.hid (by have := HF2.out; simpa using this), hB_w7⟩
                      case measure => simp [intOf]; omega
              · have htn : t = N := by omega
                subst htn
                have HO3 := Lib.hid (HFIN.out O2 HO2.out)
                have q9 : ¬ (t : Int) < (t : Int) := by omega
                go_wp2_with fail
                go_roundw
                case rel => exact ⟨k + 1, O2, by omega, by go_num, rfl, HO3, by omega, hbt⟩
                case measure => simp [intOf]; omega
      · rw [if_neg hk0] at hPKO
        have j1 : ¬ (0 : Int) < (k : Int) := by omega
        have HPKO := Lib.hid hPKO
        clear hPKO
        go_wp2_with (go_at_call 33; (with_reducible refine (HEND.out _ (by first | assumption | (repeat (first | exact Below.refl _ _ | assumption | refine Below.setCell ?_ (by first | omega | (simp <;> omega)) _ | refine Below.alloc ?_ (by first | omega | (simp <;> omega)) _ | refine Below.drew ?_ | refine below_drewN' ?_ _)))).mono ?_); rintro e w5 ⟨rfl, hb_w5⟩; have hB_w5 : Below w.heap.size w w5 := Below.next (by first | assumption | (repeat (first | exact Below.refl _ _ | assumption | refine Below.setCell ?_ (by first | omega | (simp <;> omega)) _ | refine Below.alloc ?_ (by first | omega | (simp <;> omega)) _ | refine Below.drew ?_ | refine below_drewN' ?_ _))) hb_w5)
        rw [← HPKO.out]
        have hz5 := hB_w5.size
        obtain ⟨e0, e1, e2⟩ := HDC.out w5 hB_w5
        go_loopw [8, 9] (fun s i wr => ∃ j : Nat, j ≤ m ∧ i = .int .i64 (j : Int) ∧ s = .int .i64 (Pa.lastN L j) ∧ wr = w5) (fun _ i _ => m - (intOf i).toNat)
        case atStart => exact ⟨0, Nat.zero_le _, rfl, rfl, rfl⟩
        case round =>
          obtain ⟨j, hj, rfl, rfl, rfl⟩ := hrel
          by_cases hjm : j < m
          · have hjl : j < L.length := by have := HNL.out; omega
            obtain ⟨bi, oi, cc, ee, _, hbi, hhi⟩ := HIG.out (by omega)
            rw [← HNL.out] at ee
            cases ee
            obtain ⟨t0, _⟩ := hhi j hjl
            replace t0 := (hB_w5.cell (p := ⟨bi, oi + j * 2, none⟩) (by simp only; omega)).trans t0
            have hln := Pa.last_next L j hjl
            obtain ⟨K, hK⟩ : ∃ K, K = L[j].kind := ⟨_, rfl⟩
            rw [← hK] at t0 hln
            have q1 : (j : Int) < (m : Int) := by omega
            have q2 : (j : Int) ≤ 100 := by omega
            have q3 : (j : Int) < (N : Int) := by omega
            clear hhi hK
            by_cases hk2 : K = 2
            · subst hk2
              rw [if_pos rfl] at hln
              have HLN := Lib.hid hln; clear hln
              go_wp2_with fail
              go_roundw
              case rel => exact ⟨j + 1, by omega, by go_num, by rw [HLN.out], by first | trivial | rfl⟩
              case measure => simp [intOf]; omega
            · rw [if_neg hk2] at hln
              have hk2' : (K == 2) = false := beq_eq_false_iff_ne.2 hk2
              have HLN := Lib.hid hln; clear hln hk2
              go_wp2_with fail
              go_roundw
              case rel => exact ⟨j + 1, by omega, by go_num, by rw [HLN.out], by first | trivial | rfl⟩
              case measure => simp [intOf]; omega
          · have hjm2 : j = m := by omega
            have q1 : ¬ (j : Int) < (m : Int) := by omega
            have hlv : Pa.lastN L j = LV := by rw [HLST.out, hjm2]
            rw [hlv]
            clear hlv hjm2
            obtain ⟨wo, rfl⟩ : ∃ wo : World, wo = wr := ⟨_, rfl⟩
            go_wp2_with fail
            go_loopw [4, 10, 11] (fun s f i wr => ∃ (j : Nat) (O2 : ByteArray) (fl : Bool), j ≤ N ∧ i = .int .i64 (j : Int) ∧ s = .string O2 ∧ f = .bool fl ∧ Hid (O2 = ⟨(Pa.pk l k ++ PRE j).toArray⟩) ∧ O2.size ≤ 2000 * k + 1 + 17 * j ∧ Hid (fl = true ↔ (g = true ∧ 0 ≤ PV ∧ PV < j)) ∧ Below w.heap.size w wr) (fun _ _ i _ => N - (intOf i).toNat)
            case atStart => exact ⟨0, PK, false, Nat.zero_le _, rfl, rfl, rfl, Lib.hid (by rw [HPK.out, HP0.out, List.append_nil]), hPKs, Lib.hid (by first | (simp; done) | (simp; omega)), hB_w5⟩
            case round =>
              obtain ⟨t, O2, fl, htN, rfl, rfl, rfl, HO2, hO2s, HFL, hbt⟩ := hrel
              have hzt := hbt.size
              by_cases hltN : t < N
              · have htl : t < L.length := by rw [← HNL.out]; exact hltN
                obtain ⟨bi, oi, cc, ee, _, hbi, hhi⟩ := HIG.out (by omega)
                rw [← HNL.out] at ee
                cases ee
                have hig2 : ∀ W, Below w.heap.size w W → ∀ u (hu : u < L.length), W.cell? ⟨bi, oi + u * 2, none⟩ = some (.int .i64 L[u].kind) ∧ W.cell? ⟨bi, oi + u * 2 + 1, none⟩ = some (.string L[u].text) := fun W hW u hu =>
                  ⟨(hW.cell (p := ⟨bi, oi + u * 2, none⟩) (by simp only; omega)).trans (hhi u hu).1, (hW.cell (p := ⟨bi, oi + u * 2 + 1, none⟩) (by simp only; omega)).trans (hhi u hu).2⟩
                obtain ⟨x0, x1⟩ := hig2 wr hbt t htl
                have hsg := HSG.out t htl
                unfold itV at hsg
                have hst := HSTEP.out t htl
                have hslt := HSL.out t htl
                obtain ⟨SG, hSG⟩ : ∃ SG : ByteArray, SG = ⟨(Pa.sign L[t]).toArray⟩ := ⟨_, rfl⟩
                have hSGs : SG.size ≤ 7 := by rw [hSG]; simpa [ByteArray.size] using hslt
                rw [← hSG] at hsg
                have hfire : (g = true ∧ PV = (t : Int)) ↔ (g = true ∧ (fl = false ∧ (t + 1 < m ∧ (L[t]!.kind = 2 ∧ L[t + 1]!.kind = 2)))) := by
                  have h1 := HPAT.out t
                  have h2 := HFL.out
                  have h3 := HTWO.out t
                  constructor
                  · rintro ⟨hg, he⟩
                    obtain ⟨a1, a2⟩ := h1.2 he
                    rw [h3] at a1
                    simp only [Bool.and_eq_true, decide_eq_true_eq] at a1
                    refine ⟨hg, ?_, a1⟩
                    cases fl with
                    | false => rfl
                    | true => exact absurd (h2.1 rfl).2 a2
                  · rintro ⟨hg, hf, hh⟩
                    refine ⟨hg, h1.1 ⟨?_, fun hc => ?_⟩⟩
                    · rw [h3]; simp only [Bool.and_eq_true, decide_eq_true_eq]; exact hh
                    · have := h2.2 ⟨hg, hc⟩; rw [hf] at this; cases this
                have hflag : ∀ f2 : Bool, (f2 = true ↔ (fl = true ∨ (g = true ∧ PV = (t : Int)))) → (f2 = true ↔ (g = true ∧ 0 ≤ PV ∧ PV < ((t + 1 : Nat) : Int))) := fun f2 h2 => by
                  rw [h2, HFL.out]
                  constructor
                  · rintro (⟨a1, a2, a3⟩ | ⟨a1, a2⟩)
                    · exact ⟨a1, a2, by omega⟩
                    · exact ⟨a1, by omega, by omega⟩
                  · rintro ⟨a1, a2, a3⟩
                    by_cases hc : PV = (t : Int)
                    · exact .inr ⟨a1, hc⟩
                    · exact .inl ⟨a1, a2, by omega⟩
                rw [getElem!_pos L t htl] at hfire
                have p1 : (t : Int) < (N : Int) := by omega
                have p2 : (t : Int) ≤ 100 := by omega
                have p3 : O2.size ≤ 12000 := by omega
                have p4 : (m : Int) ≤ (N : Int) := by omega
                have HS := Lib.hid hsg; have HST := Lib.hid hst; have HSGE := Lib.hid hSG; have HFLAG := Lib.hid hflag; have HFIRE := Lib.hid hfire; have HIG2 := Lib.hid hig2
                clear hsg hst hslt hSG hflag hfire hig2 hhi
                have hcase : (g = true ∧ fl = false ∧ t + 1 < m ∧ L[t].kind = 2 ∧ L[t + 1]!.kind = 2) ∨ (g = false) ∨ (g = true ∧ fl = true) ∨ (g = true ∧ fl = false ∧ ¬ t + 1 < m) ∨ (g = true ∧ fl = false ∧ t + 1 < m ∧ ¬ L[t].kind = 2) ∨ (g = true ∧ fl = false ∧ t + 1 < m ∧ L[t].kind = 2 ∧ ¬ L[t + 1]!.kind = 2) := by
                  cases g <;> cases fl <;> simp <;> omega
                rcases hcase with ⟨rfl, rfl, hm1, hk1, hk2⟩ | hg | ⟨rfl, rfl⟩ | ⟨rfl, rfl, hm1⟩ | ⟨rfl, rfl, hm1, hk1⟩ | ⟨rfl, rfl, hm1, hk1, hk2⟩
                · -- the comma of the groups
                  have hyes : PV = (t : Int) := (HFIRE.out.2 ⟨rfl, rfl, hm1, hk1, hk2⟩).2
                  have hu : t + 1 < L.length := by have := HNL.out; omega
                  rw [getElem!_pos L (t + 1) hu] at hk2
                  have hst := HST.out
                  rw [if_pos ⟨rfl, hyes⟩] at hst
                  have HST2 := Lib.hid hst
                  have HF2 := Lib.hid (HFLAG.out true (by simp [hyes]))
                  have p5 : (t : Int) + 1 < (m : Int) := by omega
                  have p6 : (t : Int) + 1 < (N : Int) := by omega
                  rw [hk1] at x0
                  obtain ⟨TX, hTX⟩ : ∃ K, K = L[t].text := ⟨_, rfl⟩
                  rw [hk1, ← hTX] at HS
                  rw [← hTX] at x1
                  have hX : ∀ W, Below w.heap.size w W → W.cell? ⟨bi, oi + t * 2, none⟩ = some (.int .i64 2) ∧ W.cell? ⟨bi, oi + (t + 1) * 2, none⟩ = some (.int .i64 2) := fun W hW => by
                    have y0 := (HIG2.out W hW t htl).1
                    have y2 := (HIG2.out W hW (t + 1) hu).1
                    rw [hk1] at y0
                    rw [hk2] at y2
                    exact ⟨y0, y2⟩
                  have HX := Lib.hid hX
                  clear hX
                  clear hst hyes hk1 hk2 hTX HST
                  go_wp2_with (go_at_call 34; (with_reducible refine (HS.out _).mono ?_); rintro e w7 ⟨rfl, hb_w7⟩; have hB_w7 : Below w.heap.size w w7 := hbt.trans (hb_w7.mono hzt); obtain ⟨e0', e1', e2'⟩ := HDC.out w7 hB_w7; obtain ⟨y0, y2⟩ := HX.out w7 hB_w7)
                  have hO3s : (O2 ++ SG ++ ⟨#[44]⟩).size ≤ O2.size + 8 := by simp only [ByteArray.size_append, h44]; omega
                  obtain ⟨O3, hO3⟩ : ∃ O3, O3 = O2 ++ SG ++ ⟨#[44]⟩ := ⟨_, rfl⟩
                  rw [← hO3] at hO3s ⊢
                  have HNEW := Lib.hid (fun T => Pa.new_txt HO2.out HSGE.out hO3 T)
                  clear hO3
                  obtain ⟨wc, rfl⟩ : ∃ wc : World, wc = w7 := ⟨_, rfl⟩
                  go_loopw [4, 12] (fun s i wr => ∃ u : Nat, u ≤ (if (t : Int) = LV then q else 0) ∧ i = .int .i64 (u : Int) ∧ s = .string (O3 ++ ⟨(List.replicate u (44 : UInt8)).toArray⟩) ∧ wr = wc) (fun _ i _ => (if (t : Int) = LV then q else 0) - (intOf i).toNat)
                  case atStart => exact ⟨0, Nat.zero_le _, rfl, congrArg Value.string (Pa.app_nil O3), rfl⟩
                  case round =>
                    obtain ⟨u, hu, rfl, rfl, rfl⟩ := hrel
                    have hrs : (O3 ++ ⟨(List.replicate u (44 : UInt8)).toArray⟩).size = O3.size + u := by rw [ByteArray.size_append, Pa.rep_size]
                    by_cases hLVt : (t : Int) = LV
                    · rw [if_pos hLVt] at hu
                      have f2 : ((t : Int) == LV) = true := beq_iff_eq.2 hLVt
                      by_cases huq : u < q
                      · have z1 : (u : Int) < (q : Int) := by omega
                        have hrep : O3 ++ ⟨(List.replicate u (44 : UInt8)).toArray⟩ ++ ⟨#[44]⟩ = O3 ++ ⟨(List.replicate (u + 1) (44 : UInt8)).toArray⟩ := by apply Pa.ba_ext; simp [ByteArray.data_append, List.replicate_succ']
                        obtain ⟨O4, hO4⟩ : ∃ O4, O4 = O3 ++ ⟨(List.replicate u (44 : UInt8)).toArray⟩ := ⟨_, rfl⟩
                        rw [← hO4] at hrs hrep ⊢
                        have z3 : O4.size ≤ 13000 := by omega
                        have HREP := Lib.hid hrep
                        clear hrep hO4
                        go_wp2_with fail
                        go_roundw
                        case rel => exact ⟨u + 1, by rw [if_pos hLVt]; omega, by go_num, by rw [HREP.out], by first | trivial | rfl⟩
                        case measure => simp [intOf, hLVt]; omega
                      · have z1 : ¬ (u : Int) < (q : Int) := by omega
                        obtain rfl : u = q := by omega
                        have hst := HST2.out
                        rw [if_pos hLVt.symm, Int.toNat_natCast] at hst
                        have HO5 := Lib.hid (show O3 ++ ⟨(List.replicate u (44 : UInt8)).toArray⟩ = ⟨(Pa.pk l k ++ PRE (t + 1)).toArray⟩ from by rw [HNEW.out, hst])
                        obtain ⟨O4, hO4⟩ : ∃ O4, O4 = O3 ++ ⟨(List.replicate u (44 : UInt8)).toArray⟩ := ⟨_, rfl⟩
                        rw [← hO4] at hrs HO5 ⊢
                        clear hst hO4
                        go_wp2_with fail
                        go_roundw
                        case rel => exact ⟨t + 1, O4, true, by omega, by go_num, rfl, rfl, HO5, by omega, Lib.hid (by have := HF2.out; simpa using this), hB_w7⟩
                        case measure => simp [intOf]; omega
                    · rw [if_neg hLVt] at hu
                      have f2 : ((t : Int) == LV) = false := beq_eq_false_iff_ne.2 hLVt
                      obtain rfl : u = 0 := by omega
                      have hst := HST2.out
                      rw [if_neg (fun e => hLVt e.symm)] at hst
                      have HO5 := Lib.hid (show O3 ++ ⟨(List.replicate 0 (44 : UInt8)).toArray⟩ = ⟨(Pa.pk l k ++ PRE (t + 1)).toArray⟩ from by rw [HNEW.out, hst]; simp)
                      obtain ⟨O4, hO4⟩ : ∃ O4, O4 = O3 ++ ⟨(List.replicate 0 (44 : UInt8)).toArray⟩ := ⟨_, rfl⟩
                      rw [← hO4] at hrs HO5 ⊢
                      clear hst hO4
                      go_wp2_with fail
                      go_roundw
                      case rel => exact ⟨t + 1, O4, true, by omega, by go_num, rfl, rfl, HO5, by omega, Lib.hid (by have := HF2.out; simpa using this), hB_w7⟩
                      case measure => simp [intOf]; omega
                · subst hg
                  have hno : ¬ (false = true ∧ PV = (t : Int)) := fun hc => by cases hc.1
                  have hst := HST.out
                  rw [if_neg hno] at hst
                  have HST2 := Lib.hid hst
                  have HF2 := Lib.hid (HFLAG.out fl ⟨.inl, fun h => h.resolve_right hno⟩)
                  clear hst hno HST
                  go_wp2_with (go_at_call 34; (with_reducible refine (HS.out _).mono ?_); rintro e w7 ⟨rfl, hb_w7⟩; have hB_w7 : Below w.heap.size w w7 := hbt.trans (hb_w7.mono hzt); obtain ⟨e0', e1', e2'⟩ := HDC.out w7 hB_w7)
                  have hO3s : (O2 ++ SG).size ≤ O2.size + 8 := by simp only [ByteArray.size_append]; omega
                  obtain ⟨O3, hO3⟩ : ∃ O3, O3 = O2 ++ SG := ⟨_, rfl⟩
                  rw [← hO3] at hO3s ⊢
                  have HNEW := Lib.hid (fun T => Pa.new_txt0 HO2.out HSGE.out hO3 T)
                  clear hO3
                  obtain ⟨wc, rfl⟩ : ∃ wc : World, wc = w7 := ⟨_, rfl⟩
                  go_loopw [4, 12] (fun s i wr => ∃ u : Nat, u ≤ (if (t : Int) = LV then q else 0) ∧ i = .int .i64 (u : Int) ∧ s = .string (O3 ++ ⟨(List.replicate u (44 : UInt8)).toArray⟩) ∧ wr = wc) (fun _ i _ => (if (t : Int) = LV then q else 0) - (intOf i).toNat)
                  case atStart => exact ⟨0, Nat.zero_le _, rfl, congrArg Value.string (Pa.app_nil O3), rfl⟩
                  case round =>
                    obtain ⟨u, hu, rfl, rfl, rfl⟩ := hrel
                    have hrs : (O3 ++ ⟨(List.replicate u (44 : UInt8)).toArray⟩).size = O3.size + u := by rw [ByteArray.size_append, Pa.rep_size]
                    by_cases hLVt : (t : Int) = LV
                    · rw [if_pos hLVt] at hu
                      have f2 : ((t : Int) == LV) = true := beq_iff_eq.2 hLVt
                      by_cases huq : u < q
                      · have z1 : (u : Int) < (q : Int) := by omega
                        have hrep : O3 ++ ⟨(List.replicate u (44 : UInt8)).toArray⟩ ++ ⟨#[44]⟩ = O3 ++ ⟨(List.replicate (u + 1) (44 : UInt8)).toArray⟩ := by apply Pa.ba_ext; simp [ByteArray.data_append, List.replicate_succ']
                        obtain ⟨O4, hO4⟩ : ∃ O4, O4 = O3 ++ ⟨(List.replicate u (44 : UInt8)).toArray⟩ := ⟨_, rfl⟩
                        rw [← hO4] at hrs hrep ⊢
                        have z3 : O4.size ≤ 13000 := by omega
                        have HREP := Lib.hid hrep
                        clear hrep hO4
                        go_wp2_with fail
                        go_roundw
                        case rel => exact ⟨u + 1, by rw [if_pos hLVt]; omega, by go_num, by rw [HREP.out], by first | trivial | rfl⟩
                        case measure => simp [intOf, hLVt]; omega
                      · have z1 : ¬ (u : Int) < (q : Int) := by omega
                        obtain rfl : u = q := by omega
                        have hst := HST2.out
                        rw [if_pos hLVt.symm, Int.toNat_natCast] at hst
                        have HO5 := Lib.hid (show O3 ++ ⟨(List.replicate u (44 : UInt8)).toArray⟩ = ⟨(Pa.pk l k ++ PRE (t + 1)).toArray⟩ from by rw [HNEW.out, hst])
                        obtain ⟨O4, hO4⟩ : ∃ O4, O4 = O3 ++ ⟨(List.replicate u (44 : UInt8)).toArray⟩ := ⟨_, rfl⟩
                        rw [← hO4] at hrs HO5 ⊢
                        clear hst hO4
                        go_wp2_with fail
                        go_roundw
                        case rel => exact ⟨t + 1, O4, fl, by omega, by go_num, rfl, rfl, HO5, by omega, Lib.hid (by have := HF2.out; simpa using this), hB_w7⟩
                        case measure => simp [intOf]; omega
                    · rw [if_neg hLVt] at hu
                      have f2 : ((t : Int) == LV) = false := beq_eq_false_iff_ne.2 hLVt
                      obtain rfl : u = 0 := by omega
                      have hst := HST2.out
                      rw [if_neg (fun e => hLVt e.symm)] at hst
                      have HO5 := Lib.hid (show O3 ++ ⟨(List.replicate 0 (44 : UInt8)).toArray⟩ = ⟨(Pa.pk l k ++ PRE (t + 1)).toArray⟩ from by rw [HNEW.out, hst]; simp)
                      obtain ⟨O4, hO4⟩ : ∃ O4, O4 = O3 ++ ⟨(List.replicate 0 (44 : UInt8)).toArray⟩ := ⟨_, rfl⟩
                      rw [← hO4] at hrs HO5 ⊢
                      clear hst hO4
                      go_wp2_with fail
                      go_roundw
                      case rel => exact ⟨t + 1, O4, fl, by omega, by go_num, rfl, rfl, HO5, by omega, Lib.hid (by have := HF2.out; simpa using this), hB_w7⟩
                      case measure => simp [intOf]; omega
                · have hno : ¬ (true = true ∧ PV = (t : Int)) := fun hc => by have := (HFIRE.out.1 hc).2.1; cases this
                  have hst := HST.out
                  rw [if_neg hno] at hst
                  have HST2 := Lib.hid hst
                  have HF2 := Lib.hid (HFLAG.out true ⟨.inl, fun h => h.resolve_right hno⟩)
                  clear hst hno HST
                  go_wp2_with (go_at_call 34; (with_reducible refine (HS.out _).mono ?_); rintro e w7 ⟨rfl, hb_w7⟩; have hB_w7 : Below w.heap.size w w7 := hbt.trans (hb_w7.mono hzt); obtain ⟨e0', e1', e2'⟩ := HDC.out w7 hB_w7)
                  have hO3s : (O2 ++ SG).size ≤ O2.size + 8 := by simp only [ByteArray.size_append]; omega
                  obtain ⟨O3, hO3⟩ : ∃ O3, O3 = O2 ++ SG := ⟨_, rfl⟩
                  rw [← hO3] at hO3s ⊢
                  have HNEW := Lib.hid (fun T => Pa.new_txt0 HO2.out HSGE.out hO3 T)
                  clear hO3
                  obtain ⟨wc, rfl⟩ : ∃ wc : World, wc = w7 := ⟨_, rfl⟩
                  go_loopw [4, 12] (fun s i wr => ∃ u : Nat, u ≤ (if (t : Int) = LV then q else 0) ∧ i = .int .i64 (u : Int) ∧ s = .string (O3 ++ ⟨(List.replicate u (44 : UInt8)).toArray⟩) ∧ wr = wc) (fun _ i _ => (if (t : Int) = LV then q else 0) - (intOf i).toNat)
                  case atStart => exact ⟨0, Nat.zero_le _, rfl, congrArg Value.string (Pa.app_nil O3), rfl⟩
                  case round =>
                    obtain ⟨u, hu, rfl, rfl, rfl⟩ := hrel
                    have hrs : (O3 ++ ⟨(List.replicate u (44 : UInt8)).toArray⟩).size = O3.size + u := by rw [ByteArray.size_append, Pa.rep_size]
                    by_cases hLVt : (t : Int) = LV
                    · rw [if_pos hLVt] at hu
                      have f2 : ((t : Int) == LV) = true := beq_iff_eq.2 hLVt
                      by_cases huq : u < q
                      · have z1 : (u : Int) < (q : Int) := by omega
                        have hrep : O3 ++ ⟨(List.replicate u (44 : UInt8)).toArray⟩ ++ ⟨#[44]⟩ = O3 ++ ⟨(List.replicate (u + 1) (44 : UInt8)).toArray⟩ := by apply Pa.ba_ext; simp [ByteArray.data_append, List.replicate_succ']
                        obtain ⟨O4, hO4⟩ : ∃ O4, O4 = O3 ++ ⟨(List.replicate u (44 : UInt8)).toArray⟩ := ⟨_, rfl⟩
                        rw [← hO4] at hrs hrep ⊢
                        have z3 : O4.size ≤ 13000 := by omega
                        have HREP := Lib.hid hrep
                        clear hrep hO4
                        go_wp2_with fail
                        go_roundw
                        case rel => exact ⟨u + 1, by rw [if_pos hLVt]; omega, by go_num, by rw [HREP.out], by first | trivial | rfl⟩
                        case measure => simp [intOf, hLVt]; omega
                      · have z1 : ¬ (u : Int) < (q : Int) := by omega
                        obtain rfl : u = q := by omega
                        have hst := HST2.out
                        rw [if_pos hLVt.symm, Int.toNat_natCast] at hst
                        have HO5 := Lib.hid (show O3 ++ ⟨(List.replicate u (44 : UInt8)).toArray⟩ = ⟨(Pa.pk l k ++ PRE (t + 1)).toArray⟩ from by rw [HNEW.out, hst])
                        obtain ⟨O4, hO4⟩ : ∃ O4, O4 = O3 ++ ⟨(List.replicate u (44 : UInt8)).toArray⟩ := ⟨_, rfl⟩
                        rw [← hO4] at hrs HO5 ⊢
                        clear hst hO4
                        go_wp2_with fail
                        go_roundw
                        case rel => exact ⟨t + 1, O4, true, by omega, by go_num, rfl, rfl, HO5, by omega, Lib.hid (by have := HF2.out; simpa using this), hB_w7⟩
                        case measure => simp [intOf]; omega
                    · rw [if_neg hLVt] at hu
                      have f2 : ((t : Int) == LV) = false := beq_eq_false_iff_ne.2 hLVt
                      obtain rfl : u = 0 := by omega
                      have hst := HST2.out
                      rw [if_neg (fun e => hLVt e.symm)] at hst
                      have HO5 := Lib.hid (show O3 ++ ⟨(List.replicate 0 (44 : UInt8)).toArray⟩ = ⟨(Pa.pk l k ++ PRE (t + 1)).toArray⟩ from by rw [HNEW.out, hst]; simp)
                      obtain ⟨O4, hO4⟩ : ∃ O4, O4 = O3 ++ ⟨(List.replicate 0 (44 : UInt8)).toArray⟩ := ⟨_, rfl⟩
                      rw [← hO4] at hrs HO5 ⊢
                      clear hst hO4
                      go_wp2_with fail
                      go_roundw
                      case rel => exact ⟨t + 1, O4, true, by omega, by go_num, rfl, rfl, HO5, by omega, Lib.hid (by have := HF2.out; simpa using this), hB_w7⟩
                      case measure => simp [intOf]; omega
                · have hno : ¬ (true = true ∧ PV = (t : Int)) := fun hc => hm1 (HFIRE.out.1 hc).2.2.1
                  have p5 : ¬ (t : Int) + 1 < (m : Int) := by omega
                  have hst := HST.out
                  rw [if_neg hno] at hst
                  have HST2 := Lib.hid hst
                  have HF2 := Lib.hid (HFLAG.out false ⟨.inl, fun h => h.resolve_right hno⟩)
                  clear hst hno HST
                  go_wp2_with (go_at_call 34; (with_reducible refine (HS.out _).mono ?_); rintro e w7 ⟨rfl, hb_w7⟩; have hB_w7 : Below w.heap.size w w7 := hbt.trans (hb_w7.mono hzt); obtain ⟨e0', e1', e2'⟩ := HDC.out w7 hB_w7)
                  have hO3s : (O2 ++ SG).size ≤ O2.size + 8 := by simp only [ByteArray.size_append]; omega
                  obtain ⟨O3, hO3⟩ : ∃ O3, O3 = O2 ++ SG := ⟨_, rfl⟩
                  rw [← hO3] at hO3s ⊢
                  have HNEW := Lib.hid (fun T => Pa.new_txt0 HO2.out HSGE.out hO3 T)
                  clear hO3
                  obtain ⟨wc, rfl⟩ : ∃ wc : World, wc = w7 := ⟨_, rfl⟩
                  go_loopw [4, 12] (fun s i wr => ∃ u : Nat, u ≤ (if (t : Int) = LV then q else 0) ∧ i = .int .i64 (u : Int) ∧ s = .string (O3 ++ ⟨(List.replicate u (44 : UInt8)).toArray⟩) ∧ wr = wc) (fun _ i _ => (if (t : Int) = LV then q else 0) - (intOf i).toNat)
                  case atStart => exact ⟨0, Nat.zero_le _, rfl, congrArg Value.string (Pa.app_nil O3), rfl⟩
                  case round =>
                    obtain ⟨u, hu, rfl, rfl, rfl⟩ := hrel
                    have hrs : (O3 ++ ⟨(List.replicate u (44 : UInt8)).toArray⟩).size = O3.size + u := by rw [ByteArray.size_append, Pa.rep_size]
                    by_cases hLVt : (t : Int) = LV
                    · rw [if_pos hLVt] at hu
                      have f2 : ((t : Int) == LV) = true := beq_iff_eq.2 hLVt
                      by_cases huq : u < q
                      · have z1 : (u : Int) < (q : Int) := by omega
                        have hrep : O3 ++ ⟨(List.replicate u (44 : UInt8)).toArray⟩ ++ ⟨#[44]⟩ = O3 ++ ⟨(List.replicate (u + 1) (44 : UInt8)).toArray⟩ := by apply Pa.ba_ext; simp [ByteArray.data_append, List.replicate_succ']
                        obtain ⟨O4, hO4⟩ : ∃ O4, O4 = O3 ++ ⟨(List.replicate u (44 : UInt8)).toArray⟩ := ⟨_, rfl⟩
                        rw [← hO4] at hrs hrep ⊢
                        have z3 : O4.size ≤ 13000 := by omega
                        have HREP := Lib.hid hrep
                        clear hrep hO4
                        go_wp2_with fail
                        go_roundw
                        case rel => exact ⟨u + 1, by rw [if_pos hLVt]; omega, by go_num, by rw [HREP.out], by first | trivial | rfl⟩
                        case measure => simp [intOf, hLVt]; omega
                      · have z1 : ¬ (u : Int) < (q : Int) := by omega
                        obtain rfl : u = q := by omega
                        have hst := HST2.out
                        rw [if_pos hLVt.symm, Int.toNat_natCast] at hst
                        have HO5 := Lib.hid (show O3 ++ ⟨(List.replicate u (44 : UInt8)).toArray⟩ = ⟨(Pa.pk l k ++ PRE (t + 1)).toArray⟩ from by rw [HNEW.out, hst])
                        obtain ⟨O4, hO4⟩ : ∃ O4, O4 = O3 ++ ⟨(List.replicate u (44 : UInt8)).toArray⟩ := ⟨_, rfl⟩
                        rw [← hO4] at hrs HO5 ⊢
                        clear hst hO4
                        go_wp2_with fail
                        go_roundw
                        case rel => exact ⟨t + 1, O4, false, by omega, by go_num, rfl, rfl, HO5, by omega, Lib.hid (by have := HF2.out; simpa using this), hB_w7⟩
                        case measure => simp [intOf]; omega
                    · rw [if_neg hLVt] at hu
                      have f2 : ((t : Int) == LV) = false := beq_eq_false_iff_ne.2 hLVt
                      obtain rfl : u = 0 := by omega
                      have hst := HST2.out
                      rw [if_neg (fun e => hLVt e.symm)] at hst
                      have HO5 := Lib.hid (show O3 ++ ⟨(List.replicate 0 (44 : UInt8)).toArray⟩ = ⟨(Pa.pk l k ++ PRE (t + 1)).toArray⟩ from by rw [HNEW.out, hst]; simp)
                      obtain ⟨O4, hO4⟩ : ∃ O4, O4 = O3 ++ ⟨(List.replicate 0 (44 : UInt8)).toArray⟩ := ⟨_, rfl⟩
                      rw [← hO4] at hrs HO5 ⊢
                      clear hst hO4
                      go_wp2_with fail
                      go_roundw
                      case rel => exact ⟨t + 1, O4, false, by omega, by go_num, rfl, rfl, HO5, by omega, Lib.hid (by have := HF2.out; simpa using this), hB_w7⟩
                      case measure => simp [intOf]; omega
                · have hno : ¬ (true = true ∧ PV = (t : Int)) := fun hc => hk1 (HFIRE.out.1 hc).2.2.2.1
                  have p5 : (t : Int) + 1 < (m : Int) := by omega
                  obtain ⟨K, hK⟩ : ∃ K, K = L[t].kind := ⟨_, rfl⟩
                  obtain ⟨TX, hTX⟩ : ∃ K, K = L[t].text := ⟨_, rfl⟩
                  have hX : ∀ W, Below w.heap.size w W → W.cell? ⟨bi, oi + t * 2, none⟩ = some (.int .i64 K) := fun W hW => by rw [hK]; exact (HIG2.out W hW t htl).1
                  have HX := Lib.hid hX
                  clear hX
                  rw [← hK] at hk1 x0 HS
                  rw [← hTX] at x1 HS
                  have hk1b : (K == 2) = false := beq_eq_false_iff_ne.2 hk1
                  clear hk1 hK hTX
                  have hst := HST.out
                  rw [if_neg hno] at hst
                  have HST2 := Lib.hid hst
                  have HF2 := Lib.hid (HFLAG.out false ⟨.inl, fun h => h.resolve_right hno⟩)
                  clear hst hno HST
                  go_wp2_with (go_at_call 34; (with_reducible refine (HS.out _).mono ?_); rintro e w7 ⟨rfl, hb_w7⟩; have hB_w7 : Below w.heap.size w w7 := hbt.trans (hb_w7.mono hzt); obtain ⟨e0', e1', e2'⟩ := HDC.out w7 hB_w7; have y0 := HX.out w7 hB_w7)
                  have hO3s : (O2 ++ SG).size ≤ O2.size + 8 := by simp only [ByteArray.size_append]; omega
                  obtain ⟨O3, hO3⟩ : ∃ O3, O3 = O2 ++ SG := ⟨_, rfl⟩
                  rw [← hO3] at hO3s ⊢
                  have HNEW := Lib.hid (fun T => Pa.new_txt0 HO2.out HSGE.out hO3 T)
                  clear hO3
                  obtain ⟨wc, rfl⟩ : ∃ wc : World, wc = w7 := ⟨_, rfl⟩
                  go_loopw [4, 12] (fun s i wr => ∃ u : Nat, u ≤ (if (t : Int) = LV then q else 0) ∧ i = .int .i64 (u : Int) ∧ s = .string (O3 ++ ⟨(List.replicate u (44 : UInt8)).toArray⟩) ∧ wr = wc) (fun _ i _ => (if (t : Int) = LV then q else 0) - (intOf i).toNat)
                  case atStart => exact ⟨0, Nat.zero_le _, rfl, congrArg Value.string (Pa.app_nil O3), rfl⟩
                  case round =>
                    obtain ⟨u, hu, rfl, rfl, rfl⟩ := hrel
                    have hrs : (O3 ++ ⟨(List.replicate u (44 : UInt8)).toArray⟩).size = O3.size + u := by rw [ByteArray.size_append, Pa.rep_size]
                    by_cases hLVt : (t : Int) = LV
                    · rw [if_pos hLVt] at hu
                      have f2 : ((t : Int) == LV) = true := beq_iff_eq.2 hLVt
                      by_cases huq : u < q
                      · have z1 : (u : Int) < (q : Int) := by omega
                        have hrep : O3 ++ ⟨(List.replicate u (44 : UInt8)).toArray⟩ ++ ⟨#[44]⟩ = O3 ++ ⟨(List.replicate (u + 1) (44 : UInt8)).toArray⟩ := by apply Pa.ba_ext; simp [ByteArray.data_append, List.replicate_succ']
                        obtain ⟨O4, hO4⟩ : ∃ O4, O4 = O3 ++ ⟨(List.replicate u (44 : UInt8)).toArray⟩ := ⟨_, rfl⟩
                        rw [← hO4] at hrs hrep ⊢
                        have z3 : O4.size ≤ 13000 := by omega
                        have HREP := Lib.hid hrep
                        clear hrep hO4
                        go_wp2_with fail
                        go_roundw
                        case rel => exact ⟨u + 1, by rw [if_pos hLVt]; omega, by go_num, by rw [HREP.out], by first | trivial | rfl⟩
                        case measure => simp [intOf, hLVt]; omega
                      · have z1 : ¬ (u : Int) < (q : Int) := by omega
                        obtain rfl : u = q := by omega
                        have hst := HST2.out
                        rw [if_pos hLVt.symm, Int.toNat_natCast] at hst
                        have HO5 := Lib.hid (show O3 ++ ⟨(List.replicate u (44 : UInt8)).toArray⟩ = ⟨(Pa.pk l k ++ PRE (t + 1)).toArray⟩ from by rw [HNEW.out, hst])
                        obtain ⟨O4, hO4⟩ : ∃ O4, O4 = O3 ++ ⟨(List.replicate u (44 : UInt8)).toArray⟩ := ⟨_, rfl⟩
                        rw [← hO4] at hrs HO5 ⊢
                        clear hst hO4
                        go_wp2_with fail
                        go_roundw
                        case rel => exact ⟨t + 1, O4, false, by omega, by go_num, rfl, rfl, HO5, by omega, Lib.hid (by have := HF2.out; simpa using this), hB_w7⟩
                        case measure => simp [intOf]; omega
                    · rw [if_neg hLVt] at hu
                      have f2 : ((t : Int) == LV) = false := beq_eq_false_iff_ne.2 hLVt
                      obtain rfl : u = 0 := by omega
                      have hst := HST2.out
                      rw [if_neg (fun e => hLVt e.symm)] at hst
                      have HO5 := Lib.hid (show O3 ++ ⟨(List.replicate 0 (44 : UInt8)).toArray⟩ = ⟨(Pa.pk l k ++ PRE (t + 1)).toArray⟩ from by rw [HNEW.out, hst]; simp)
                      obtain ⟨O4, hO4⟩ : ∃ O4, O4 = O3 ++ ⟨(List.replicate 0 (44 : UInt8)).toArray⟩ := ⟨_, rfl⟩
                      rw [← hO4] at hrs HO5 ⊢
                      clear hst hO4
                      go_wp2_with fail
                      go_roundw
                      case rel => exact ⟨t + 1, O4, false, by omega, by go_num, rfl, rfl, HO5, by omega, Lib.hid (by have := HF2.out; simpa using this), hB_w7⟩
                      case measure => simp [intOf]; omega
                · have hu : t + 1 < L.length := by have := HNL.out; omega
                  have hno : ¬ (true = true ∧ PV = (t : Int)) := fun hc => hk2 (HFIRE.out.1 hc).2.2.2.2
                  rw [getElem!_pos L (t + 1) hu] at hk2
                  have p5 : (t : Int) + 1 < (m : Int) := by omega
                  have p6 : (t : Int) + 1 < (N : Int) := by omega
                  obtain ⟨TX, hTX⟩ : ∃ K, K = L[t].text := ⟨_, rfl⟩
                  obtain ⟨K, hK⟩ : ∃ K, K = L[t + 1].kind := ⟨_, rfl⟩
                  rw [hk1] at x0 HS
                  rw [← hTX] at x1 HS
                  have hX : ∀ W, Below w.heap.size w W → W.cell? ⟨bi, oi + t * 2, none⟩ = some (.int .i64 2) ∧ W.cell? ⟨bi, oi + (t + 1) * 2, none⟩ = some (.int .i64 K) := fun W hW => by
                    have y0 := (HIG2.out W hW t htl).1
                    have y2 := (HIG2.out W hW (t + 1) hu).1
                    rw [hk1] at y0
                    rw [← hK] at y2
                    exact ⟨y0, y2⟩
                  have HX := Lib.hid hX
                  clear hX
                  rw [← hK] at hk2
                  have hk2b : (K == 2) = false := beq_eq_false_iff_ne.2 hk2
                  clear hk1 hk2 hK hTX
                  have hst := HST.out
                  rw [if_neg hno] at hst
                  have HST2 := Lib.hid hst
                  have HF2 := Lib.hid (HFLAG.out false ⟨.inl, fun h => h.resolve_right hno⟩)
                  clear hst hno HST
                  go_wp2_with (go_at_call 34; (with_reducible refine (HS.out _).mono ?_); rintro e w7 ⟨rfl, hb_w7⟩; have hB_w7 : Below w.heap.size w w7 := hbt.trans (hb_w7.mono hzt); obtain ⟨e0', e1', e2'⟩ := HDC.out w7 hB_w7; obtain ⟨y0, y2⟩ := HX.out w7 hB_w7)
                  have hO3s : (O2 ++ SG).size ≤ O2.size + 8 := by simp only [ByteArray.size_append]; omega
                  obtain ⟨O3, hO3⟩ : ∃ O3, O3 = O2 ++ SG := ⟨_, rfl⟩
                  rw [← hO3] at hO3s ⊢
                  have HNEW := Lib.hid (fun T => Pa.new_txt0 HO2.out HSGE.out hO3 T)
                  clear hO3
                  obtain ⟨wc, rfl⟩ : ∃ wc : World, wc = w7 := ⟨_, rfl⟩
                  go_loopw [4, 12] (fun s i wr => ∃ u : Nat, u ≤ (if (t : Int) = LV then q else 0) ∧ i = .int .i64 (u : Int) ∧ s = .string (O3 ++ ⟨(List.replicate u (44 : UInt8)).toArray⟩) ∧ wr = wc) (fun _ i _ => (if (t : Int) = LV then q else 0) - (intOf i).toNat)
                  case atStart => exact ⟨0, Nat.zero_le _, rfl, congrArg Value.string (Pa.app_nil O3), rfl⟩
                  case round =>
                    obtain ⟨u, hu, rfl, rfl, rfl⟩ := hrel
                    have hrs : (O3 ++ ⟨(List.replicate u (44 : UInt8)).toArray⟩).size = O3.size + u := by rw [ByteArray.size_append, Pa.rep_size]
                    by_cases hLVt : (t : Int) = LV
                    · rw [if_pos hLVt] at hu
                      have f2 : ((t : Int) == LV) = true := beq_iff_eq.2 hLVt
                      by_cases huq : u < q
                      · have z1 : (u : Int) < (q : Int) := by omega
                        have hrep : O3 ++ ⟨(List.replicate u (44 : UInt8)).toArray⟩ ++ ⟨#[44]⟩ = O3 ++ ⟨(List.replicate (u + 1) (44 : UInt8)).toArray⟩ := by apply Pa.ba_ext; simp [ByteArray.data_append, List.replicate_succ']
                        obtain ⟨O4, hO4⟩ : ∃ O4, O4 = O3 ++ ⟨(List.replicate u (44 : UInt8)).toArray⟩ := ⟨_, rfl⟩
                        rw [← hO4] at hrs hrep ⊢
                        have z3 : O4.size ≤ 13000 := by omega
                        have HREP := Lib.hid hrep
                        clear hrep hO4
                        go_wp2_with fail
                        go_roundw
                        case rel => exact ⟨u + 1, by rw [if_pos hLVt]; omega, by go_num, by rw [HREP.out], by first | trivial | rfl⟩
                        case measure => simp [intOf, hLVt]; omega
                      · have z1 : ¬ (u : Int) < (q : Int) := by omega
                        obtain rfl : u = q := by omega
                        have hst := HST2.out
                        rw [if_pos hLVt.symm, Int.toNat_natCast] at hst
                        have HO5 := Lib.hid (show O3 ++ ⟨(List.replicate u (44 : UInt8)).toArray⟩ = ⟨(Pa.pk l k ++ PRE (t + 1)).toArray⟩ from by rw [HNEW.out, hst])
                        obtain ⟨O4, hO4⟩ : ∃ O4, O4 = O3 ++ ⟨(List.replicate u (44 : UInt8)).toArray⟩ := ⟨_, rfl⟩
                        rw [← hO4] at hrs HO5 ⊢
                        clear hst hO4
                        go_wp2_with fail
                        go_roundw
                        case rel => exact ⟨t + 1, O4, false, by omega, by go_num, rfl, rfl, HO5, by omega, Lib.hid (by have := HF2.out; simpa using this), hB_w7⟩
                        case measure => simp [intOf]; omega
                    · rw [if_neg hLVt] at hu
                      have f2 : ((t : Int) == LV) = false := beq_eq_false_iff_ne.2 hLVt
                      obtain rfl : u = 0 := by omega
                      have hst := HST2.out
                      rw [if_neg (fun e => hLVt e.symm)] at hst
                      have HO5 := Lib.hid (show O3 ++ ⟨(List.replicate 0 (44 : UInt8)).toArray⟩ = ⟨(Pa.pk l k ++ PRE (t + 1)).toArray⟩ from by rw [HNEW.out, hst]; simp)
                      obtain ⟨O4, hO4⟩ : ∃ O4, O4 = O3 ++ ⟨(List.replicate 0 (44 : UInt8)).toArray⟩ := ⟨_, rfl⟩
                      rw [← hO4] at hrs HO5 ⊢
                      clear hst hO4
                      go_wp2_with fail
                      go_roundw
                      case rel => exact ⟨t + 1, O4, false, by omega, by go_num, rfl, rfl, HO5, by omega, Lib.hid (by have := HF2.out; simpa using this), hB_w7⟩
                      case measure => simp [intOf]; omega
              · have htn : t = N := by omega
                subst htn
                have HO3 := Lib.hid (HFIN.out O2 HO2.out)
                have q9 : ¬ (t : Int) < (t : Int) := by omega
                go_wp2_with fail
                go_roundw
                case rel => exact ⟨k + 1, O2, by omega, by go_num, rfl, HO3, by omega, hbt⟩
                case measure => simp [intOf]; omega
    · have hkn : k = n := by omega
      subst hkn
      have hro : O = r := by rw [HO.out, HRR.out]
      subst hro
      go_wp2_with fail
      go_ret
      exact RetB.of rfl hbr

set_option maxRecDepth 100000 in
theorem r_print_any (l : List Pa.Sec) (v : Value) (B : Nat) (w : World) (h : SecsAt w B v l) (hB : B ≤ w.heap.size) (hl : l.length ≤ 1000) (hit : ∀ k (h : k < l.length), l[k].items.length ≤ 1000000) (ht : Txt 1000000000 l) :
    Calls Tryd.prog 14 #[v] w (RetB (.string ⟨(Pa.print l).toArray⟩) w) := by
  cases hr : Pa.right l with
  | true => exact r_print_right l v B w h hB ht hr
  | false =>
    have hrt := fun (W : World) (hW : Below w.heap.size w W) => r_right_any l v B W (h.below hW hB) (Nat.le_trans hB hW.size) hl hit ht
    rw [hr] at hrt
    have hres : Pa.print l = [] := by unfold Pa.print; rw [hr]; rfl
    rw [hres]
    obtain ⟨a, c, rfl, _⟩ := h.form
    have HRT := Lib.hid hrt
    clear hrt hres hr h hit ht
    generalize l.length = n at *
    go_enter Tryd.func14, Tryd.ntmps14
    go_wp2_with (go_at_call 12; (with_reducible refine (HRT.out _ (by first | assumption | (repeat (first | exact Below.refl _ _ | assumption | refine Below.setCell ?_ (by first | omega | (simp <;> omega)) _ | refine Below.alloc ?_ (by first | omega | (simp <;> omega)) _ | refine Below.drew ?_ | refine below_drewN' ?_ _)))).mono ?_); rintro e w1 ⟨rfl, hb_w1⟩; have hB_w1 : Below w.heap.size w w1 := Below.next (by first | assumption | (repeat (first | exact Below.refl _ _ | assumption | refine Below.setCell ?_ (by first | omega | (simp <;> omega)) _ | refine Below.alloc ?_ (by first | omega | (simp <;> omega)) _ | refine Below.drew ?_ | refine below_drewN' ?_ _))) hb_w1)
    go_ret
    exact RetB.of rfl hB_w1
end Go.Proofs.YticodcecillciaaDoor
