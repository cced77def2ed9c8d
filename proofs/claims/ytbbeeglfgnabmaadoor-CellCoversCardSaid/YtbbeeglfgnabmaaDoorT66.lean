/- A text is read as a reference by the reference. -/
import Derived.Test.YtbbeeglfgnabmaaDoorT64
import Derived.Test.YtbbeeglfgnabmaaDoorT57
import Derived.Test.YtbbeeglfgnabmaaDoorCell3
import Derived.Deep.DeepCutAuto
import Derived.Test.YtbbeeglfgnabmaaDoorCells
namespace Go.Proofs.YtbbeeglfgnabmaaDoor
set_option linter.all false
open Go.RowKit

/-- The world of the reading: two blocks of its own. -/
structure Wd (w wr : World) (c d : Int) (x y : Bool) : Prop where
  below : Below w.heap.size w wr
  size : w.heap.size + 1 < wr.heap.size
  a : Cs wr w.heap.size [.int .i64 0, .int .i64 0, .bool false, .bool false]
  b : Cs wr (w.heap.size + 1) [.int .i64 c, .int .i64 d, .bool x, .bool y]
  fa : ∀ k, wr.frozen? ⟨w.heap.size, k, none⟩ = false
  fb : ∀ k, wr.frozen? ⟨w.heap.size + 1, k, none⟩ = false

theorem wd_init (w : World) : Wd w ((w.alloc (.cells #[.int .i64 0, .int .i64 0, .bool false, .bool false] 23)).alloc (.cells #[.int .i64 0, .int .i64 0, .bool false, .bool false] 23)) 0 0 false false where
  below := ((Below.refl _ _).alloc (Nat.le_refl _) _).alloc (by simp) _
  size := by simp
  a := (Cs.new w [.int .i64 0, .int .i64 0, .bool false, .bool false] _).alloc _
  b := by
    have := Cs.new (w.alloc (.cells #[.int .i64 0, .int .i64 0, .bool false, .bool false] 23)) [.int .i64 0, .int .i64 0, .bool false, .bool false] 23
    rw [World.size_alloc] at this; exact this
  fa := fun k => by simp [go_sem]
  fb := fun k => by simp [go_sem]

theorem Cs.set1 {w : World} {b : Nat} {vs : List Value} (h : Cs w b vs) (i : Nat) (hi : i < vs.length) (v : Value) : Cs (w.setCell ⟨b, i, none⟩ v) b (vs.set i v) :=
  ⟨by rw [World.size_setCell]; exact h.1, fun k hk => by
    rw [List.length_set] at hk
    by_cases e : i = k
    · subst e
      rw [World.cell?_setCell_same _ _ _ (h.2 i hk)]; simp
    · rw [World.cell?_setCell_other _ _ _ _ (fun e2 => e (congrArg Addr.off e2)), h.2 k hk, List.getElem_set_ne e]⟩
theorem Cs.set0 {w : World} {b b' : Nat} {vs : List Value} (h : Cs w b vs) (hne : b' ≠ b) (i : Nat) (v : Value) : Cs (w.setCell ⟨b', i, none⟩ v) b vs :=
  ⟨by rw [World.size_setCell]; exact h.1, fun k hk => by
    rw [World.cell?_setCell_other _ _ _ _ (fun e => hne (congrArg Addr.block e))]; exact h.2 k hk⟩
theorem Wd.set {w wr : World} {c d : Int} {x y : Bool} (h : Wd w wr c d x y) (i : Nat) (hi : i < 4) (v : Value) {c' d' : Int} {x' y' : Bool} (e : [Value.int .i64 c, .int .i64 d, .bool x, .bool y].set i v = [.int .i64 c', .int .i64 d', .bool x', .bool y']) : Wd w (wr.setCell ⟨w.heap.size + 1, i, none⟩ v) c' d' x' y' where
  below := h.below.setCell (by simp) _
  size := by rw [World.size_setCell]; exact h.size
  a := h.a.set0 (by simp) _ _
  b := by rw [← e]; exact h.b.set1 i hi v
  fa := fun k => (World.frozen?_setCell _ _ _ _).trans (h.fa k)
  fb := fun k => (World.frozen?_setCell _ _ _ _).trans (h.fb k)

theorem letW_no {c : UInt8} (h : Ce.isLet c = false) : letW c = 0 := by rw [letW, h]; rfl
theorem letW_yes {c : UInt8} (h : Ce.isLet c = true) : letW c = Ce.letV c := by rw [letW, h]; rfl

set_option maxRecDepth 100000 in
set_option maxHeartbeats 4000000 in
theorem r15_parse_any (s : ByteArray) (w : World) (hs : s.size ≤ 1000000) : Calls Tryd.prog 11 #[.string s] w (RetB (parseV (Ce.parse s.data.toList)) w) := by
  obtain ⟨r, hr⟩ : ∃ r, r = parseV (Ce.parse s.data.toList) := ⟨_, rfl⟩
  rw [← hr]
  have HR := Lib.hid hr; clear hr
  obtain ⟨ac, hac⟩ : ∃ b, b = Lib.hasPrefix s.data.toList [36] := ⟨_, rfl⟩
  obtain ⟨p0, hp0⟩ : ∃ p : Nat, p = if ac then 1 else 0 := ⟨_, rfl⟩
  have hn : ac = decide (∃ h : 0 < s.size, (s[0].toNat : Int) = 36) := by
    rw [hac]; have := Dc.hasPrefix_one s 0 36; rw [List.drop_zero] at this; exact this
  have hp0s : p0 ≤ s.size := by
    cases ac
    · simp at hp0; omega
    · obtain ⟨h4, _⟩ := of_decide_eq_true hn.symm
      simp at hp0; omega
  have HAC := Lib.hid hac; have HP0 := Lib.hid hp0; have HNN := Lib.hid hn; clear hac hp0 hn
  go_enter Tryd.func11, Tryd.ntmps11
  go_upto_region 3 with (fail)
  go_cut [20] (fun a wr => a = .bool ac ∧ wr = (w.alloc (.cells #[.int .i64 0, .int .i64 0, .bool false, .bool false] 23)).alloc (.cells #[.int .i64 0, .int .i64 0, .bool false, .bool false] 23))
  case first =>
    by_cases h0 : s.size = 0
    · have hf : false = ac := by rw [HNN.out]; simp [h0]
      have HF := Lib.hid hf; have H0 := Lib.hid h0; clear hf
      replace h0 : s.size ≤ 0 := by omega
      go_wp2; go_meet; exact ⟨congrArg Value.bool HF.out, rfl⟩
    · replace h0 : 0 < s.size := by omega
      have hf : ((s[0].toNat : Int) == 36) = ac := by rw [HNN.out, Bool.eq_iff_iff]; simp [h0]
      have HF := Lib.hid hf; clear hf
      go_wp2; go_meet; exact ⟨congrArg Value.bool HF.out, rfl⟩
  case rest =>
    obtain ⟨rfl, rfl⟩ := hcut
    go_upto_if 20 with (fail)
    go_cut [5] (fun a wr => a = .int .i64 p0 ∧ Wd w wr 0 0 ac false)
    case first =>
      have hwd := wd_init w
      obtain ⟨W0, hW0⟩ : ∃ W0, W0 = ((w.alloc (.cells #[.int .i64 0, .int .i64 0, .bool false, .bool false] 23)).alloc (.cells #[.int .i64 0, .int .i64 0, .bool false, .bool false] 23)) := ⟨_, rfl⟩
      rw [← hW0] at hwd ⊢
      have b2 := hwd.b.get 2 rfl
      have f2 := hwd.fb 2
      have HWD := Lib.hid hwd
      have h := HP0.out
      clear hwd hW0
      cases ac
      · have e : p0 = 0 := by simpa using h
        subst e; clear h
        go_wp2; go_meet; exact ⟨rfl, HWD.out⟩
      · have e : p0 = 1 := by simpa using h
        subst e; clear h
        go_wp2; go_meet; exact ⟨rfl, HWD.out.set 2 (by simp) _ rfl⟩
    case rest =>
      obtain ⟨rfl, hwd⟩ := hcut
      have HWD := Lib.hid hwd; clear hwd
      go_wp2_with fail
      go_loop [5, 6] (fun i v => ∃ k : Nat, p0 ≤ k ∧ k ≤ s.size ∧ i = .int .i64 k ∧ ((s.data.toList.drop p0).take (k - p0)).all Ce.isLet = true ∧ v = .int .i64 (Ce.colM ((s.data.toList.drop p0).take (k - p0)))) (fun i _ => s.size - (intOf i).toNat)
      case atStart => exact ⟨p0, Nat.le_refl _, hp0s, rfl, by simp, by simp [Ce.colM]⟩
      case round =>
        obtain ⟨k, hk0, hk, rfl, hall, rfl⟩ := hrel
        have hbd := Ce.colM_bd _ hall
        obtain ⟨v, hv⟩ : ∃ v, v = Ce.colM ((s.data.toList.drop p0).take (k - p0)) := ⟨_, rfl⟩
        rw [← hv] at hbd ⊢
        obtain ⟨v0, v1⟩ := hbd
        have HA := Lib.hid hall; have HV := Lib.hid hv; clear hall hv
        by_cases hgo : ∃ h : k < s.size, Ce.isLet s[k] = true
        · obtain ⟨hlt, hd⟩ := hgo
          have hsn := Lib.hid (Ce.take_drop_snoc s p0 k hk0 hlt)
          have hl := fun W => r15_letter_any s[k] W
          rw [letW_yes hd] at hl
          have hlb := Ce.letV_bd hd
          obtain ⟨x, hx⟩ : ∃ x, x = Ce.letV s[k] := ⟨_, rfl⟩
          rw [← hx] at hl hlb
          obtain ⟨x0, x1⟩ := hlb
          have hsc := Ce.colM_snoc ((s.data.toList.drop p0).take (k - p0)) s[k]
          rw [← HV.out, ← hx] at hsc
          have HSC := Lib.hid hsc; have HD := Lib.hid hd; have HL := Lib.hid hl; clear hd hl hsc hx
          go_wp2_with (go_at_call 36; (with_reducible refine (HL.out _).mono ?_); rintro e w' ⟨rfl, rfl⟩)
          go_round
          case rel => exact ⟨k + 1, by omega, by omega, by go_num, by rw [hsn.out, List.all_append, HA.out]; simp [HD.out], by rw [hsn.out, HSC.out]; exact congrArg (Value.int .i64) (by split <;> omega)⟩
          case measure => simp [intOf]; omega
        · have hst : ∀ h : k < s.size, Ce.isLet s[k] = false := fun h => by
            cases e : Ce.isLet s[k] with
            | false => rfl
            | true => exact absurd ⟨h, e⟩ hgo
          have HST := Lib.hid hst; clear hst hgo
          go_upto_region 8 with (fail)
          go_cut [35] (fun a w' => a = .bool false ∧ w' = wc)
          case first => as_aux_lemma =>
            by_cases hlt : k < s.size
            · have hl := fun W => r15_letter_any s[k] W
              rw [letW_no (HST.out hlt)] at hl
              have HL := Lib.hid hl; clear hl
              go_wp2_with (go_at_call 36; (with_reducible refine (HL.out _).mono ?_); rintro e w' ⟨rfl, rfl⟩)
              go_meet
              exact ⟨rfl, rfl⟩
            · go_wp2
              go_meet
              exact ⟨rfl, rfl⟩
          case rest => as_aux_lemma =>
           obtain ⟨rfl, hwc⟩ := hcut
           subst hwc
           by_cases hbad : k = p0 ∨ p0 + 3 < k
           · have hrr := HR.out
             rw [Ce.parse_no1 s ac p0 k HAC.out HP0.out hk0 hk HA.out HST.out hbad] at hrr
             have HRR := Lib.hid hrr; clear hrr
             have hwd := HWD.out
             have a0 := hwd.a.get 0 rfl
             have a1 := hwd.a.get 1 rfl
             have a2 := hwd.a.get 2 rfl
             have a3 := hwd.a.get 3 rfl
             have f0 := hwd.fa 0
             have f1 := hwd.fa 1
             have f2 := hwd.fa 2
             have f3 := hwd.fa 3
             clear hwd
             rcases hbad with hb | hb
             · have b1 : ((k : Int) == p0) = true := beq_iff_eq.2 (by omega)
               have HB := Lib.hid hb; clear hb
               go_wp2
               (obtain ⟨X_, hX_⟩ : ∃ X, X = ((wc).setCells (w.heap.size) 0 [.int .i64 0, .int .i64 0, .bool false, .bool false]) := ⟨_, rfl⟩; change bodyPost _ _ _ _ _ ((wc).setCells (w.heap.size) 0 [.int .i64 0, .int .i64 0, .bool false, .bool false]); rw [← hX_]; have D_ : Cs X_ (w.heap.size) [.int .i64 0, .int .i64 0, .bool false, .bool false] := (by rw [hX_]; exact Cs.stored [.int .i64 0, .int .i64 0, .bool false, .bool false] (HWD.out.a) rfl); have x0_ := D_.get 0 rfl; have x1_ := D_.get 1 rfl; have x2_ := D_.get 2 rfl; have x3_ := D_.get 3 rfl; have hXB_ : Below w.heap.size w X_ := (by rw [hX_]; exact below_setCells (by first | omega | simp) _ _ (HWD.out.below)); clear hX_ D_; refine bodyPost_ret (v := .tuple #[.agg #[.int .i64 0, .int .i64 0, .bool false, .bool false], .int .i64 3]) (by (simp [results, Tryd.results11, go_sem, x0_, x1_, x2_, x3_]; done)) rfl (RetB.of HRR.out.symm hXB_))
             · have b1 : ((k : Int) == p0) = false := beq_eq_false_iff_ne.2 (by omega)
               go_wp2
               (obtain ⟨X_, hX_⟩ : ∃ X, X = ((wc).setCells (w.heap.size) 0 [.int .i64 0, .int .i64 0, .bool false, .bool false]) := ⟨_, rfl⟩; change bodyPost _ _ _ _ _ ((wc).setCells (w.heap.size) 0 [.int .i64 0, .int .i64 0, .bool false, .bool false]); rw [← hX_]; have D_ : Cs X_ (w.heap.size) [.int .i64 0, .int .i64 0, .bool false, .bool false] := (by rw [hX_]; exact Cs.stored [.int .i64 0, .int .i64 0, .bool false, .bool false] (HWD.out.a) rfl); have x0_ := D_.get 0 rfl; have x1_ := D_.get 1 rfl; have x2_ := D_.get 2 rfl; have x3_ := D_.get 3 rfl; have hXB_ : Below w.heap.size w X_ := (by rw [hX_]; exact below_setCells (by first | omega | simp) _ _ (HWD.out.below)); clear hX_ D_; refine bodyPost_ret (v := .tuple #[.agg #[.int .i64 0, .int .i64 0, .bool false, .bool false], .int .i64 3]) (by (simp [results, Tryd.results11, go_sem, x0_, x1_, x2_, x3_]; done)) rfl (RetB.of HRR.out.symm hXB_))
           · obtain ⟨ar, har⟩ : ∃ b, b = Lib.hasPrefix (s.data.toList.drop k) [36] := ⟨_, rfl⟩
             have hdd := Dc.hasPrefix_one s k 36
             rw [← har] at hdd
             obtain ⟨p1, hp1⟩ : ∃ p : Nat, p = if ar then k + 1 else k := ⟨_, rfl⟩
             have hp1s : p1 ≤ s.size ∧ k ≤ p1 ∧ p1 ≤ k + 1 := by
               cases ar
               · simp at hp1; omega
               · obtain ⟨h4, _⟩ := of_decide_eq_true hdd.symm
                 simp at hp1; omega
             have HAR := Lib.hid har; have HDD := Lib.hid hdd; have HP1 := Lib.hid hp1
             clear har hdd hp1
             have b1 : ((k : Int) == p0) = false := beq_eq_false_iff_ne.2 (by omega)
             have hk3 : k ≤ p0 + 3 := by omega
             have HBAD := Lib.hid hbad; clear hbad
             go_upto_region 13 with (fail)
             go_cut [65] (fun a w' => a = .bool ar ∧ w' = wc)
             case first => as_aux_lemma =>
               by_cases hlt : k < s.size
               · have hf : ((s[k].toNat : Int) == 36) = ar := by rw [HDD.out, Bool.eq_iff_iff]; simp [hlt]
                 have HF := Lib.hid hf; clear hf
                 go_wp2; go_meet; exact ⟨congrArg Value.bool HF.out, rfl⟩
               · have hf : false = ar := by rw [HDD.out]; simp [hlt]
                 have HF := Lib.hid hf; clear hf
                 go_wp2; go_meet; exact ⟨congrArg Value.bool HF.out, rfl⟩
             case rest => as_aux_lemma =>
               obtain ⟨rfl, hwc⟩ := hcut
               subst hwc
               go_upto_if 65 with (fail)
               go_cut [5] (fun a wr => a = .int .i64 p1 ∧ Wd w wr 0 0 ac ar)
               case first => as_aux_lemma =>
                 have hwd := HWD.out
                 have b3 := hwd.b.get 3 rfl
                 have f3 := hwd.fb 3
                 have h := HP1.out
                 clear hwd
                 cases ar
                 · have e : p1 = k := by simpa using h
                   subst e; clear h
                   go_wp2; go_meet; exact ⟨rfl, HWD.out⟩
                 · have e : p1 = k + 1 := by simpa using h
                   subst e; clear h
                   go_wp2; go_meet; exact ⟨by go_num, HWD.out.set 3 (by simp) _ rfl⟩
               case rest => as_aux_lemma =>
                 obtain ⟨rfl, hwd⟩ := hcut
                 have HWE := Lib.hid hwd; clear hwd
                 go_wp2_with fail
                 go_loop [5, 8] (fun i v => ∃ j : Nat, p1 ≤ j ∧ j ≤ s.size ∧ i = .int .i64 j ∧ ((s.data.toList.drop p1).take (j - p1)).all Dc.isDig = true ∧ v = .int .i64 (Ce.rowM ((s.data.toList.drop p1).take (j - p1)))) (fun i _ => s.size - (intOf i).toNat)
                 case atStart => exact ⟨p1, Nat.le_refl _, hp1s.1, rfl, by simp, by simp [Ce.rowM]⟩
                 case round =>
                   obtain ⟨j, hj0, hj, rfl, hall, rfl⟩ := hrel
                   have hbd := Ce.rowM_bd _ hall
                   obtain ⟨y, hy⟩ : ∃ y, y = Ce.rowM ((s.data.toList.drop p1).take (j - p1)) := ⟨_, rfl⟩
                   rw [← hy] at hbd ⊢
                   obtain ⟨y0, y1⟩ := hbd
                   have HB := Lib.hid hall; have HY := Lib.hid hy; clear hall hy
                   by_cases hgo : ∃ h : j < s.size, Dc.isDig s[j] = true
                   · obtain ⟨hlt, hd⟩ := hgo
                     have hsn := Lib.hid (Ce.take_drop_snoc s p1 j hj0 hlt)
                     have hcd : 48 ≤ (s[j].toNat : Int) ∧ (s[j].toNat : Int) ≤ 57 := by simpa [Dc.isDig] using hd
                     obtain ⟨hc1, hc2⟩ := hcd
                     have hsc := Ce.rowM_snoc ((s.data.toList.drop p1).take (j - p1)) s[j]
                     rw [← HY.out] at hsc
                     have HSC := Lib.hid hsc; have HD := Lib.hid hd; clear hd hsc
                     go_wp2
                     go_round
                     case rel => exact ⟨j + 1, by omega, by omega, by go_num, by rw [hsn.out, List.all_append, HB.out]; simp [HD.out], by rw [hsn.out, HSC.out]; exact congrArg (Value.int .i64) (by split <;> omega)⟩
                     case measure => simp [intOf]; omega
                   · have hst : ∀ h : j < s.size, Dc.isDig s[j] = false := fun h => by
                       cases e : Dc.isDig s[j] with
                       | false => rfl
                       | true => exact absurd ⟨h, e⟩ hgo
                     have HST2 := Lib.hid hst; clear hst hgo
                     go_upto_region 18 with (fail)
                     go_cut [85] (fun a w' => a = .bool false ∧ w' = wc)
                     case first => as_aux_lemma =>
                       by_cases hlt : j < s.size
                       · have hd := HST2.out hlt
                         have hcd : ¬ (48 ≤ (s[j].toNat : Int) ∧ (s[j].toNat : Int) ≤ 57) := by simp [Dc.isDig] at hd; omega
                         by_cases h48 : 48 ≤ (s[j].toNat : Int)
                         · have h57 : ¬ (s[j].toNat : Int) ≤ 57 := by omega
                           clear hcd hd
                           go_wp2; go_meet; exact ⟨rfl, rfl⟩
                         · clear hcd hd
                           go_wp2; go_meet; exact ⟨rfl, rfl⟩
                       · go_wp2; go_meet; exact ⟨rfl, rfl⟩
                     case rest => as_aux_lemma =>
                       obtain ⟨rfl, hwc⟩ := hcut
                       subst hwc
                       have hpa := Ce.parse_at s ac ar p0 k p1 j HAC.out HP0.out hk0 hk HA.out HST.out HAR.out HP1.out hj0 hj HB.out HST2.out
                       rw [if_neg HBAD.out, ← HV.out, ← HY.out] at hpa
                       obtain ⟨bad, hbad2⟩ : ∃ b, b = decide (j = p1 ∨ p1 + 7 < j ∨ j < s.size ∨ s.data.toList[p1]? = some 48) := ⟨_, rfl⟩
                       have HPA := Lib.hid hpa; have HBAD2 := Lib.hid hbad2; clear hpa hbad2
                       go_upto_region 21 with (fail)
                       go_cut [117] (fun a w' => a = .bool bad ∧ w' = wc)
                       case first => as_aux_lemma =>
                         by_cases c1 : j = p1
                         · have hf : true = bad := by rw [HBAD2.out]; simp [c1]
                           have b1 : ((j : Int) == p1) = true := beq_iff_eq.2 (by omega)
                           have HF := Lib.hid hf; clear hf c1
                           go_wp2; go_meet; exact ⟨congrArg Value.bool HF.out, rfl⟩
                         · have b1 : ((j : Int) == p1) = false := beq_eq_false_iff_ne.2 (by omega)
                           by_cases c2 : p1 + 7 < j
                           · have hf : true = bad := by rw [HBAD2.out]; simp [c2]
                             have HF := Lib.hid hf; clear hf c1
                             go_wp2; go_meet; exact ⟨congrArg Value.bool HF.out, rfl⟩
                           · by_cases c3 : j < s.size
                             · have hf : true = bad := by rw [HBAD2.out]; simp [c3]
                               have HF := Lib.hid hf; clear hf c1
                               go_wp2; go_meet; exact ⟨congrArg Value.bool HF.out, rfl⟩
                             · have hlt : p1 < s.size := by omega
                               have hf : ((s[p1].toNat : Int) == 48) = bad := by
                                 rw [HBAD2.out, bs_getElem? s p1 hlt, Bool.eq_iff_iff]
                                 simp only [c1, c2, c3, false_or, decide_eq_true_eq, beq_iff_eq, Option.some.injEq]
                                 exact ⟨fun e => UInt8.toNat_inj.1 (Int.ofNat.inj e), fun e => by rw [e]; rfl⟩
                               have c2' : decide ((p1 : Int) + 7 < (j : Int)) = false := by simpa using (by omega : (j : Int) ≤ p1 + 7)
                               have HF := Lib.hid hf; clear hf c1
                               go_wp2; go_meet; exact ⟨congrArg Value.bool HF.out, rfl⟩
                       case rest => as_aux_lemma =>
                         obtain ⟨rfl, hwc⟩ := hcut
                         subst hwc
                         have hwd := HWE.out
                         have a0 := hwd.a.get 0 rfl
                         have a1 := hwd.a.get 1 rfl
                         have a2 := hwd.a.get 2 rfl
                         have a3 := hwd.a.get 3 rfl
                         have f0 := hwd.fa 0
                         have f1 := hwd.fa 1
                         have f2 := hwd.fa 2
                         have f3 := hwd.fa 3
                         have b0 := hwd.b.get 0 rfl
                         have b1 := hwd.b.get 1 rfl
                         have b2 := hwd.b.get 2 rfl
                         have b3 := hwd.b.get 3 rfl
                         have g0 := hwd.fb 0
                         have g1 := hwd.fb 1
                         clear hwd
                         cases bad with
                         | true =>
                           have hrr := HR.out
                           rw [HPA.out, if_pos (of_decide_eq_true HBAD2.out.symm)] at hrr
                           have HRR := Lib.hid hrr; clear hrr
                           go_wp2
                           (obtain ⟨X_, hX_⟩ : ∃ X, X = ((wc).setCells (w.heap.size) 0 [.int .i64 0, .int .i64 0, .bool false, .bool false]) := ⟨_, rfl⟩; change bodyPost _ _ _ _ _ ((wc).setCells (w.heap.size) 0 [.int .i64 0, .int .i64 0, .bool false, .bool false]); rw [← hX_]; have D_ : Cs X_ (w.heap.size) [.int .i64 0, .int .i64 0, .bool false, .bool false] := (by rw [hX_]; exact Cs.stored [.int .i64 0, .int .i64 0, .bool false, .bool false] (HWE.out.a) rfl); have x0_ := D_.get 0 rfl; have x1_ := D_.get 1 rfl; have x2_ := D_.get 2 rfl; have x3_ := D_.get 3 rfl; have hXB_ : Below w.heap.size w X_ := (by rw [hX_]; exact below_setCells (by first | omega | simp) _ _ (HWE.out.below)); clear hX_ D_; refine bodyPost_ret (v := .tuple #[.agg #[.int .i64 0, .int .i64 0, .bool false, .bool false], .int .i64 3]) (by (simp [results, Tryd.results11, go_sem, x0_, x1_, x2_, x3_]; done)) rfl (RetB.of HRR.out.symm hXB_))
                         | false =>
                           have hrr := HR.out
                           rw [HPA.out, if_neg (of_decide_eq_false HBAD2.out.symm)] at hrr
                           have HRR := Lib.hid hrr; clear hrr
                           go_upto_region 25 with (fail)
                           have hwd := (HWE.out.set 0 (by simp) (.int .i64 (v - 1)) rfl).set 1 (by simp) (.int .i64 (y - 1)) rfl
                           obtain ⟨X, hX⟩ : ∃ X, X = ((wc.setCell ⟨w.heap.size + 1, 0, none⟩ (.int .i64 (v - 1))).setCell ⟨w.heap.size + 1, 1, none⟩ (.int .i64 (y - 1))) := ⟨_, rfl⟩
                           rw [← hX] at hwd ⊢
                           clear hX a0 a1 a2 a3 f0 f1 f2 f3 b0 b1 b2 b3 g0 g1
                           have a0 := hwd.a.get 0 rfl
                           have a1 := hwd.a.get 1 rfl
                           have a2 := hwd.a.get 2 rfl
                           have a3 := hwd.a.get 3 rfl
                           have f0 := hwd.fa 0
                           have f1 := hwd.fa 1
                           have f2 := hwd.fa 2
                           have f3 := hwd.fa 3
                           have b0 := hwd.b.get 0 rfl
                           have b1 := hwd.b.get 1 rfl
                           have b2 := hwd.b.get 2 rfl
                           have b3 := hwd.b.get 3 rfl
                           have hsz := hwd.size
                           have HWX := Lib.hid hwd; clear hwd
                           have hrt := fun W => r15_right_any (v - 1) (y - 1) ac ar W
                           cases h : Ce.right ⟨v - 1, y - 1, ac, ar⟩ with
                           | false =>
                             rw [h] at hrt
                             have hrr := HRR.out
                             rw [if_neg (by rw [h]; simp)] at hrr
                             have HRT := Lib.hid hrt; have HRS := Lib.hid hrr; clear hrt hrr h
                             go_wp2_with (go_at_call 13; (with_reducible refine (HRT.out _).mono ?_); rintro e w1 ⟨rfl, hb_w1⟩; have hB_w1 : Below (X).heap.size (X) w1 := Below.trans (by (repeat (first | exact Below.refl _ _ | assumption | refine Below.setCell ?_ (by first | omega | (simp <;> omega)) _ | refine Below.alloc ?_ (by first | omega | (simp <;> omega)) _ | refine Below.drew ?_ | refine below_drewN' ?_ _))) (hb_w1.mono (by first | omega | (simp <;> omega))); obtain ⟨hc_w1, hf_w1⟩ := bcell hb_w1; have hz_w1 := hb_w1.size; (try simp only [size_drew', size_drewN', World.size_alloc, World.size_setCell] at hz_w1); have hl0_w1 : w.heap.size < w1.heap.size := (by omega); have hm0_w1 : w.heap.size ≤ w1.heap.size := (by omega); have hn0_w1 : ¬ w.heap.size = w1.heap.size := (by omega); have hq0_w1 : ¬ w1.heap.size = w.heap.size := (by omega); have hr0_w1 := fun o => hc_w1 (w.heap.size) o (by (try simp only [size_drew', size_drewN', World.size_alloc, World.size_setCell]); omega); have hg0_w1 := fun o => hf_w1 (w.heap.size) o (by (try simp only [size_drew', size_drewN', World.size_alloc, World.size_setCell]); omega); have hl1_w1 : w.heap.size + 1 < w1.heap.size := (by omega); have hm1_w1 : w.heap.size + 1 ≤ w1.heap.size := (by omega); have hn1_w1 : ¬ w.heap.size + 1 = w1.heap.size := (by omega); have hq1_w1 : ¬ w1.heap.size = w.heap.size + 1 := (by omega); have hr1_w1 := fun o => hc_w1 (w.heap.size + 1) o (by (try simp only [size_drew', size_drewN', World.size_alloc, World.size_setCell]); omega); have hg1_w1 := fun o => hf_w1 (w.heap.size + 1) o (by (try simp only [size_drew', size_drewN', World.size_alloc, World.size_setCell]); omega))
                             (obtain ⟨X_, hX_⟩ : ∃ X, X = ((w1).setCells (w.heap.size) 0 [.int .i64 0, .int .i64 0, .bool false, .bool false]) := ⟨_, rfl⟩; change bodyPost _ _ _ _ _ ((w1).setCells (w.heap.size) 0 [.int .i64 0, .int .i64 0, .bool false, .bool false]); rw [← hX_]; have D_ : Cs X_ (w.heap.size) [.int .i64 0, .int .i64 0, .bool false, .bool false] := (by rw [hX_]; exact Cs.stored [.int .i64 0, .int .i64 0, .bool false, .bool false] (HWX.out.a.on hB_w1) rfl); have x0_ := D_.get 0 rfl; have x1_ := D_.get 1 rfl; have x2_ := D_.get 2 rfl; have x3_ := D_.get 3 rfl; have hXB_ : Below w.heap.size w X_ := (by rw [hX_]; exact below_setCells (by first | omega | simp) _ _ (HWX.out.below.trans (hB_w1.mono (Nat.le_of_lt (Nat.lt_of_succ_lt HWX.out.size))))); clear hX_ D_; refine bodyPost_ret (v := .tuple #[.agg #[.int .i64 0, .int .i64 0, .bool false, .bool false], .int .i64 14]) (by (simp [results, Tryd.results11, go_sem, x0_, x1_, x2_, x3_]; done)) rfl (RetB.of HRS.out.symm hXB_))
                           | true =>
                             rw [h] at hrt
                             have hrr := HRR.out
                             rw [if_pos h] at hrr
                             have HRT := Lib.hid hrt; have HRS := Lib.hid hrr; clear hrt hrr h
                             go_wp2_with (go_at_call 13; (with_reducible refine (HRT.out _).mono ?_); rintro e w1 ⟨rfl, hb_w1⟩; have hB_w1 : Below (X).heap.size (X) w1 := Below.trans (by (repeat (first | exact Below.refl _ _ | assumption | refine Below.setCell ?_ (by first | omega | (simp <;> omega)) _ | refine Below.alloc ?_ (by first | omega | (simp <;> omega)) _ | refine Below.drew ?_ | refine below_drewN' ?_ _))) (hb_w1.mono (by first | omega | (simp <;> omega))); obtain ⟨hc_w1, hf_w1⟩ := bcell hb_w1; have hz_w1 := hb_w1.size; (try simp only [size_drew', size_drewN', World.size_alloc, World.size_setCell] at hz_w1); have hl0_w1 : w.heap.size < w1.heap.size := (by omega); have hm0_w1 : w.heap.size ≤ w1.heap.size := (by omega); have hn0_w1 : ¬ w.heap.size = w1.heap.size := (by omega); have hq0_w1 : ¬ w1.heap.size = w.heap.size := (by omega); have hr0_w1 := fun o => hc_w1 (w.heap.size) o (by (try simp only [size_drew', size_drewN', World.size_alloc, World.size_setCell]); omega); have hg0_w1 := fun o => hf_w1 (w.heap.size) o (by (try simp only [size_drew', size_drewN', World.size_alloc, World.size_setCell]); omega); have hl1_w1 : w.heap.size + 1 < w1.heap.size := (by omega); have hm1_w1 : w.heap.size + 1 ≤ w1.heap.size := (by omega); have hn1_w1 : ¬ w.heap.size + 1 = w1.heap.size := (by omega); have hq1_w1 : ¬ w1.heap.size = w.heap.size + 1 := (by omega); have hr1_w1 := fun o => hc_w1 (w.heap.size + 1) o (by (try simp only [size_drew', size_drewN', World.size_alloc, World.size_setCell]); omega); have hg1_w1 := fun o => hf_w1 (w.heap.size + 1) o (by (try simp only [size_drew', size_drewN', World.size_alloc, World.size_setCell]); omega))
                             (obtain ⟨X_, hX_⟩ : ∃ X, X = ((w1).setCells (w.heap.size) 0 [.int .i64 (v - 1), .int .i64 (y - 1), .bool ac, .bool ar]) := ⟨_, rfl⟩; change bodyPost _ _ _ _ _ ((w1).setCells (w.heap.size) 0 [.int .i64 (v - 1), .int .i64 (y - 1), .bool ac, .bool ar]); rw [← hX_]; have D_ : Cs X_ (w.heap.size) [.int .i64 (v - 1), .int .i64 (y - 1), .bool ac, .bool ar] := (by rw [hX_]; exact Cs.stored [.int .i64 (v - 1), .int .i64 (y - 1), .bool ac, .bool ar] (HWX.out.a.on hB_w1) rfl); have x0_ := D_.get 0 rfl; have x1_ := D_.get 1 rfl; have x2_ := D_.get 2 rfl; have x3_ := D_.get 3 rfl; have hXB_ : Below w.heap.size w X_ := (by rw [hX_]; exact below_setCells (by first | omega | simp) _ _ (HWX.out.below.trans (hB_w1.mono (Nat.le_of_lt (Nat.lt_of_succ_lt HWX.out.size))))); clear hX_ D_; refine bodyPost_ret (v := .tuple #[.agg #[.int .i64 (v - 1), .int .i64 (y - 1), .bool ac, .bool ar], .int .i64 0]) (by (simp [results, Tryd.results11, go_sem, x0_, x1_, x2_, x3_]; done)) rfl (RetB.of HRS.out.symm hXB_))
end Go.Proofs.YtbbeeglfgnabmaaDoor
