/- Patterns in the program: one step of the reader: a quoted text, rune by rune. (Printed by gen/mkp32.py.) -/
import Derived.Test.YticodcecillciaaDoorZ14
import Derived.Defers
import Derived.Recover
import Derived.Laws.Pointers
import Derived.Deep.RegionLaw
import Derived.Lib.IndexMore
namespace Go.Proofs.YticodcecillciaaDoor
set_option linter.all false
open Go.RowKit

theorem quoted_stop {s : ByteArray} {p stop f : Nat} {st : Pa.St} (h : ¬ st.pos < stop) : Pa.quoted s p stop f st = .ok st := by
  cases f with
  | zero => rfl
  | succ f => unfold Pa.quoted; rw [if_neg h]

set_option maxRecDepth 100000 in
set_option maxHeartbeats 8000000 in
theorem rd_quote_loop (y : Lay) (s : ByteArray) (st : Pa.St) (base n : Nat) (w : World) (G : Pa.M Pa.St) (h : RdAt w base y s st) (hb : base ≤ w.heap.size) (hk : Ok s st) (hp : st.pos < s.size) (hu : U8b base w) (hc : Pa.ch s st.pos = 34)
    (hn : Lib.indexByte (s.extract (st.pos + 1) s.size).data.toList 34 = n) (hns : st.pos + 1 + n < s.size) (hq34 : Pa.ch s (st.pos + 1 + n) < 128) (hv : Lib.validD (s.extract (st.pos + 1) (st.pos + 1 + n)).data.toList = true)
    (hG : G = Pa.quoted s st.pos (st.pos + 1 + n) (n + 1) { st with pos := st.pos + 1, opn := false }) :
    Calls Tryd.prog 37 #[.pointer (some ⟨y.R, 0, none⟩)] w (PutR w base y.R s (G.bind fun x => .ok { x with pos := x.pos + 1 })) := by
  have hss := hk.fit.size
  have hix := index_ch s st.pos hp
  rw [hc] at hix
  have hsl : ∀ W : World, (Instr.slice 9 (.string s) (some (.int .i64 ((st.pos + 1 : Nat) : Int))) none none).run Tryd.prog W = .ok (.string (s.extract (st.pos + 1) s.size)) W := fun W => by
    rw [run_slice_string_from_if W _ s .i64 _ Tryd.underlying9, if_pos (by omega), Int.toNat_natCast]
  have hib := fun W => indexByte_str (s.extract (st.pos + 1) s.size) 34 W
  have lowR := h.low
  have r0 := h.rd.get 0 rfl
  have r1 := h.rd.get 1 rfl
  have fr := h.rd.frozen
  have hRl := h.rd.lt
  have hu1 : ∀ W, Below base (w.setCell ⟨y.R, 1, none⟩ (.int .i64 ((st.pos + 1 : Nat) : Int))) W → U8 W := fun W hW => (hu.on (((Below.refl base w).setCell (p := ⟨y.R, 1, none⟩) h.low _).trans hW)).u8 (by have := hW.size; simp at this; omega)
  have hva := fun W hW => valid_call (s.extract (st.pos + 1) (st.pos + 1 + n)) W (by rw [ByteArray.size_extract]; omega) (hu1 W hW)
  rw [hv] at hva
  have hk1 := (hk.at (st.pos + 1) (by omega) (by omega)).opn false (by simp only; omega)
  have hW1 := h.pos (st.pos + 1)
  have hRD : ∀ W, Below (w.setCell ⟨y.R, 1, none⟩ (.int .i64 ((st.pos + 1 : Nat) : Int))).heap.size (w.setCell ⟨y.R, 1, none⟩ (.int .i64 ((st.pos + 1 : Nat) : Int))) W → W.cell? ⟨y.R, 1, none⟩ = some (.int .i64 ((st.pos + 1 : Nat) : Int)) ∧ W.cell? ⟨y.R, 5, none⟩ = some (.bool st.opn) ∧ (∀ i, W.frozen? ⟨y.R, i, none⟩ = false) ∧ RdAt (W.setCell ⟨y.R, 5, none⟩ (.bool false)) base y s { st with pos := st.pos + 1, opn := false } := fun W hW =>
    ⟨(hW1.on hW).rd.get 1 rfl, (hW1.on hW).rd.get 5 rfl, (hW1.on hW).rd.frozen, (hW1.on hW).opn false⟩
  obtain ⟨R, vS, vF, vis⟩ := y
  simp only [] at r0 r1 fr lowR hRl ⊢
  have e9 : ((st.pos : Nat) : Int) < (s.size : Int) := by omega
  obtain ⟨P, hP⟩ : ∃ P : Int, P = (st.pos : Int) := ⟨_, rfl⟩
  obtain ⟨Q, hQ⟩ : ∃ P : Int, P = ((st.pos + 1 : Nat) : Int) := ⟨_, rfl⟩
  rw [← hQ] at hsl
  simp only [← hP] at r1 hix e9 ⊢
  have e1 : P + 1 = Q := by omega
  have b1 : 0 ≤ P := by omega
  have b2 : P ≤ 1000000 := by omega
  simp only [← hQ] at hRD
  have q0 := (h.pos (st.pos + 1)).rd.get 0 rfl
  have q1 := (h.pos (st.pos + 1)).rd.get 1 rfl
  simp only [← hQ] at q0 q1
  have cc0 : ∀ n, ((w.setCell ⟨R, 1, none⟩ (.int .i64 Q)).drewN n).drew.cell? ⟨R, 0, none⟩ = some (.string s) := fun _ => q0
  have cc1 : ∀ n, ((w.setCell ⟨R, 1, none⟩ (.int .i64 Q)).drewN n).drew.cell? ⟨R, 1, none⟩ = some (.int .i64 Q) := fun _ => q1
  clear q0 q1 hW1
  obtain ⟨Z, hZ⟩ : ∃ P : Int, P = ((st.pos + 1 + n : Nat) : Int) := ⟨_, rfl⟩
  rw [hn] at hib
  replace hib : ∀ W, Calls Tryd.prog 52 #[.string (s.extract (st.pos + 1) s.size), .int .u8 34] W (Ret0 (.int .i64 (n : Int)) W) := hib
  generalize s.extract (st.pos + 1) s.size = T at *
  have hT2 : s.extract Q.toNat Z.toNat = s.extract (st.pos + 1) (st.pos + 1 + n) := by rw [hQ, hZ, Int.toNat_natCast, Int.toNat_natCast]
  generalize s.extract (st.pos + 1) (st.pos + 1 + n) = T2 at *
  simp only [← hQ] at hva
  obtain ⟨N, hN⟩ : ∃ N : Int, N = (n : Int) := ⟨_, rfl⟩
  rw [← hN] at hib
  have z1 : Q + N = Z := by omega
  have z2 : 0 ≤ N := by omega
  have z3 : N ≤ 1000000 := by omega
  have z4 : 0 ≤ Z := by omega
  have z5 : Z ≤ 2000000 := by omega
  have z6 : decide (N < 0) = false := decide_eq_false (by omega)
  have z7 : IntKind.i64.wrap Q = Q := IntWalk.i64_in _ (by omega)
  have z8 : IntKind.i64.wrap Z = Z := IntWalk.i64_in _ (by omega)
  have z9 : 0 ≤ Q := by omega
  have y1 : Q ≤ Z := by omega
  have y2 : Z ≤ (s.size : Int) := by omega
  have y3 : s.extract Q.toNat Z.toNat = T2 := hT2
  obtain ⟨stop, hstop⟩ : ∃ m, m = st.pos + 1 + n := ⟨_, rfl⟩
  rw [← hstop] at hZ hq34 hG
  obtain ⟨st1, hst1⟩ : ∃ x : Pa.St, x = { st with pos := st.pos + 1, opn := false } := ⟨_, rfl⟩
  rw [← hst1] at hRD hk1 hG
  obtain ⟨p, hpp⟩ : ∃ m, m = st.pos := ⟨_, rfl⟩
  rw [← hpp] at hG hP
  have hp1 : st1.pos = st.pos + 1 := by rw [hst1]
  have k0 : 0 < st1.pos := by omega
  have k1 : st1.pos ≤ stop := by omega
  have k2 : stop < st1.pos + (n + 1) := by omega
  have ks : stop + 1 ≤ s.size := by omega
  have HC := Lib.hid hib; have HLR := Lib.hid lowR; have HV := Lib.hid hva; have HB := Lib.hid hb; have HRD := Lib.hid hRD; have HU := Lib.hid hu; have HOK := Lib.hid hk1; have HG := Lib.hid hG
  have HK0 := Lib.hid k0; have HK1 := Lib.hid k1; have HK2 := Lib.hid k2; have HKS := Lib.hid ks; have HZ := Lib.hid hZ; have HP := Lib.hid hP; have HSS := Lib.hid hss; have H34 := Lib.hid hq34
  clear hib hk h hss hP hQ lowR hp hb hc hn hns hv hu hu1 hZ hN hva hRD hk1 hG hst1 hpp k0 k1 k2 ks hp1 hstop hq34
  go_enter Tryd.func37, Tryd.ntmps37
  go_wp2_with fail
  go_quiet (first | (go_at_call 52; with_reducible exact quiet0p (HC.out _)))
  go_wp2_with fail
  refine wp_region_still_tail 18 (by kernel_rfl) (by kernel_rfl) ?_
  simp only [List.take_succ_cons, List.take_zero, List.drop_succ_cons, List.drop_zero]
  change wpStill _ _ (World.drew _) _ _ _
  repeat still_step
  try refine wpStill_nil ?_
  change wpList _ _ _ _ _ (World.drew _)
  go_wp2_with (go_at_call 53; (with_reducible refine (HV.out _ (by (repeat (first | exact Below.refl _ _ | assumption | refine Below.setCell ?_ (by first | omega | (simp <;> omega)) _ | refine Below.alloc ?_ (by first | omega | (simp <;> omega)) _ | refine Below.drew ?_ | refine below_drewN' ?_ _)))).mono ?_); rintro e w1 ⟨rfl, hb_w1⟩; have hB1 : Below base w w1 := Below.trans (((below_drewN' ((Below.refl _ _).setCell (p := ⟨R, 1, none⟩) HLR.out _) _).drew)) (hb_w1.mono (by simpa using HB.out)); obtain ⟨x1, x5, xf, hX⟩ := HRD.out w1 (Below.trans (below_drewN' (Below.refl _ _) _).drew (hb_w1.mono (by simp))); have HX := Lib.hid hX; clear hX)
  have hBX := hB1.setCell (p := ⟨R, 5, none⟩) HLR.out (.bool false)
  have HBX := Lib.hid hBX
  clear hBX hB1
  go_loopw [6] (fun _ wr => ∃ (y2 : Lay) (st2 : Pa.St) (f : Nat), R = y2.R ∧ Hid (RdAt wr base y2 s st2) ∧ Hid (Ok s st2) ∧ 0 < st2.pos ∧ st2.pos ≤ stop ∧ Hid (Below base w wr) ∧ Hid (G = Pa.quoted s p stop f st2) ∧ stop < st2.pos + f) (fun _ wr => stop - (intOf ((wr.cell? ⟨R, 1, none⟩).getD (.int .i64 0))).toNat)
  case atStart => exact ⟨⟨R, vS, vF, vis⟩, st1, n + 1, rfl, HX, HOK, HK0.out, HK1.out, HBX, HG, HK2.out⟩
  case round =>
    obtain ⟨⟨R2, vS2, vF2, vis2⟩, st2, f, hyR, HRW, HOk, hp0, hps, HBW, HQ, hf⟩ := hrel
    simp only [] at hyR
    subst hyR
    have q1 := HRW.out.rd.get 1 rfl
    have qf := HRW.out.rd.frozen
    have hRl := HRW.out.rd.lt
    simp only [] at q1 qf hRl
    clear x1 x5 xf
    by_cases hlt : st2.pos < stop
    · obtain ⟨f, rfl⟩ : ∃ f', f = f' + 1 := ⟨f - 1, by omega⟩
      have hq := HQ.out
      unfold Pa.quoted at hq
      rw [if_pos hlt] at hq
      have hrune := rd_rune_any ⟨R, vS2, vF2, vis2⟩ s st2 base p wr HRW.out (by have := HBW.out.size; have := HB.out; omega) HOk.out.fit.pos HSS.out ((HU.out.on HBW.out).u8 (by have := HBW.out.size; have := HB.out; omega))
      have hinv := fun x (e : Pa.rune s p st2 = .ok x) => HOk.out.rune e
      have hinv2 := fun x (e : Pa.rune s p st2 = .ok x) => rune_inv e
      have hds := Pa.dec_stop s st2.pos stop hlt H34.out
      generalize hGR : Pa.rune s p st2 = GR at hrune hinv hinv2 hq
      clear hGR
      rw [← HP.out] at hrune
      simp only [] at hrune
      have i1 : (st2.pos : Int) < Z := by rw [HZ.out]; omega
      obtain ⟨P2, hP2⟩ : ∃ P : Int, P = ((st2.pos : Nat) : Int) := ⟨_, rfl⟩
      rw [← hP2] at i1 q1
      have HRN := Lib.hid hrune; have HHQ := Lib.hid hq
      clear hrune hq HQ
      cases GR with
      | error x =>
        obtain ⟨xc, xp⟩ := x
        have hE : G = .error (xc, xp) := HHQ.out
        clear HHQ hinv hinv2 HG
        subst hE
        go_wp2_with (go_at_call 55; (with_reducible refine (HRN.out).mono ?_); rintro e w5 ⟨rfl, hB'⟩)
        exact ⟨rfl, rfl, HBW.out.trans hB'⟩
      | ok x =>
        obtain ⟨k3, k4⟩ := hinv _ rfl
        obtain ⟨_, hx, _, _⟩ := hinv2 _ rfl
        have k5 : x.2.pos ≤ stop := by rw [hx]; exact hds
        obtain ⟨T3, st3⟩ := x
        simp only [] at k3 k4 k5
        clear hinv hinv2 hx
        have hput := fun (y2 : Lay) (W : World) (h2 : RdAt W base y2 s st3) (hbW : base ≤ W.heap.size) => rd_put_any y2 s st3 base 1 P2 T3 W h2 hbW k3.fit
        have hpinv := fun st4 (e : Pa.put 1 T3 P2 st3 = .ok st4) => k3.put (by omega) e
        have hHQ : G = (Pa.put 1 T3 P2 st3).bind (Pa.quoted s p stop f) := by rw [hP2]; exact HHQ.out
        clear HHQ hP2
        generalize hGP : Pa.put 1 T3 P2 st3 = GP at hput hpinv hHQ
        clear hGP
        have HPUT := Lib.hid hput; have HHQ := Lib.hid hHQ
        clear hput hHQ
        cases GP with
        | error x =>
          obtain ⟨xc, xp⟩ := x
          have hE : G = .error (xc, xp) := HHQ.out
          clear HHQ hpinv HG
          subst hE
          go_wp2_with (first
            | (go_at_call 55; (with_reducible refine (HRN.out).mono ?_); rintro e w4 ⟨⟨R4, vS4, vF4, vis4⟩, rfl, hy4, hR4, hB4⟩; (obtain rfl : R = R4 := hy4.symm); have HR4 := Lib.hid hR4; clear hR4)
            | (go_at_call 54; (with_reducible refine (HPUT.out ⟨R, vS4, vF4, vis4⟩ _ HR4.out (by have := HBW.out.size; have := hB4.size; have := HB.out; omega)).mono ?_); rintro e w5 ⟨rfl, hB'⟩))
          exact ⟨rfl, rfl, (HBW.out.trans hB4).trans hB'⟩
        | ok st4 =>
          obtain ⟨k6, k7⟩ := hpinv _ rfl
          have hE : G = Pa.quoted s p stop f st4 := HHQ.out
          have HE := Lib.hid hE
          have HK6 := Lib.hid k6
          clear HHQ hpinv hE k6
          go_wp2_with (first
            | (go_at_call 55; (with_reducible refine (HRN.out).mono ?_); rintro e w4 ⟨⟨R4, vS4, vF4, vis4⟩, rfl, hy4, hR4, hB4⟩; (obtain rfl : R = R4 := hy4.symm); have HR4 := Lib.hid hR4; clear hR4)
            | (go_at_call 54; (with_reducible refine (HPUT.out ⟨R, vS4, vF4, vis4⟩ _ HR4.out (by have := HBW.out.size; have := hB4.size; have := HB.out; omega)).mono ?_); rintro e w5 ⟨y5, rfl, hy5, hR5, hB5⟩; have HR5 := Lib.hid hR5; clear hR5))
          go_roundw
          case rel => exact ⟨y5, st4, f, hy5.symm, HR5, HK6, by omega, by omega, Lib.hid ((HBW.out.trans hB4).trans hB5), HE, by omega⟩
          case measure =>
            have q5 := HR5.out.rd.get 1 rfl
            rw [hy5] at q5
            rw [q5, HRW.out.rd.get 1 rfl]
            simp [intOf]; omega
    · have hE : G = .ok st2 := by rw [HQ.out]; exact quoted_stop hlt
      clear HQ HG
      subst hE
      have hst : st2.pos = stop := by omega
      have hfin := HRW.out.pos (st2.pos + 1)
      have i1 : ¬ ((st2.pos : Nat) : Int) < Z := by rw [HZ.out]; omega
      have e3 : ((st2.pos + 1 : Nat) : Int) = ((st2.pos : Nat) : Int) + 1 := by omega
      rw [e3] at hfin
      obtain ⟨P2, hP2⟩ : ∃ P : Int, P = ((st2.pos : Nat) : Int) := ⟨_, rfl⟩
      simp only [← hP2] at i1 q1 hfin
      have j1 : 0 ≤ P2 := by omega
      have j2 : P2 ≤ 1000000 := by have := HSS.out; have := HKS.out; omega
      have HF := Lib.hid hfin
      clear hfin hP2 e3
      go_wp2_with fail
      (first | go_end0 | refine bodyPost_ret (results_none rfl _ _ _) rfl ?_)
      exact ⟨_, rfl, rfl, HF.out, HBW.out.setCell (p := ⟨R, 1, none⟩) HLR.out _⟩
end Go.Proofs.YticodcecillciaaDoor

/- Patterns in the program: one step of the reader, whole. -/
namespace Go.Proofs.YticodcecillciaaDoor
set_option linter.all false
open Go.RowKit

theorem rd_one_any (y : Lay) (s : ByteArray) (st : Pa.St) (base : Nat) (w : World) (h : RdAt w base y s st) (hb : base ≤ w.heap.size) (hk : Ok s st) (hp : st.pos < s.size) (hu : U8b base w) :
    Calls Tryd.prog 37 #[.pointer (some ⟨y.R, 0, none⟩)] w (PutR w base y.R s (Pa.one s st)) := by
  unfold Pa.one
  simp only
  by_cases c1 : Pa.ch s st.pos = 59
  · rw [if_pos c1]; exact rd_one_begin y s st base w h hb hk hp c1
  rw [if_neg c1]
  by_cases c2 : Pa.ch s st.pos = 34
  · rw [if_pos c2]
    by_cases hn : Lib.indexByte (s.extract (st.pos + 1) s.size).data.toList 34 < 0
    · rw [if_pos (.inl hn)]
      exact rd_quote_none y s st base w h hb hk hp c2 hn
    · obtain ⟨q1, q2⟩ := quote_stop hn
      obtain ⟨n, hnn⟩ : ∃ n : Nat, Lib.indexByte (s.extract (st.pos + 1) s.size).data.toList 34 = n := ⟨_, (Int.toNat_of_nonneg (by omega)).symm⟩
      rw [hnn, Int.toNat_natCast] at q1 q2
      rw [hnn, Int.toNat_natCast]
      cases hv : Lib.validD (s.extract (st.pos + 1) (st.pos + 1 + n)).data.toList with
      | false =>
        rw [if_pos (.inr rfl)]
        exact rd_quote_bad y s st base n w h hb hk hp hu c2 hnn q1 hv
      | true =>
        rw [if_neg (by rw [not_or]; exact ⟨by omega, by simp⟩)]
        exact rd_quote_loop y s st base n w _ h hb hk hp hu c2 hnn q1 (by rw [q2]; decide) hv rfl
  rw [if_neg c2]
  by_cases c3 : Pa.ch s st.pos = 92
  · rw [if_pos c3]; exact rd_one_stroke y s st base w h hb hk hp hu c3
  rw [if_neg c3]
  by_cases c4 : Pa.ch s st.pos = 95
  · rw [if_pos c4]; exact rd_one_low y s st base w h hb hk hp hu c4
  rw [if_neg c4]
  by_cases c5 : Pa.ch s st.pos = 44
  · rw [if_pos c5]; exact rd_one_comma y s st base w h hb hk hp c5
  rw [if_neg c5]
  by_cases c6 : Pa.ch s st.pos = 48
  · rw [if_pos (by rw [c6]; rfl)]; exact rd_one_digit48 y s st base w h hb hk hp c6
  by_cases c7 : Pa.ch s st.pos = 35
  · rw [if_pos (by rw [c7]; rfl)]; exact rd_one_digit35 y s st base w h hb hk hp c7
  by_cases c8 : Pa.ch s st.pos = 63
  · rw [if_pos (by rw [c8]; rfl)]; exact rd_one_digit63 y s st base w h hb hk hp c8
  rw [if_neg (by unfold Pa.isDigit; simp [c6, c7, c8])]
  exact rd_one_other y s st base w h hb hk hp (by simp [c1, c2, c3, c4, c5, c6, c7, c8])
end Go.Proofs.YticodcecillciaaDoor

/- Patterns in the program: what Parse defers: a panic of the reader's becomes its answer. -/
namespace Go.Proofs.YticodcecillciaaDoor
set_option linter.all false
open Go.RowKit

section
variable {P : Program} {Q : Exit → Act → List Frame → World → Prop} {a : Act} {cs cs' : List Frame} {w w' : World} {o : Oper} {l : List Oper} {v : Value}
/-- A region that begins with 'recover': what is behind it is walked as ever. -/
theorem wpS_region_recover {id : Nat} (hw : Region.wanted o (yielded (o :: l).toArray a.tmps) = true) (hr : (execOp a.eval o).run P w = .ok .recover w') (hc : recoverD cs = some (v, cs'))
    (h : wpList P (o :: l).toArray (fun e a' w' => Q e a' cs' w') l (a.put o.dst v) w') : (Code.region id (o :: l).toArray false).wpS P Q a cs w := by
  intro b k hb hro
  have h2 : wpOps P (o :: l).toArray (fun e a' w' => Q e a' cs' w') (List.range' 1 l.length) (a.put o.dst v) w' := by
    rw [wpOps_eq_wpList l 1 (fun j => by simp [Nat.add_comm 1 j])]; exact h
  have ho : (o :: l).toArray[0]? = some o := by simp
  obtain ⟨e, a', w'', hq, harr⟩ := wp_ops _ _ _ h2 b k cs'
  have hg := stepG_op (P := P) (b := b) (k := k) (cs := cs) (w := w) (rest := List.range' 1 l.length) ho hw
  have hfin : ∀ v, (b.at a (.inRegion (o :: l).toArray (0 :: List.range' 1 l.length) :: k)).finish v = b.at (a.put o.dst v) (.inRegion (o :: l).toArray (List.range' 1 l.length) :: k) := by
    intro v; rw [Frame.finish_at, ho]; rfl
  have hk : (b.at a (.inRegion (o :: l).toArray (0 :: List.range' 1 l.length) :: k)).kind = .deferred := hb
  have htr := tryRecover_deferred hk cs
  have hrg : List.range (o :: l).toArray.size = 0 :: List.range' 1 l.length := by
    rw [List.range_eq_range']; simp [List.range'_succ]
  have hs := step_region (P := P) (b := b) (a := a) (k := k) (cs := cs) (w := w) (ops := (o :: l).toArray) (id := id)
  rw [hrg] at hs
  refine ⟨e, a', cs', w'', hq, .of_steps (.head hs (.one (step_lone_go ?_))) harr⟩
  rw [hg, ← hfin]
  simp only [Frame.at] at htr ⊢
  simp [stepG.apply, hr, htr, hc]
theorem wpS_region_norecover {id : Nat} (hw : Region.wanted o (yielded (o :: l).toArray a.tmps) = true) (hr : (execOp a.eval o).run P w = .ok .recover w') (hc : recoverD cs = none)
    (h : wpList P (o :: l).toArray (fun e a' w' => Q e a' cs w') l (a.put o.dst .nilIface) w') : (Code.region id (o :: l).toArray false).wpS P Q a cs w := by
  intro b k hb hro
  have h2 : wpOps P (o :: l).toArray (fun e a' w' => Q e a' cs w') (List.range' 1 l.length) (a.put o.dst .nilIface) w' := by
    rw [wpOps_eq_wpList l 1 (fun j => by simp [Nat.add_comm 1 j])]; exact h
  have ho : (o :: l).toArray[0]? = some o := by simp
  obtain ⟨e, a', w'', hq, harr⟩ := wp_ops _ _ _ h2 b k cs
  have hg := stepG_op (P := P) (b := b) (k := k) (cs := cs) (w := w) (rest := List.range' 1 l.length) ho hw
  have hfin : ∀ v, (b.at a (.inRegion (o :: l).toArray (0 :: List.range' 1 l.length) :: k)).finish v = b.at (a.put o.dst v) (.inRegion (o :: l).toArray (List.range' 1 l.length) :: k) := by
    intro v; rw [Frame.finish_at, ho]; rfl
  have hk : (b.at a (.inRegion (o :: l).toArray (0 :: List.range' 1 l.length) :: k)).kind = .deferred := hb
  have htr := tryRecover_deferred hk cs
  have hrg : List.range (o :: l).toArray.size = 0 :: List.range' 1 l.length := by
    rw [List.range_eq_range']; simp [List.range'_succ]
  have hs := step_region (P := P) (b := b) (a := a) (k := k) (cs := cs) (w := w) (ops := (o :: l).toArray) (id := id)
  rw [hrg] at hs
  refine ⟨e, a', cs, w'', hq, .of_steps (.head hs (.one (step_lone_go ?_))) harr⟩
  rw [hg, ← hfin]
  simp only [Frame.at] at htr ⊢
  simp [stepG.apply, hr, htr, hc]
end

/-- The three results' variables. -/
def Res (w : World) (b2 b3 b4 : Nat) (v : Value) (c p : Int) : Prop := w.cell? ⟨b2, 0, none⟩ = some v ∧ w.cell? ⟨b3, 0, none⟩ = some (.int .i64 c) ∧ w.cell? ⟨b4, 0, none⟩ = some (.int .i64 p)

set_option maxRecDepth 100000 in
set_option maxHeartbeats 4000000 in
theorem parse1_panicking (b2 b3 b4 base : Nat) (v0 : Value) (c0 p0 c p : Int) (w : World) (h : Res w b2 b3 b4 v0 c0 p0) (f2 : w.frozen? ⟨b2, 0, none⟩ = false) (f3 : w.frozen? ⟨b3, 0, none⟩ = false) (f4 : w.frozen? ⟨b4, 0, none⟩ = false)
    (n23 : ¬ b2 = b3) (n24 : ¬ b2 = b4) (n34 : ¬ b3 = b4) (hb : base ≤ w.heap.size) (l2 : base ≤ b2) (l3 : base ≤ b3) (l4 : base ≤ b4) (m2 : b2 < w.heap.size) (m3 : b3 < w.heap.size) (m4 : b4 < w.heap.size) :
    CallsD Tryd.prog 35 #[.pointer (some ⟨b2, 0, none⟩), .pointer (some ⟨b3, 0, none⟩), .pointer (some ⟨b4, 0, none⟩)] (.panicking [{ v := .iface 71 (.agg #[.int .i64 c, .int .i64 p]), recovered := false }]) w fun e u' w' =>
      e = .returned (.tuple #[]) ∧ u' = .panicking [{ v := .iface 71 (.agg #[.int .i64 c, .int .i64 p]), recovered := true }] ∧ Res w' b2 b3 b4 (.slice none 0 0) c p ∧ Below base w w' := by
  obtain ⟨h2, h3, h4⟩ := h
  refine callsD_of_wpS Tryd.func35 rfl fun c₀ cs hu => ?_
  have ht : ∀ W : World, (Instr.typeAssert (.iface 71 (.agg #[.int .i64 c, .int .i64 p])) 20 71 true).run Tryd.prog W = .ok (.tuple #[.agg #[.int .i64 c, .int .i64 p], .bool true]) W := fun W => by kernel_rfl
  change Code.wpS _ _ _ { tmps := #[.pointer (some ⟨b2, 0, none⟩), .pointer (some ⟨b3, 0, none⟩), .pointer (some ⟨b4, 0, none⟩), undef, undef, undef, undef, undef, undef, undef, undef, undef, undef, undef, undef, undef], defers := [] } _ _
  apply wpS_seq
  refine wpS_region_recover rfl rfl (by simp only [recoverD, hu]; rfl) ?_
  go_wp2
  show Code.wpS _ _ _ _ _ _
  refine wpS_of_wp ?_
  go_wp2_with fail
  have n32 : ¬ b3 = b2 := fun e => n23 e.symm
  have n42 : ¬ b4 = b2 := fun e => n24 e.symm
  have n43 : ¬ b4 = b3 := fun e => n34 e.symm
  go_region_law (fail)
  all_goals
    refine ⟨rfl, _, rfl, _, results_none rfl _ _ _, rfl, rfl, ⟨?_, ?_, ?_⟩, ?_⟩
    · simp [go_sem, *]
    · simp [go_sem, *]
    · simp [go_sem, *]
    · (repeat (first | exact Below.refl _ _ | assumption | refine Below.setCell ?_ (by first | omega | (simp <;> omega)) _ | refine Below.alloc ?_ (by first | omega | (simp <;> omega)) _ | refine Below.drew ?_ | refine below_drewN' ?_ _))

set_option maxRecDepth 100000 in
set_option maxHeartbeats 4000000 in
theorem parse1_idle (b2 b3 b4 : Nat) (w : World) :
    CallsD Tryd.prog 35 #[.pointer (some ⟨b2, 0, none⟩), .pointer (some ⟨b3, 0, none⟩), .pointer (some ⟨b4, 0, none⟩)] .returning w fun e u' w' =>
      e = .returned (.tuple #[]) ∧ u' = .returning ∧ w' = w.alloc (.cells #[.int .i64 0, .int .i64 0] 71) := by
  refine callsD_of_wpS Tryd.func35 rfl fun c₀ cs hu => ?_
  have ht : ∀ W : World, (Instr.typeAssert .nilIface 20 71 true).run Tryd.prog W = .ok (.tuple #[.agg #[.int .i64 0, .int .i64 0], .bool false]) W := fun W => by kernel_rfl
  change Code.wpS _ _ _ { tmps := #[.pointer (some ⟨b2, 0, none⟩), .pointer (some ⟨b3, 0, none⟩), .pointer (some ⟨b4, 0, none⟩), undef, undef, undef, undef, undef, undef, undef, undef, undef, undef, undef, undef, undef], defers := [] } _ _
  apply wpS_seq
  refine wpS_region_norecover rfl rfl (by simp only [recoverD, hu]) ?_
  go_wp2
  show Code.wpS _ _ _ _ _ _
  refine wpS_of_wp ?_
  go_wp2
  refine ⟨rfl, .returning, ?_, _, results_none rfl _ _ _, rfl, rfl, ?_⟩
  · cases c₀; simp_all
  · first | rfl | simp
end Go.Proofs.YticodcecillciaaDoor

/- Patterns in the program: a text is read as a pattern. -/
namespace Go.Proofs.YticodcecillciaaDoor
set_option linter.all false
open Go.RowKit

/-- What Parse answers: sections in memory, an error's number, a place. -/
def ParseR (w : World) (r : List Pa.Sec × Int × Int) (e : Ending) (w' : World) : Prop := ∃ v, e = .returned (.tuple #[.agg #[v], .int .i64 r.2.1, .int .i64 r.2.2]) ∧ SecsAt w' w'.heap.size v r.1 ∧ Below w.heap.size w w'

theorem SecsAt.non (w : World) (B : Nat) : SecsAt w B (.slice none 0 0) [] := ⟨none, 0, rfl, Nat.le_refl _, fun h => absurd h (by simp)⟩

set_option maxRecDepth 100000 in
set_option maxHeartbeats 4000000 in
theorem pa_parse_long (s : ByteArray) (w : World) (hs : 1000 < s.size) : Calls Tryd.prog 15 #[.string s] w (ParseR w (Pa.parse s)) := by
  have hmf : ∀ (fn : Fn) (first cap : Array Value) (w : World), (Instr.makeFunc fn first cap).run Tryd.prog w = .ok (.func fn first cap) w := fun _ _ _ _ => rfl
  have hr : Pa.parse s = ([], 4, 0) := by unfold Pa.parse; rw [if_pos hs]
  rw [hr]
  have i1 : (1000 : Int) < (s.size : Int) := by omega
  clear hr hs
  go_enter_defers Tryd.func15, Tryd.ntmps15
  go_wp2
  refine ⟨.tuple #[.agg #[.slice none 0 0], .int .i64 4, .int .i64 0], by simp [results, Tryd.results15, go_sem], .slice none 0 0, rfl, SecsAt.non _ _, by (repeat (first | exact Below.refl _ _ | assumption | refine Below.setCell ?_ (by first | omega | (simp <;> omega)) _ | refine Below.alloc ?_ (by first | omega | (simp <;> omega)) _ | refine Below.drew ?_ | refine below_drewN' ?_ _))⟩

/-- The reader as it begins. -/
def st1 : Pa.St := ⟨0, [⟨[], false, 0⟩], [0], 0, false⟩
theorem ok_st1 (s : ByteArray) (hs : s.size ≤ 1000) : Ok s st1 :=
  Ok.mk' (by decide) (by decide) (by decide) (fun k h => by
    have : k = 0 := by simp only [st1, List.length_cons, List.length_nil] at h; omega
    subst this; exact Nat.zero_le _) (by simp [st1]) (by omega) rfl (fun k h => by
    have : k = 0 := by simp only [st1, List.length_cons, List.length_nil] at h; omega
    subst this; exact ⟨Int.le_refl _, Int.le_refl _⟩) (fun h => by cases h)
theorem rd_new (w : World) (s : ByteArray) : RdAt (w.alloc (.cells #[.string s, .int .i64 0, .slice none 0 0, .slice none 0 0, .int .i64 0, .bool false] 69)) w.heap.size ⟨w.heap.size, .slice none 0 0, .slice none 0 0, []⟩ s Pa.st0 :=
  ⟨Nat.le_refl _, Mem.new w _ _, RowG.nil _ _ _ _, RowG.nil _ _ _ _, rfl, fun k h => absurd h (by simp), fun i j x hi hj => by
    unfold Lay.own at hi hj
    match i, j, hi, hj with
    | 0, 0, _, _ => rfl
    | 0, 1, _, hj => simp [Value.ownBlock] at hj
    | 0, 2, _, hj => simp [Value.ownBlock] at hj
    | 0, n + 3, _, hj => simp at hj
    | 1, _, hi, _ => simp [Value.ownBlock] at hi
    | 2, _, hi, _ => simp [Value.ownBlock] at hi
    | n + 3, _, hi, _ => simp at hi⟩
theorem loop_end {s : ByteArray} {f : Nat} {st : Pa.St} (h : ¬ st.pos < s.size) : Pa.loop s f st = .ok st := by
  cases f with
  | zero => rfl
  | succ f => unfold Pa.loop; rw [if_neg h]

/-- A panic of the reader's at the door: it becomes the answer. -/
theorem parse_door_err (tmps : Array Value) (b2 b3 b4 : Nat) (w W : World) (c p c0 p0 : Int) (v0 : Value) (r : List Pa.Sec × Int × Int) (hr : r = ([], c, p)) (h : Res W b2 b3 b4 v0 c0 p0) (f2 : W.frozen? ⟨b2, 0, none⟩ = false) (f3 : W.frozen? ⟨b3, 0, none⟩ = false) (f4 : W.frozen? ⟨b4, 0, none⟩ = false)
    (e2 : b2 = w.heap.size) (e3 : b3 = w.heap.size + 1) (e4 : b4 = w.heap.size + 1 + 1) (hz : w.heap.size + 3 ≤ W.heap.size) (hB : Below w.heap.size w W)
    (ht : ∀ W' v c p, Res W' b2 b3 b4 v c p → (results Tryd.f15 tmps).run Tryd.prog W' = .ok (.tuple #[.agg #[v], .int .i64 c, .int .i64 p]) W') :
    Leaves Tryd.prog Tryd.f15 tmps (ParseR w r) [{ target := .fn (.func 35) #[.pointer (some ⟨b2, 0, none⟩), .pointer (some ⟨b3, 0, none⟩), .pointer (some ⟨b4, 0, none⟩)], args := #[] }] (.panicking [{ v := .iface 71 (.agg #[.int .i64 c, .int .i64 p]), recovered := false }]) W := by
  subst hr
  refine leaves_cons (f := 35) (args := #[.pointer (some ⟨b2, 0, none⟩), .pointer (some ⟨b3, 0, none⟩), .pointer (some ⟨b4, 0, none⟩)]) (by simp) (by simp [go_sem]) ?_
  refine (parse1_panicking b2 b3 b4 w.heap.size v0 c0 p0 c p W h f2 f3 f4 (by omega) (by omega) (by omega) (by omega) (by omega) (by omega) (by omega) (by omega) (by omega) (by omega)).mono ?_
  rintro e u' w'' ⟨rfl, rfl, hres, hb⟩
  simp only [Leaves, settle]
  exact ⟨_, ht w'' _ _ _ hres, _, rfl, SecsAt.non _ _, hB.trans hb⟩
/-- A return at the door. -/
theorem parse_door_ok (tmps : Array Value) (b2 b3 b4 B : Nat) (w W : World) (v : Value) (l : List Pa.Sec) (r : List Pa.Sec × Int × Int) (hr : r = (l, 0, 0)) (h : Res W b2 b3 b4 v 0 0) (hv : SecsAt W B v l) (hBW : B ≤ W.heap.size) (hB : Below w.heap.size w W) (hl : b2 < W.heap.size ∧ b3 < W.heap.size ∧ b4 < W.heap.size)
    (ht : ∀ W' v c p, Res W' b2 b3 b4 v c p → (results Tryd.f15 tmps).run Tryd.prog W' = .ok (.tuple #[.agg #[v], .int .i64 c, .int .i64 p]) W') :
    Leaves Tryd.prog Tryd.f15 tmps (ParseR w r) [{ target := .fn (.func 35) #[.pointer (some ⟨b2, 0, none⟩), .pointer (some ⟨b3, 0, none⟩), .pointer (some ⟨b4, 0, none⟩)], args := #[] }] .returning W := by
  subst hr
  refine leaves_cons (f := 35) (args := #[.pointer (some ⟨b2, 0, none⟩), .pointer (some ⟨b3, 0, none⟩), .pointer (some ⟨b4, 0, none⟩)]) (by simp) (by simp [go_sem]) ?_
  refine (parse1_idle b2 b3 b4 W).mono ?_
  rintro e u' w'' ⟨rfl, rfl, rfl⟩
  simp only [Leaves, settle]
  have hn : Below W.heap.size W (W.alloc (.cells #[.int .i64 0, .int .i64 0] 71)) := (Below.refl _ W).alloc (Nat.le_refl _) _
  have hres : Res (W.alloc (.cells #[.int .i64 0, .int .i64 0] 71)) b2 b3 b4 v 0 0 := ⟨(hn.cell (p := ⟨b2, 0, none⟩) hl.1).trans h.1, (hn.cell (p := ⟨b3, 0, none⟩) hl.2.1).trans h.2.1, (hn.cell (p := ⟨b4, 0, none⟩) hl.2.2).trans h.2.2⟩
  exact ⟨_, ht _ _ _ _ hres, _, rfl, (hv.below hn hBW).mono (by simp; omega), hB.trans (hn.mono hB.size)⟩

/-- What the reader comes to, from a state on. -/
def endR (r : Pa.M Pa.St) : List Pa.Sec × Int × Int := match r.bind Pa.fin with
  | .ok st => (st.secs, 0, 0)
  | .error (e, p) => ([], e, p)
theorem parse_eq (s : ByteArray) (hs : s.size ≤ 1000) : Pa.parse s = endR (Pa.loop s (s.size + 1) st1) := by
  unfold Pa.parse endR
  rw [if_neg (by omega)]
  rfl

theorem wrong_range (l : List Pa.Sec) : Pa.wrong l = -1 ∨ (0 ≤ Pa.wrong l ∧ Pa.wrong l < l.length) := by
  unfold Pa.wrong
  cases h : (List.range l.length).find? (Pa.bad l) with
  | none => exact .inl rfl
  | some i =>
    have := List.mem_of_find?_eq_some h
    rw [List.mem_range] at this
    right; exact ⟨by simp only; omega, by simp only; omega⟩
theorem RdAt.far {w : World} {base : Nat} {y : Lay} {s : ByteArray} {st : Pa.St} (h : RdAt w base y s st) {a : Addr} (ha : a.block < base) (u : Value) : RdAt (w.setCell a u) base y s st :=
  ⟨h.low, h.rd.other (by have := h.low; omega) u, h.secs.other (fun e => by have := (h.secs.lt e).1; omega) u, h.begins.other (fun e => by have := (h.begins.lt e).1; omega) u, h.len,
   fun k h1 h2 => (h.its k h1 h2).other (fun e => by have := ((h.its k h1 h2).lt e).1; omega) u, h.apt⟩

set_option maxRecDepth 100000 in
set_option maxHeartbeats 8000000 in
theorem pa_parse_short (s : ByteArray) (w : World) (hs : s.size ≤ 1000) (hu : U8 w) : Calls Tryd.prog 15 #[.string s] w (ParseR w (Pa.parse s)) := by
  rw [parse_eq s hs]
  obtain ⟨G, hG⟩ : ∃ G, G = Pa.loop s (s.size + 1) st1 := ⟨_, rfl⟩
  rw [← hG]
  have hmf : ∀ (fn : Fn) (first cap : Array Value) (w : World), (Instr.makeFunc fn first cap).run Tryd.prog w = .ok (.func fn first cap) w := fun _ _ _ _ => rfl
  obtain ⟨W3, hW3⟩ : ∃ W3, W3 = ((w.alloc (.cells #[.slice none 0 0] 24)).alloc (.cells #[.int .i64 0] 40)).alloc (.cells #[.int .i64 0] 3) := ⟨_, rfl⟩
  have hs3 : W3.heap.size = w.heap.size + 1 + 1 + 1 := by rw [hW3]; simp
  have hn := rd_new W3 s
  have hbeg := rd_begin_any _ s Pa.st0 W3.heap.size _ hn (by simp) (by decide) (by decide) (by decide)
  rw [show Pa.beg Pa.st0 = .ok st1 from rfl] at hbeg
  have hB3 : Below w.heap.size w W3 := by rw [hW3]; exact ((((Below.refl _ w).alloc (Nat.le_refl _) _).alloc (by simp) _).alloc (by simp; omega) _)
  have hR3 : Res W3 w.heap.size (w.heap.size + 1) (w.heap.size + 1 + 1) (.slice none 0 0) 0 0 := by
    rw [hW3]; refine ⟨?_, ?_, ?_⟩ <;> simp [go_sem]
  have hF3 : W3.frozen? ⟨w.heap.size, 0, none⟩ = false ∧ W3.frozen? ⟨w.heap.size + 1, 0, none⟩ = false ∧ W3.frozen? ⟨w.heap.size + 1 + 1, 0, none⟩ = false := by
    rw [hW3]; refine ⟨?_, ?_, ?_⟩ <;> simp [go_sem]
  have hU3 : U8b W3.heap.size W3 := (hu.on hB3).b
  have i1 : ¬ (1000 : Int) < (s.size : Int) := by omega
  have hBA := (Below.refl W3.heap.size W3).alloc (Nat.le_refl _) (.cells #[.string s, .int .i64 0, .slice none 0 0, .slice none 0 0, .int .i64 0, .bool false] 69)
  -- what every later world keeps
  have hkeep : ∀ W, Below W3.heap.size W3 W → Res W w.heap.size (w.heap.size + 1) (w.heap.size + 1 + 1) (.slice none 0 0) 0 0 ∧ (W.frozen? ⟨w.heap.size, 0, none⟩ = false ∧ W.frozen? ⟨w.heap.size + 1, 0, none⟩ = false ∧ W.frozen? ⟨w.heap.size + 1 + 1, 0, none⟩ = false) ∧ Below w.heap.size w W ∧ w.heap.size + 3 ≤ W.heap.size := fun W hW =>
    ⟨⟨(hW.cell (p := ⟨w.heap.size, 0, none⟩) (by simp only; omega)).trans hR3.1, (hW.cell (p := ⟨w.heap.size + 1, 0, none⟩) (by simp only; omega)).trans hR3.2.1, (hW.cell (p := ⟨w.heap.size + 1 + 1, 0, none⟩) (by simp only; omega)).trans hR3.2.2⟩,
     ⟨(hW.frozen (p := ⟨w.heap.size, 0, none⟩) (by simp only; omega)).trans hF3.1, (hW.frozen (p := ⟨w.heap.size + 1, 0, none⟩) (by simp only; omega)).trans hF3.2.1, (hW.frozen (p := ⟨w.heap.size + 1 + 1, 0, none⟩) (by simp only; omega)).trans hF3.2.2⟩,
     hB3.trans (hW.mono (by omega)), by have := hW.size; omega⟩
  have HKEEP := Lib.hid hkeep; have HU := Lib.hid hU3; have HBA := Lib.hid hBA
  have HS := Lib.hid hs; have HG := Lib.hid hG; have HZ := Lib.hid hs3
  have hbeg2 : Calls Tryd.prog 36 #[.pointer (some ⟨w.heap.size + 1 + 1 + 1, 0, none⟩)] (W3.alloc (.cells #[.string s, .int .i64 0, .slice none 0 0, .slice none 0 0, .int .i64 0, .bool false] 69)) (RdOk (W3.alloc (.cells #[.string s, .int .i64 0, .slice none 0 0, .slice none 0 0, .int .i64 0, .bool false] 69)) W3.heap.size (w.heap.size + 1 + 1 + 1) s st1) := by
    rw [← hs3]; exact hbeg
  rw [hW3] at hbeg2
  rw [← hW3] at hbeg2
  have HBEG := Lib.hid hbeg2
  clear hbeg hbeg2 hn hu hs hG hkeep hU3 hBA hB3 hR3 hF3 hs3
  have HW3 := Lib.hid hW3
  go_enter_defers Tryd.func15, Tryd.ntmps15
  go_wp2_with (first
    | (rw [← hW3])
    | (go_at_call 36; (with_reducible refine (HBEG.out).mono ?_); rintro e w4 ⟨y4, rfl, hy4, hR4, hB4⟩; have HR4 := Lib.hid hR4; clear hR4))
  have HOK := Lib.hid (ok_st1 s HS.out)
  have HB4 := Lib.hid (show Below W3.heap.size W3 w4 from HBA.out.trans hB4)
  clear hB4
  rw [show (w.heap.size + 1 + 1 + 1) = W3.heap.size from HZ.out.symm] at hy4
  go_loopw [] (fun wr => ∃ (y : Lay) (st : Pa.St) (f : Nat), y.R = w.heap.size + 1 + 1 + 1 ∧ Hid (RdAt wr W3.heap.size y s st) ∧ Hid (Ok s st) ∧ Hid (Below W3.heap.size W3 wr) ∧ Hid (G = Pa.loop s f st) ∧ s.size < st.pos + f) (fun wr => s.size - (intOf ((wr.cell? ⟨w.heap.size + 1 + 1 + 1, 1, none⟩).getD (.int .i64 0))).toNat)
  case atStart => exact ⟨y4, st1, s.size + 1, by rw [hy4, HZ.out], HR4, HOK, HB4, HG, by show _ < 0 + _; omega⟩
  case round =>
    obtain ⟨y, st, f, hy, HRW, HOk, HBW, HQ, hf⟩ := hrel
    obtain ⟨R, vS, vF, vis⟩ := y
    simp only [] at hy
    obtain ⟨hres, hfr, hbw, hsz⟩ := HKEEP.out wr HBW.out
    have q1 := HRW.out.rd.get 1 rfl
    simp only [hy] at q1
    by_cases hlt : st.pos < s.size
    · obtain ⟨f, rfl⟩ : ∃ f', f = f' + 1 := ⟨f - 1, by omega⟩
      have hq := HQ.out
      unfold Pa.loop at hq
      rw [if_pos hlt] at hq
      have hone := rd_one_any _ s st W3.heap.size wr HRW.out HBW.out.size HOk.out hlt (HU.out.on HBW.out)
      have hinv := fun st' (e : Pa.one s st = .ok st') => HOk.out.one hlt e
      simp only [hy] at hone
      generalize hGO : Pa.one s st = GO at hone hinv hq
      clear hGO
      have i2 : ((st.pos : Nat) : Int) < (s.size : Int) := by omega
      have HONE := Lib.hid hone
      have HHQ := Lib.hid hq
      have HRES := Lib.hid hres; have HFR := Lib.hid hfr; have HBW2 := Lib.hid hbw
      clear hone hq HQ hres hfr hbw hsz
      cases GO with
      | error x =>
        obtain ⟨xc, xp⟩ := x
        have hE : G = .error (xc, xp) := HHQ.out
        clear HHQ hinv HG
        subst hE
        go_wp2_with (go_at_call 37; (with_reducible refine (HONE.out).mono ?_); rintro e w5 ⟨rfl, hB'⟩)
        obtain ⟨hres, hfr, hbw, hsz⟩ := HKEEP.out w5 (HBW.out.trans hB')
        show Leaves _ _ _ _ _ _ _
        exact parse_door_err _ _ _ _ w w5 xc xp 0 0 _ _ rfl hres hfr.1 hfr.2.1 hfr.2.2 rfl rfl rfl hsz hbw (fun W' v c p h => by obtain ⟨a1, a2, a3⟩ := h; simp [results, Tryd.results15, go_sem, a1, a2, a3])
      | ok st' =>
        obtain ⟨k1, k2⟩ := hinv _ rfl
        have hE : G = Pa.loop s f st' := HHQ.out
        have HE := Lib.hid hE
        have HK := Lib.hid k1
        clear HHQ hinv hE k1
        go_wp2_with (go_at_call 37; (with_reducible refine (HONE.out).mono ?_); rintro e w5 ⟨y5, rfl, hy5, hR5, hB5⟩; have HR5 := Lib.hid hR5; clear hR5)
        go_roundw
        case rel => exact ⟨y5, st', f, hy5, HR5, HK, Lib.hid (HBW.out.trans hB5), HE, by omega⟩
        case measure =>
          have q5 := HR5.out.rd.get 1 rfl
          rw [hy5] at q5
          have q6 := HRW.out.rd.get 1 rfl
          simp only [hy] at q6
          rw [q5, q6]
          simp [intOf]; omega
    · have hE : G = .ok st := by rw [HQ.out]; exact loop_end hlt
      have i2 : ¬ ((st.pos : Nat) : Int) < (s.size : Int) := by omega
      obtain ⟨aS, cS, eS⟩ := HRW.out.secs.1
      simp only [] at eS
      subst eS
      have hw := pa_wrong_any st.secs _ wr.heap.size wr HRW.out.read (Nat.le_refl _) HOk.out.fit.four (fun k h => by have := HOk.out.fit.last k h; have := HOk.out.fit.hundred; omega) ((HU.out.on HBW.out).u8 HBW.out.size)
      have hbl : st.begins.length = st.secs.length := HOk.out.eq
      have hl4 := HOk.out.fit.four
      have hl0 := HOk.out.fit.some
      have hwr := wrong_range st.secs
      have hfin : G.bind Pa.fin = if 0 ≤ Pa.wrong st.secs then .error (12, st.begins[(Pa.wrong st.secs).toNat]!) else .ok st := by rw [hE]; rfl
      have q2 := HRW.out.rd.get 2 rfl
      simp only [hy] at q2
      have hRD5 := fun (W : World) (hW : Below wr.heap.size wr W) => HRW.out.on hW
      subst hy
      obtain ⟨I, hI⟩ : ∃ I, I = Pa.wrong st.secs := ⟨_, rfl⟩
      rw [← hI] at hw hwr hfin
      have HW := Lib.hid hw; have HFIN := Lib.hid hfin; have HRD5 := Lib.hid hRD5
      clear hw hI hE HQ HG hfin hRD5 hres hfr hbw
      by_cases h0 : 0 ≤ I
      · have hfin := HFIN.out
        rw [if_pos h0] at hfin
        obtain ⟨k, hk⟩ : ∃ k : Nat, I = k := ⟨_, (Int.toNat_of_nonneg h0).symm⟩
        subst hk
        have hkl : k < st.begins.length := by omega
        rw [Int.toNat_natCast, getElem!_pos st.begins k hkl] at hfin
        obtain ⟨p, hp⟩ : ∃ p, p = st.begins[k] := ⟨_, rfl⟩
        rw [← hp] at hfin
        have hcells := fun (W : World) (hW : Below wr.heap.size wr W) => (HRD5.out W hW).begins.get (show 0 < st.begins.length by omega)
        obtain ⟨g, cF, eF, _⟩ := hcells wr (Below.refl _ _)
        simp only [] at eF
        subst eF
        have hck : ∀ W, Below wr.heap.size wr W → W.cell? ⟨g, k, none⟩ = some (.int .i64 p) ∧ W.cell? ⟨w.heap.size + 1 + 1 + 1, 3, none⟩ = some (.slice (some ⟨g, 0, none⟩) st.begins.length cF) := fun W hW => by
          obtain ⟨g', cF', e', _, _, _, hh, _⟩ := hcells W hW
          simp only [] at e'
          cases e'
          refine ⟨hh k _ ?_, (HRD5.out W hW).rd.get 3 rfl⟩
          unfold intCells
          rw [List.getElem?_map, List.getElem?_eq_getElem hkl, hp]; rfl
        have hr : endR G = ([], 12, p) := by unfold endR; rw [hfin]
        have HCK := Lib.hid hck; have HR := Lib.hid hr
        have j1 : (k : Int) < (st.begins.length : Int) := by omega
        clear hck hr hfin hcells hp hbl hwr HFIN HRD5
        go_wp2_with (go_at_call 29; (with_reducible refine (HW.out).mono ?_); rintro e w5 ⟨rfl, hb5⟩; obtain ⟨x1, x2⟩ := HCK.out w5 hb5)
        obtain ⟨hres, hfr, hbw, hsz⟩ := HKEEP.out w5 (HBW.out.trans (hb5.mono HBW.out.size))
        show Leaves _ _ _ _ _ _ _
        exact parse_door_err _ _ _ _ w w5 12 p 0 0 _ _ HR.out hres hfr.1 hfr.2.1 hfr.2.2 rfl rfl rfl hsz hbw (fun W' v c p h => by obtain ⟨a1, a2, a3⟩ := h; simp [results, Tryd.results15, go_sem, a1, a2, a3])
      · have hfin := HFIN.out
        rw [if_neg h0] at hfin
        have hr : endR G = (st.secs, 0, 0) := by unfold endR; rw [hfin]
        have HR := Lib.hid hr
        have j1 : I < 0 := by omega
        have hc2 : ∀ W, Below wr.heap.size wr W → W.cell? ⟨w.heap.size + 1 + 1 + 1, 2, none⟩ = some (.slice aS st.secs.length cS) ∧ (W.cell? ⟨w.heap.size, 0, none⟩ = some (.slice none 0 0) ∧ W.cell? ⟨w.heap.size + 1, 0, none⟩ = some (.int .i64 0) ∧ W.cell? ⟨w.heap.size + 1 + 1, 0, none⟩ = some (.int .i64 0)) ∧ (W.frozen? ⟨w.heap.size, 0, none⟩ = false ∧ W.frozen? ⟨w.heap.size + 1, 0, none⟩ = false ∧ W.frozen? ⟨w.heap.size + 1 + 1, 0, none⟩ = false) := fun W hW => by
          obtain ⟨hres, hfr, _⟩ := HKEEP.out W (HBW.out.trans (hW.mono HBW.out.size))
          exact ⟨(HRD5.out W hW).rd.get 2 rfl, hres, hfr⟩
        have HC2 := Lib.hid hc2
        have HZ2 := Lib.hid (show w.heap.size + 1 + 1 + 1 = W3.heap.size from HZ.out.symm)
        clear hc2 hr hfin hbl hwr HFIN
        go_wp2_with (go_at_call 29; (with_reducible refine (HW.out).mono ?_); rintro e w5 ⟨rfl, hb5⟩; obtain ⟨x1, ⟨x2, x3, x4⟩, x5, x6, x7⟩ := HC2.out w5 hb5)
        have hz5 := hb5.size
        have h6 := (((HRD5.out w5 hb5).far (a := ⟨w.heap.size, 0, none⟩) (by simp only; have := HZ2.out; omega) (.slice aS st.secs.length cS)).far (a := ⟨w.heap.size + 1, 0, none⟩) (by simp only; have := HZ2.out; omega) (.int .i64 0)).far (a := ⟨w.heap.size + 1 + 1, 0, none⟩) (by simp only; have := HZ2.out; omega) (.int .i64 0)
        have hv := h6.read
        obtain ⟨_, _, hbw, hsz⟩ := HKEEP.out w5 (HBW.out.trans (hb5.mono HBW.out.size))
        show Leaves _ _ _ _ _ _ _
        exact parse_door_ok _ _ _ _ _ w _ _ st.secs _ HR.out ⟨by simp [go_sem, *], by simp [go_sem, *], by simp [go_sem, *]⟩ hv (Nat.le_refl _) (((hbw.setCell (p := ⟨w.heap.size, 0, none⟩) (Nat.le_refl _) _).setCell (p := ⟨w.heap.size + 1, 0, none⟩) (by simp only; omega) _).setCell (p := ⟨w.heap.size + 1 + 1, 0, none⟩) (by simp only; omega) _) (by simp only [World.size_setCell]; omega) (fun W' v c p h => by obtain ⟨a1, a2, a3⟩ := h; simp [results, Tryd.results15, go_sem, a1, a2, a3])

theorem pa_parse_any (s : ByteArray) (w : World) (hu : U8 w) : Calls Tryd.prog 15 #[.string s] w (ParseR w (Pa.parse s)) := by
  by_cases hs : s.size ≤ 1000
  · exact pa_parse_short s w hs hu
  · exact pa_parse_long s w (by omega)
end Go.Proofs.YticodcecillciaaDoor

/- Patterns in the program: is a pattern right? -/
namespace Go.Proofs.YticodcecillciaaDoor
set_option linter.all false
open Go.RowKit

theorem wrong_any_at (l : List Pa.Sec) (v : Value) (B : Nat) (w : World) (h : SecsAt w B v l) (hB : B ≤ w.heap.size) (hl : l.length ≤ 4) (hit : ∀ k (h : k < l.length), l[k].items.length ≤ 1000000) (hu : U8 w) (W : World) (hW : Below w.heap.size w W) :
    Calls Tryd.prog 29 #[.agg #[v]] W (RetB (.int .i64 (Pa.wrong l)) W) :=
  pa_wrong_any l v B W (h.below hW hB) (Nat.le_trans hB hW.size) hl hit (hu.on hW)

set_option maxRecDepth 100000 in
set_option maxHeartbeats 8000000 in
theorem pa_right2_any (l : List Pa.Sec) (v : Value) (B : Nat) (w : World) (h : SecsAt w B v l) (hB : B ≤ w.heap.size) (hl : l.length ≤ 1000) (hit : ∀ k (h : k < l.length), l[k].items.length ≤ 1000000) (hu : U8 w) :
    Calls Tryd.prog 11 #[.agg #[v]] w (RetB (.bool (Pa.right l)) w) := by
  by_cases h0 : 0 < l.length
  · by_cases h4 : l.length ≤ 4
    · have hwr := wrong_any_at l v B w h hB h4 hit hu
      obtain ⟨b, o, c, rfl, hc, hb, hh⟩ := h.get h0
      obtain ⟨n, hn⟩ : ∃ n, n = l.length := ⟨_, rfl⟩
      rw [← hn] at hl h0 h4 hwr ⊢
      obtain ⟨r, hr⟩ : ∃ r, r = Pa.right l := ⟨_, rfl⟩
      rw [← hr]
      obtain ⟨W0, hW0⟩ : ∃ W0, W0 = Pa.wrong l := ⟨_, rfl⟩
      rw [← hW0] at hwr
      have hbw : b < w.heap.size := by omega
      have n1 : ¬ (n : Int) < 1 := by omega
      have n4 : ¬ (4 : Int) < (n : Int) := by omega
      have HH := Lib.hid hh; have HN := Lib.hid hn; have HR := Lib.hid hr; have HIT := Lib.hid hit; have HW := Lib.hid hwr; have HW0 := Lib.hid hW0
      clear hh hn hr hit h h0 hc hb hwr hW0 hu
      go_enter Tryd.func11, Tryd.ntmps11
      go_wp2_with fail
      go_loopw [3, 19] (fun t i wr => ∃ k : Nat, k ≤ n ∧ i = .int .i64 (k : Int) ∧ t = .int .i64 (Pa.total (l.take k) : Nat) ∧ Pa.total (l.take k) ≤ 100 ∧ Below w.heap.size w wr ∧ w.heap.size < wr.heap.size ∧ wr.cell? ⟨w.heap.size, 0, none⟩ = some (.slice (some ⟨b, o, none⟩) n c)) (fun _ i _ => n - (intOf i).toNat)
      case atStart => exact ⟨0, Nat.zero_le _, rfl, rfl, by simp [Pa.total], by (repeat (first | exact Below.refl _ _ | assumption | refine Below.setCell ?_ (by first | omega | (simp <;> omega)) _ | refine Below.alloc ?_ (by first | omega | (simp <;> omega)) _ | refine Below.drew ?_ | refine below_drewN' ?_ _)), by simp, by simp [go_sem]⟩
      case round =>
        obtain ⟨k, hk, rfl, rfl, htk, hbr, hzr, hbx⟩ := hrel
        by_cases hlt : k < n
        · have hkl : k < l.length := by rw [← HN.out]; exact hlt
          obtain ⟨vi, hi, d0, d1, d2⟩ := HH.out k hkl
          replace d0 := (hbr.cell (p := ⟨b, o + k * 3, none⟩) hbw).trans d0
          replace d1 := (hbr.cell (p := ⟨b, o + k * 3 + 1, none⟩) hbw).trans d1
          replace d2 := (hbr.cell (p := ⟨b, o + k * 3 + 2, none⟩) hbw).trans d2
          obtain ⟨ai, ci, rfl, _⟩ := hi.form
          have htt := total_take l k hkl
          have htl := total_item l k hkl
          have hil := HIT.out k hkl
          have hle := total_le l (k + 1)
          obtain ⟨T, hT⟩ : ∃ T, T = Pa.total (l.take k) := ⟨_, rfl⟩
          rw [← hT] at htk htt ⊢
          obtain ⟨m, hm⟩ : ∃ m, m = l[k].items.length := ⟨_, rfl⟩
          rw [← hm] at d0 htt htl hil
          have i1 : (k : Int) < (n : Int) := by omega
          have i2 : (T : Int) ≤ 400 := by omega
          have i3 : (m : Int) ≤ 1000000 := by omega
          have i4 : (0 : Int) ≤ (T : Int) := by omega
          have i5 : (0 : Int) ≤ (m : Int) := by omega
          clear hi
          by_cases hm1 : T + m ≤ 100
          · have j1 : ¬ (100 : Int) < (T : Int) + (m : Int) := by omega
            have HTT := Lib.hid htt
            clear htt htl hT hm hil hle
            go_wp2_with fail
            go_roundw
            case rel => exact ⟨k + 1, by omega, by go_num, by rw [HTT.out]; go_num, by rw [HTT.out]; omega, by (repeat (first | exact Below.refl _ _ | assumption | refine Below.setCell ?_ (by first | omega | (simp <;> omega)) _ | refine Below.alloc ?_ (by first | omega | (simp <;> omega)) _ | refine Below.drew ?_ | refine below_drewN' ?_ _)), by first | omega | (simp only [World.size_alloc]; omega) | (simp; omega), by first | exact hbx | (rw [World.cell?_alloc_past _ _ _ hzr]; exact hbx) | (simp [go_sem, hbx, Nat.ne_of_lt hzr]; done)⟩
            case measure => simp [intOf]; omega
          · have j1 : (100 : Int) < (T : Int) + (m : Int) := by omega
            have hrf : r = false := by rw [HR.out]; exact right_total (by omega)
            subst hrf
            clear htt htl hT hm HR hil hle
            go_wp2_with fail
            go_ret
            exact RetB.of rfl (by (repeat (first | exact Below.refl _ _ | assumption | refine Below.setCell ?_ (by first | omega | (simp <;> omega)) _ | refine Below.alloc ?_ (by first | omega | (simp <;> omega)) _ | refine Below.drew ?_ | refine below_drewN' ?_ _)))
        · have hkk : k = n := by omega
          subst hkk
          rw [List.take_of_length_le (by rw [← HN.out]; exact Nat.le_refl _)] at htk ⊢
          have hre : r = decide (W0 < 0) := by rw [HR.out, HW0.out]; exact right_end (by rw [← HN.out]; omega) (by rw [← HN.out]; omega) (by omega)
          have HRE := Lib.hid hre
          generalize Pa.total l = T at *
          clear hre HR
          go_wp2_with (go_at_call 29; (with_reducible refine (HW.out _ (by (repeat (first | exact Below.refl _ _ | assumption | refine Below.setCell ?_ (by first | omega | (simp <;> omega)) _ | refine Below.alloc ?_ (by first | omega | (simp <;> omega)) _ | refine Below.drew ?_ | refine below_drewN' ?_ _)))).mono ?_); rintro e w1 ⟨rfl, hb_w1⟩)
          go_ret
          exact RetB.of (by rw [HRE.out]; rfl) (hbr.trans (hb_w1.mono (by omega)))
    · rw [right_len (.inr (by omega))]
      obtain ⟨a, c, rfl, _⟩ := h.form
      have n1 : ¬ (l.length : Int) < 1 := by omega
      have n4 : (4 : Int) < (l.length : Int) := by omega
      clear h hit
      generalize l.length = n at *
      go_enter Tryd.func11, Tryd.ntmps11
      go_wp2_with fail
      go_ret
      exact RetB.of rfl (by (repeat (first | exact Below.refl _ _ | assumption | refine Below.setCell ?_ (by first | omega | (simp <;> omega)) _ | refine Below.alloc ?_ (by first | omega | (simp <;> omega)) _ | refine Below.drew ?_ | refine below_drewN' ?_ _)))
  · have e1 : l = [] := List.length_eq_zero_iff.1 (by omega)
    subst e1
    obtain ⟨a, c, rfl, _⟩ := h.form
    rw [show Pa.right [] = false from rfl]
    clear h h0 hit
    simp only [List.length_nil]
    go_enter Tryd.func11, Tryd.ntmps11
    go_wp2_with fail
    go_ret
    exact RetB.of rfl (by (repeat (first | exact Below.refl _ _ | assumption | refine Below.setCell ?_ (by first | omega | (simp <;> omega)) _ | refine Below.alloc ?_ (by first | omega | (simp <;> omega)) _ | refine Below.drew ?_ | refine below_drewN' ?_ _)))
end Go.Proofs.YticodcecillciaaDoor

/- Patterns: an item's text, in the program and in the document. -/
namespace Go.Proofs.YticodcecillciaaDoor
set_option linter.all false
open Go.RowKit

/-- The library's greatest length for a short search is some number (what it is does not matter). -/
def MaxL (w : World) : Prop := 2 < w.heap.size ∧ ∃ m : Int, w.cell? ⟨2, 0, none⟩ = some (.int .i64 m)
theorem MaxL.on {w w1 : World} (h : MaxL w) (hb : Below w.heap.size w w1) : MaxL w1 := by
  obtain ⟨h1, m, h2⟩ := h
  exact ⟨Nat.lt_of_lt_of_le h1 hb.size, m, (hb.cell (p := ⟨2, 0, none⟩) h1).trans h2⟩

set_option maxRecDepth 100000 in
theorem bare_one (c : UInt8) : decide (0 ≤ Lib.indexByte [32, 45, 43, 40, 41, 58] c) = Pa.bareTexts.contains [c] := by
  have key : ∀ n : Fin 256, decide (0 ≤ Lib.indexByte [32, 45, 43, 40, 41, 58] (UInt8.ofNat n.val)) = Pa.bareTexts.contains [UInt8.ofNat n.val] := by decide
  have := key ⟨c.toNat, c.toNat_lt⟩
  simpa using this
theorem decN_wide (n a b c d : Nat) (h : 1 < (Lib.decodeN n a b c d).2) : 128 ≤ a := by
  revert h
  unfold Lib.decodeN
  split
  · intro h; simp at h
  · intro _; omega
theorem contains_bare (t : ByteArray) (h : Pa.lit t = true) : Lib.contains [32, 45, 43, 40, 41, 58] t.data.toList = Pa.bareTexts.contains t.data.toList := by
  unfold Pa.lit at h
  simp only [Bool.and_eq_true, decide_eq_true_eq] at h
  obtain ⟨h1, h2, _⟩ := h
  have h0 : 0 < t.size := by omega
  have hd := Pa.decGo_eq t h0
  have hlen : t.data.toList.length = t.size := by simp
  match hl : t.data.toList with
  | [] => rw [hl] at hlen; simp at hlen; omega
  | [c] => unfold Lib.contains; rw [Lib.index_one, bare_one]
  | c :: d :: m =>
    have hw : 1 < t.size := by rw [← hlen, hl]; simp
    have h128 : 128 ≤ Pa.ch t 0 := by
      rw [hd] at h1
      exact decN_wide t.size (Pa.ch t 0) (Pa.ch t 1) (Pa.ch t 2) (Pa.ch t 3) (by omega)
    have hc : Pa.ch t 0 = c.toNat := by
      have := ch_list t 0 0 c (by rw [ByteArray.extract_zero_size, hl]; rfl)
      rw [Nat.zero_add] at this
      exact this.2
    have e2 : Pa.bareTexts.contains (c :: d :: m) = false := by
      rw [Bool.eq_false_iff]
      intro hh
      rw [List.contains_iff_mem] at hh
      simp [Pa.bareTexts] at hh
    rw [e2]
    unfold Lib.contains
    rw [decide_eq_false_iff_not]
    intro hh
    rcases Lib.index_spec [32, 45, 43, 40, 41, 58] (c :: d :: m) with ⟨h, _⟩ | ⟨i, _, hi, ho, _⟩
    · omega
    · unfold Lib.occAt at ho
      rw [List.isPrefixOf_iff_prefix] at ho
      obtain ⟨z, hz⟩ := ho
      have hmem : c ∈ ([32, 45, 43, 40, 41, 58] : List UInt8) := List.mem_of_mem_drop (by rw [← hz]; simp)
      have : c.toNat < 128 := by
        simp only [List.mem_cons, List.not_mem_nil, or_false] at hmem
        rcases hmem with rfl | rfl | rfl | rfl | rfl | rfl <;> decide
      omega

theorem lit_text {x : Pa.It} (h : Pa.rightI x = true) (h1 : x.kind = 1) : Pa.lit x.text = true := by
  unfold Pa.rightI at h; rwa [if_pos h1] at h
theorem str_cons (c : UInt8) (t : ByteArray) : (⟨#[c]⟩ : ByteArray) ++ t = ⟨(c :: t.data.toList).toArray⟩ := by
  apply Pa.ba_ext; simp [ByteArray.data_append]
theorem str_self (t : ByteArray) : t = ⟨t.data.toList.toArray⟩ := by
  apply Pa.ba_ext; simp

set_option maxRecDepth 100000 in
set_option maxHeartbeats 4000000 in
theorem pa_sign_any (x : Pa.It) (w : World) (hx : Pa.rightI x = true) (hts : x.text.size ≤ 1000000000) (hm : MaxL w) : Calls Tryd.prog 47 #[itV x] w (RetB (.string ⟨(Pa.sign x).toArray⟩) w) := by
  obtain ⟨r, hr⟩ : ∃ r : ByteArray, r = ⟨(Pa.sign x).toArray⟩ := ⟨_, rfl⟩
  rw [← hr]
  obtain ⟨hk1, hk9⟩ := right_kind hx
  obtain ⟨k, t⟩ := x
  unfold itV
  simp only at hk1 hk9 hts ⊢
  have hts2 : (t.size : Int) ≤ 1000000000 := by omega
  by_cases h1 : k = 1
  · subst h1
    have hlit := lit_text hx rfl
    have hc := fun (W : World) (hW : Below w.heap.size w W) => Tryd.strings_Contains ⟨#[32, 45, 43, 40, 41, 58]⟩ t _ W (by decide) (hm.on hW).2.choose_spec
    rw [show (⟨#[32, 45, 43, 40, 41, 58]⟩ : ByteArray).data.toList = [32, 45, 43, 40, 41, 58] from rfl, contains_bare t hlit] at hc
    have hrs : r = if Pa.bareTexts.contains t.data.toList = true then t else (⟨#[92]⟩ : ByteArray) ++ t := by
      rw [hr]
      unfold Pa.sign
      simp only [if_true]
      split
      · exact (str_self t).symm
      · rw [str_cons]
    have HC := Lib.hid hc
    clear hc hr hx hlit hm
    cases hb : Pa.bareTexts.contains t.data.toList with
    | true =>
      rw [hb, if_pos rfl] at hrs
      rw [hb] at HC
      subst hrs
      clear hb
      go_enter Tryd.func47, Tryd.ntmps47
      go_wp2_with (go_at_call 64; (with_reducible refine (HC.out _ (by (repeat (first | exact Below.refl _ _ | assumption | refine Below.setCell ?_ (by first | omega | (simp <;> omega)) _ | refine Below.alloc ?_ (by first | omega | (simp <;> omega)) _ | refine Below.drew ?_ | refine below_drewN' ?_ _)))).mono ?_); rintro e w' ⟨rfl, rfl⟩)
      go_ret
      exact RetB.of rfl (by (repeat (first | exact Below.refl _ _ | assumption | refine Below.setCell ?_ (by first | omega | (simp <;> omega)) _ | refine Below.alloc ?_ (by first | omega | (simp <;> omega)) _ | refine Below.drew ?_ | refine below_drewN' ?_ _)))
    | false =>
      rw [hb, if_neg (by simp)] at hrs
      rw [hb] at HC
      have HRS := Lib.hid hrs
      clear hb hrs
      go_enter Tryd.func47, Tryd.ntmps47
      go_wp2_with (go_at_call 64; (with_reducible refine (HC.out _ (by (repeat (first | exact Below.refl _ _ | assumption | refine Below.setCell ?_ (by first | omega | (simp <;> omega)) _ | refine Below.alloc ?_ (by first | omega | (simp <;> omega)) _ | refine Below.drew ?_ | refine below_drewN' ?_ _)))).mono ?_); rintro e w' ⟨rfl, rfl⟩)
      go_ret
      exact RetB.of (by rw [HRS.out]; rfl) (by (repeat (first | exact Below.refl _ _ | assumption | refine Below.setCell ?_ (by first | omega | (simp <;> omega)) _ | refine Below.alloc ?_ (by first | omega | (simp <;> omega)) _ | refine Below.drew ?_ | refine below_drewN' ?_ _)))
  have hcase : k = 2 ∨ k = 3 ∨ k = 4 ∨ k = 5 ∨ k = 6 ∨ k = 7 ∨ k = 8 ∨ k = 9 := by omega
  clear hx hk1 hk9 hm
  rcases hcase with rfl | rfl | rfl | rfl | rfl | rfl | rfl | rfl
  · have HRS := Lib.hid (show r = t by rw [hr]; exact (str_self t).symm)
    clear hr h1
    go_enter Tryd.func47, Tryd.ntmps47
    go_wp2_with fail
    go_ret
    exact RetB.of (by rw [HRS.out]; rfl) (by (repeat (first | exact Below.refl _ _ | assumption | refine Below.setCell ?_ (by first | omega | (simp <;> omega)) _ | refine Below.alloc ?_ (by first | omega | (simp <;> omega)) _ | refine Below.drew ?_ | refine below_drewN' ?_ _)))
  · subst hr; clear h1
    go_enter Tryd.func47, Tryd.ntmps47
    go_wp2_with fail
    go_ret
    exact RetB.of rfl (by (repeat (first | exact Below.refl _ _ | assumption | refine Below.setCell ?_ (by first | omega | (simp <;> omega)) _ | refine Below.alloc ?_ (by first | omega | (simp <;> omega)) _ | refine Below.drew ?_ | refine below_drewN' ?_ _)))
  · subst hr; clear h1
    go_enter Tryd.func47, Tryd.ntmps47
    go_wp2_with fail
    go_ret
    exact RetB.of rfl (by (repeat (first | exact Below.refl _ _ | assumption | refine Below.setCell ?_ (by first | omega | (simp <;> omega)) _ | refine Below.alloc ?_ (by first | omega | (simp <;> omega)) _ | refine Below.drew ?_ | refine below_drewN' ?_ _)))
  · have HRS := Lib.hid (show r = (⟨#[69]⟩ : ByteArray) ++ t by rw [hr, str_cons]; rfl)
    clear hr h1
    go_enter Tryd.func47, Tryd.ntmps47
    go_wp2_with fail
    go_ret
    exact RetB.of (by rw [HRS.out]; rfl) (by (repeat (first | exact Below.refl _ _ | assumption | refine Below.setCell ?_ (by first | omega | (simp <;> omega)) _ | refine Below.alloc ?_ (by first | omega | (simp <;> omega)) _ | refine Below.drew ?_ | refine below_drewN' ?_ _)))
  all_goals
    subst hr; clear h1
    go_enter Tryd.func47, Tryd.ntmps47
    go_wp2_with fail
    go_ret
    exact RetB.of rfl (by (repeat (first | exact Below.refl _ _ | assumption | refine Below.setCell ?_ (by first | omega | (simp <;> omega)) _ | refine Below.alloc ?_ (by first | omega | (simp <;> omega)) _ | refine Below.drew ?_ | refine below_drewN' ?_ _)))
end Go.Proofs.YticodcecillciaaDoor
