/- Plain Lean: what a text is read as; a greater decimal is no lesser number. -/
import Derived.Test.YtiglekomfgfilaaGreatDoorY14
import Derived.Test.YtiglekomfgfilaaGreatDoorY19
import Derived.Test.YtiglekomfgfilaaGreatDoorY7
import Derived.Deep.DeepCutAuto
import Derived.Test.YtiglekomfgfilaaGreatDoorY24
import Derived.Test.YtiglekomfgfilaaGreatDoorY23
namespace Go.Proofs.YtiglekomfgfilaaGreatDoor.Dc
set_option linter.all false
open Go
def Fine (r : Res) : Prop := (r.e = 0 ∧ right r.l r.x = true) ∨ ∃ e : Int, (e = 2 ∨ e = 3) ∧ r = ⟨false, [], 0, e⟩
theorem right_nil0 : right [] 0 = true := by decide
theorem mk_fine' (n : Bool) (l : Bs) (x : Int) : Fine (mk n l x) := by
  by_cases h : allDig l = true
  · by_cases h1 : core l = []
    · rw [mk_zero h h1]; exact Or.inl ⟨rfl, right_nil0⟩
    · by_cases h2 : right (core l) (x + tz l) = true
      · rw [mk_ok h h1 h2]; exact Or.inl ⟨rfl, h2⟩
      · rw [mk_over h h1 h2]; exact Or.inr ⟨2, Or.inl rfl, rfl⟩
  · rw [mk_bad h]; exact Or.inr ⟨3, Or.inr rfl, rfl⟩
theorem fine_bad : Fine ⟨false, [], 0, 3⟩ := Or.inr ⟨3, Or.inr rfl, rfl⟩
theorem fine_if {p : Prop} [Decidable p] {r t : Res} (hr : Fine r) (ht : Fine t) : Fine (if p then r else t) := by
  by_cases h : p
  · rw [if_pos h]; exact hr
  · rw [if_neg h]; exact ht
theorem tail_fine (n : Bool) (ds : Bs) (p : Nat) (r : Bs) : Fine (tail n ds p r) := by
  cases r with
  | nil => exact mk_fine' ..
  | cons c t => exact fine_if (fine_if fine_bad (mk_fine' ..)) fine_bad
theorem parse_fine (l : Bs) : Fine (parse l) := fine_if fine_bad (tail_fine ..)
end Go.Proofs.YtiglekomfgfilaaGreatDoor.Dc
namespace Go.Proofs.YtiglekomfgfilaaGreatDoor.Fl
open Go
def readOf (n : Bool) (l : Dc.Bs) (x : Int) : Nat × Int := if Dc.right l x = true then (wsign n + bits l x, 0) else (0, 1)
def readS (s : Dc.Bs) : Nat × Int := if (Dc.parse s).e = 0 then (wsign (Dc.parse s).n + bits (Dc.parse s).l (Dc.parse s).x, 0) else (0, (Dc.parse s).e)
theorem bits_le {l : Dc.Bs} {x : Int} (h : Dc.right l x = true) : bits l x ≤ 9218868437227405312 := (bits_near l x (Dc.right_exp h).1).1
end Go.Proofs.YtiglekomfgfilaaGreatDoor.Fl

namespace Go.Proofs.YtiglekomfgfilaaGreatDoor
set_option maxRecDepth 100000
set_option maxHeartbeats 2000000
set_option linter.all false
open Go.RowKit
attribute [local go_sem] Dc.Res.val
theorem cutPre (s p : ByteArray) (w : World) : Calls Tryz.prog 101 #[.string s, .string p] w (Ret0 (.tuple #[.string ⟨(Lib.trimPrefix s.data.toList p.data.toList).toArray⟩, .bool (Lib.hasPrefix s.data.toList p.data.toList)]) w) :=
  (Tryz.strings_CutPrefix s p w).mono fun _ _ h => ⟨h.1, h.2.symm⟩
theorem atoi9 (s : ByteArray) (w : World) (hd : Dc.allDig s.data.toList = true) (h : 0 < s.size ∧ s.size ≤ 9) : Calls Tryz.prog 103 #[.string s] w (RetB (.tuple #[.int .i64 (Dc.numOf s.data.toList), .nilIface]) w) :=
  (Tryz.strconv_Atoi_ok s (by omega) _ (Dc.atoi_digs s.data.toList hd (Dc.ne_nil_of_bytes s h.1) (by simpa using h.2)).1 w).mono fun e w' he => ⟨he.1, by
    rcases he.2 with e | ⟨t, e⟩
    · rw [e]; exact Below.refl _ _
    · rw [e]; exact Lib.bytesWorld_below _ _ _⟩
theorem d_parse_walk (s S1 F S2 S3 G S4 : ByteArray) (neg dot : Bool) (w : World) (hF : F.size ≤ 1000000) (hG : G.size ≤ 1000000) (hS4 : S4.size ≤ 1000000)
    (hcp1 : ∀ w, Calls Tryz.prog 101 #[.string s, .string ⟨#[45]⟩] w (Ret0 (.tuple #[.string S1, .bool neg]) w))
    (hdg1 : ∀ w, Calls Tryz.prog 102 #[.string S1] w (RetB (.tuple #[.string F, .string S2]) w))
    (hcp2 : ∀ w, Calls Tryz.prog 101 #[.string S2, .string ⟨#[46]⟩] w (Ret0 (.tuple #[.string S3, .bool dot]) w))
    (hdg2 : dot = true → ∀ w, Calls Tryz.prog 102 #[.string S3] w (RetB (.tuple #[.string G, .string S4]) w))
    (hnd : dot = false → G = ⟨#[]⟩ ∧ S4 = S2) :
    Calls Tryz.prog 71 #[.string s] w (RetB (if F.size + G.size = 0 then (⟨false, [], 0, 3⟩ : Dc.Res).val else (Dc.tail neg (F.data.toList ++ G.data.toList) G.size S4.data.toList).val) w) := by
  have H1 := Lib.hid hcp1; have H2 := Lib.hid hdg1; have H3 := Lib.hid hcp2; have H4 := Lib.hid hdg2; have H5 := Lib.hid hnd
  clear hcp1 hdg1 hcp2 hdg2 hnd
  obtain ⟨r, hr⟩ : ∃ r, r = (if F.size + G.size = 0 then (⟨false, [], 0, 3⟩ : Dc.Res).val else (Dc.tail neg (F.data.toList ++ G.data.toList) G.size S4.data.toList).val) := ⟨_, rfl⟩
  rw [← hr]
  have HR := Lib.hid hr; clear hr
  go_enter Tryz.func71, Tryz.ntmps71
  go_upto_if 28 with (first
    | (go_at_call 101; (with_reducible refine (H1.out _).mono ?_); rintro e w' ⟨rfl, rfl⟩)
    | (go_at_call 101; (with_reducible refine (H3.out _).mono ?_); rintro e w' ⟨rfl, rfl⟩)
    | (go_at_call 102; (with_reducible refine (H2.out _).mono ?_); rintro e w1 ⟨rfl, hb_w1⟩; have hB_w1 : Below (w.alloc (.cells #[.bool false, .string ⟨#[]⟩, .int .i64 0] 27)).heap.size (w.alloc (.cells #[.bool false, .string ⟨#[]⟩, .int .i64 0] 27)) w1 := Below.trans (by (repeat (first | exact Below.refl _ _ | assumption | refine Below.setCell ?_ (by first | omega | (simp <;> omega)) _ | refine Below.alloc ?_ (by first | omega | (simp <;> omega)) _ | refine Below.drew ?_ | refine below_drewN' ?_ _))) (hb_w1.mono (by first | omega | (simp <;> omega))); obtain ⟨hc_w1, hf_w1⟩ := bcell hb_w1; have hz_w1 := hb_w1.size; (try simp only [zD, zN, zA, zS] at hz_w1); have hk := own6 hb_w1 (w.heap.size) (by (try simp only [zD, zN, zA, zS]); omega); obtain ⟨hl0_w1, hm0_w1, hn0_w1, hq0_w1, hr0_w1, hg0_w1⟩ := hk))
  go_cut [0, 6] (fun a b wr => a = .string S4 ∧ b = .string G ∧ Below (w.alloc (.cells #[.bool false, .string ⟨#[]⟩, .int .i64 0] 27)).heap.size (w.alloc (.cells #[.bool false, .string ⟨#[]⟩, .int .i64 0] 27)) wr)
  case first =>
    cases dot
    · obtain ⟨rfl, rfl⟩ := H5.out rfl
      go_wp2
      go_meet
      exact ⟨rfl, rfl, hB_w1⟩
    · have H4' := Lib.hid (H4.out rfl)
      go_wp2_with (go_at_call 102; (with_reducible refine (H4'.out _).mono ?_); rintro e w2 ⟨rfl, hb_w2⟩; have hB_w2 : Below (w.alloc (.cells #[.bool false, .string ⟨#[]⟩, .int .i64 0] 27)).heap.size (w.alloc (.cells #[.bool false, .string ⟨#[]⟩, .int .i64 0] 27)) w2 := Below.trans (by (repeat (first | exact Below.refl _ _ | assumption | refine Below.setCell ?_ (by first | omega | (simp <;> omega)) _ | refine Below.alloc ?_ (by first | omega | (simp <;> omega)) _ | refine Below.drew ?_ | refine below_drewN' ?_ _))) (hb_w2.mono (by first | omega | (simp <;> omega))); obtain ⟨hc_w2, hf_w2⟩ := bcell hb_w2; have hz_w2 := hb_w2.size; (try simp only [zD, zN, zA, zS] at hz_w2); have hk := own6 hb_w2 (w.heap.size) (by (try simp only [zD, zN, zA, zS]); omega); obtain ⟨hl0_w2, hm0_w2, hn0_w2, hq0_w2, hr0_w2, hg0_w2⟩ := hk)
      go_meet
      exact ⟨rfl, rfl, hB_w2⟩
  case rest =>
    obtain ⟨rfl, rfl, hbw⟩ := hcut
    obtain ⟨hcc, hcf⟩ := bcell hbw
    have hz := hbw.size
    simp only [World.size_alloc] at hz
    have hz1 : w.heap.size < wc.heap.size := by omega
    have hz2 : w.heap.size ≤ wc.heap.size := by omega
    have hr0 := fun o => hcc w.heap.size o (by simp)
    have hg0 := fun o => hcf w.heap.size o (by simp)
    have hB : Below w.heap.size w wc := Below.trans ((Below.refl _ _).alloc (Nat.le_refl _) _) (hbw.mono (by simp))
    have hfgs : ¬ 9223372036854775807 < F.size + G.size := by omega
    by_cases h0 : F.size + G.size = 0
    · have he := isEmpty_of_zero (s := F ++ G) (by rw [ByteArray.size_append]; exact h0)
      have hrr := HR.out; rw [if_pos h0] at hrr
      have HRR := Lib.hid hrr; clear hrr h0
      go_wp2
      (refine bodyPost_ret (v := .tuple #[.agg #[.bool false, .string ⟨#[]⟩, .int .i64 0], .int .i64 3]) (by (simp [results, Tryz.results71, go_sem, hr0, hz1, hz2]; done)) rfl (RetB.of HRR.out.symm (by (repeat (first | exact Below.refl _ _ | assumption | refine Below.setCell ?_ (by first | omega | (simp <;> omega)) _ | refine Below.alloc ?_ (by first | omega | (simp <;> omega)) _ | refine Below.drew ?_ | refine below_drewN' ?_ _)))))
    · have he := isEmpty_of_pos (s := F ++ G) (by rw [ByteArray.size_append]; omega)
      have hrr := HR.out; rw [if_neg h0] at hrr
      by_cases h4 : S4.size = 0
      · have he4 := isEmpty_of_zero h4
        rw [Dc.tail_nil _ _ _ _ h4] at hrr
        have hmk : ∀ w, Calls Tryz.prog 94 #[.bool neg, .string (F ++ G), .int .i64 (-(G.size : Int))] w (RetB r w) := fun w => by
          have := d_make_any neg (F ++ G) (-(G.size : Int)) w (by rw [ByteArray.size_append]; omega) (by omega)
          rw [hrr]; simpa using this
        obtain ⟨q, hq⟩ : ∃ q : Dc.Res, r = q.val := ⟨_, hrr⟩
        rw [hq] at hmk
        have HQ := Lib.hid hq; have HM := Lib.hid hmk; clear hrr h0 h4 hq hmk
        go_wp2_with (go_at_call 94; (with_reducible refine (HM.out _).mono ?_); rintro e w3 ⟨rfl, hb_w3⟩; have hB_w3 : Below (w).heap.size (w) w3 := Below.trans (by (repeat (first | exact Below.refl _ _ | assumption | refine Below.setCell ?_ (by first | omega | (simp <;> omega)) _ | refine Below.alloc ?_ (by first | omega | (simp <;> omega)) _ | refine Below.drew ?_ | refine below_drewN' ?_ _))) (hb_w3.mono (by first | omega | (simp <;> omega))); obtain ⟨hc_w3, hf_w3⟩ := bcell hb_w3; have hz_w3 := hb_w3.size; (try simp only [zD, zN, zA, zS] at hz_w3); have hk := own6 hb_w3 (w.heap.size) (by (try simp only [zD, zN, zA, zS]); omega); obtain ⟨hl0_w3, hm0_w3, hn0_w3, hq0_w3, hr0_w3, hg0_w3⟩ := hk)
        (refine bodyPost_ret (v := Dc.Res.val q) (by (simp [results, Tryz.results71, go_sem, Dc.Res.val, hr0_w3, hl0_w3, hm0_w3, hn0_w3, hq0_w3, hr0, hz1, hz2]; done)) rfl (RetB.of HQ.out.symm (by (repeat (first | exact Below.refl _ _ | assumption | refine Below.setCell ?_ (by first | omega | (simp <;> omega)) _ | refine Below.alloc ?_ (by first | omega | (simp <;> omega)) _ | refine Below.drew ?_ | refine below_drewN' ?_ _)))))
      · replace h4 : 0 < S4.size := by omega
        have he4 := isEmpty_of_pos h4
        by_cases he : (S4[0].toNat : Int) = 101 ∨ (S4[0].toNat : Int) = 69
        · have hc : ((S4[0].toNat : Int) == 101) = true ∨ (((S4[0].toNat : Int) == 101) = false ∧ ((S4[0].toNat : Int) == 69) = true) := by
            simp; omega
          obtain ⟨T, hT⟩ : ∃ T, T = S4.extract 1 S4.size := ⟨_, rfl⟩
          have hTs : T.size + 1 ≤ S4.size ∧ S4.size ≤ T.size + 1 := by rw [hT, ByteArray.size_extract]; omega
          obtain ⟨hTs1, hTs2⟩ := hTs
          have hsl : ∀ w : World, (Instr.slice 9 (.string S4) (some (.int .i64 1)) none none).run Tryz.prog w = .ok (.string T) w := fun w => by
            rw [hT, run_slice_string_from_if w _ S4 .i64 1 Tryz.underlying9, if_pos (by omega)]; rfl
          obtain ⟨T1, hT1, hu, hsz⟩ : ∃ T1 : ByteArray, ((∃ h : 0 < T.size, ((T[0].toNat : Int) = 43 ∨ (T[0].toNat : Int) = 45) ∧ T1 = T.extract 1 T.size) ∨ ((∀ h : 0 < T.size, ¬ ((T[0].toNat : Int) = 43 ∨ (T[0].toNat : Int) = 45)) ∧ T1 = T)) ∧ Dc.unsign T.data.toList = T1.data.toList ∧ T1.size ≤ 1000000 := by
            by_cases hs : ∃ h : 0 < T.size, ((T[0].toNat : Int) = 43 ∨ (T[0].toNat : Int) = 45)
            · exact ⟨_, .inl ⟨hs.1, hs.2, rfl⟩, Dc.unsign_sign T hs.1 hs.2, by rw [ByteArray.size_extract]; omega⟩
            · exact ⟨_, .inr ⟨fun h e => hs ⟨h, e⟩, rfl⟩, Dc.unsign_none T (fun h e => hs ⟨h, e⟩), by omega⟩
          obtain ⟨N, hN⟩ : ∃ N : ByteArray, N = ⟨(T1.data.toList.takeWhile Dc.isDig).toArray⟩ := ⟨_, rfl⟩
          obtain ⟨Q, hQ⟩ : ∃ Q : ByteArray, Q = ⟨(T1.data.toList.dropWhile Dc.isDig).toArray⟩ := ⟨_, rfl⟩
          have hdg : ∀ w, Calls Tryz.prog 102 #[.string T1] w (RetB (.tuple #[.string N, .string Q]) w) := fun w => by rw [hN, hQ]; exact d_digits_any T1 w (by omega)
          have hn1 : N.data.toList = T1.data.toList.takeWhile Dc.isDig := by rw [hN]
          have hq1 : Q.data.toList = T1.data.toList.dropWhile Dc.isDig := by rw [hQ]
          have hnT : N.size ≤ T1.size := by
            rw [← bs_length N, hn1, ← bs_length T1]; exact (List.takeWhile_sublist _).length_le
          have hT1T : T1.size ≤ T.size := by
            rcases hT1 with ⟨_, _, e⟩ | ⟨_, e⟩
            · rw [e, ByteArray.size_extract]; omega
            · rw [e]; exact Nat.le_refl _
          have HTE := Lib.hid hT; have HT1 := Lib.hid hT1; have HU := Lib.hid hu; have HD := Lib.hid hdg; have HN1 := Lib.hid hn1; have HQ1 := Lib.hid hq1; have HRX := Lib.hid hrr; have HE := Lib.hid he; have HC := Lib.hid hc
          clear hT hT1 hu hdg hn1 hq1 hrr he hN hQ h0 hc
          go_upto_region 10 with (fail)
          go_cut [50] (fun a wr => a = .bool true ∧ wr = wc)
          case first =>
            rcases HC.out with c1 | ⟨c1, c2⟩
            all_goals (go_wp2; go_meet; exact ⟨rfl, rfl⟩)
          case rest =>
            obtain ⟨rfl, hwc⟩ := hcut
            subst hwc
            obtain ⟨sb, hsb⟩ : ∃ sb : Bool, sb = decide (∃ h : 0 < T.size, ((T[0].toNat : Int) = 43 ∨ (T[0].toNat : Int) = 45)) := ⟨_, rfl⟩
            have HSB := Lib.hid hsb; clear hsb
            go_upto_region 12 with (fail)
            go_cut [64] (fun a wr => a = .bool sb ∧ wr = wc)
            case first =>
              by_cases t0 : T.size = 0
              · have te := isEmpty_of_zero t0
                have hf : false = sb := by rw [HSB.out]; symm; simp [t0]
                have HF := Lib.hid hf; have H0 := Lib.hid t0; clear t0 hf
                go_wp2
                go_meet
                exact ⟨congrArg Value.bool HF.out, rfl⟩
              · replace t0 : 0 < T.size := by omega
                have te := isEmpty_of_pos t0
                have hf : ((((T[0].toNat : Int) == 43) || ((T[0].toNat : Int) == 45))) = sb := by
                  rw [HSB.out, Bool.eq_iff_iff]; simp [t0]
                have HF := Lib.hid hf; clear hf
                by_cases c43 : (T[0].toNat : Int) = 43
                · have b43 : ((T[0].toNat : Int) == 43) = true := by simpa using c43
                  have HC43 := Lib.hid c43; clear c43
                  go_wp2
                  go_meet
                  exact ⟨congrArg Value.bool (by rw [← HF.out, b43]; rfl), rfl⟩
                · have b43 : ((T[0].toNat : Int) == 43) = false := by simpa using c43
                  have HC43 := Lib.hid c43; clear c43
                  go_wp2
                  go_meet
                  exact ⟨congrArg Value.bool (by rw [← HF.out, b43]; rfl), rfl⟩
            case rest =>
              obtain ⟨rfl, hwc⟩ := hcut
              subst hwc
              go_upto_if 64 with (fail)
              go_cut [10] (fun a wr => a = .string T1 ∧ wr = wc)
              case first =>
                rcases HT1.out with ⟨h, hs, e⟩ | ⟨hs, e⟩
                · have hb : sb = true := by rw [HSB.out]; simpa using ⟨h, hs⟩
                  have HB := Lib.hid hb; subst e; clear hs
                  obtain rfl := hb
                  go_wp2
                  go_meet
                  exact ⟨rfl, rfl⟩
                · have hb : sb = false := by rw [HSB.out]; simp; intro h; have := hs h; omega
                  subst e; clear hs
                  obtain rfl := hb
                  go_wp2
                  go_meet
                  exact ⟨rfl, rfl⟩
              case rest =>
                obtain ⟨rfl, hwc⟩ := hcut
                subst hwc
                have hbad : (N.size = 0 ∨ 9 < N.size ∨ 0 < Q.size) → r = Dc.bad.val := fun hb => by
                  rw [HRX.out, Dc.tail_exp_bad _ _ _ S4 T T1 N Q h4 HE.out HTE.out HU.out HN1.out HQ1.out hb]
                have hgood : ∀ (hb : 0 < N.size ∧ N.size ≤ 9 ∧ Q.size = 0) (hts : 1 < S4.size), r = (Dc.mk neg (F.data.toList ++ G.data.toList) ((if (S4[1].toNat : Int) = 45 then - Dc.numOf N.data.toList else Dc.numOf N.data.toList) - G.size)).val := fun hb hts => by
                  rw [HRX.out, Dc.tail_exp_ok _ _ _ S4 T T1 N Q h4 HE.out HTE.out HU.out HN1.out HQ1.out hb hts]
                have HBAD := Lib.hid hbad; have HGOOD := Lib.hid hgood; clear hbad hgood
                by_cases n0 : N.size = 0
                · have e0 := isEmpty_of_zero n0
                  have hrr := HBAD.out (.inl n0)
                  have HRR := Lib.hid hrr; clear hrr n0
                  go_wp2_with (go_at_call 102; (with_reducible refine (HD.out _).mono ?_); rintro e w3 ⟨rfl, hb_w3⟩; have hB_w3 : Below (w).heap.size (w) w3 := Below.trans (by (repeat (first | exact Below.refl _ _ | assumption | refine Below.setCell ?_ (by first | omega | (simp <;> omega)) _ | refine Below.alloc ?_ (by first | omega | (simp <;> omega)) _ | refine Below.drew ?_ | refine below_drewN' ?_ _))) (hb_w3.mono (by first | omega | (simp <;> omega))); obtain ⟨hc_w3, hf_w3⟩ := bcell hb_w3; have hz_w3 := hb_w3.size; (try simp only [zD, zN, zA, zS] at hz_w3); have hk := own6 hb_w3 (w.heap.size) (by (try simp only [zD, zN, zA, zS]); omega); obtain ⟨hl0_w3, hm0_w3, hn0_w3, hq0_w3, hr0_w3, hg0_w3⟩ := hk)
                  (refine bodyPost_ret (v := .tuple #[.agg #[.bool false, .string ⟨#[]⟩, .int .i64 0], .int .i64 3]) (by (simp [results, Tryz.results71, go_sem, hr0_w3, hl0_w3, hm0_w3, hn0_w3, hq0_w3, hr0, hz1, hz2]; done)) rfl (RetB.of HRR.out.symm (by (repeat (first | exact Below.refl _ _ | assumption | refine Below.setCell ?_ (by first | omega | (simp <;> omega)) _ | refine Below.alloc ?_ (by first | omega | (simp <;> omega)) _ | refine Below.drew ?_ | refine below_drewN' ?_ _)))))
                · replace n0 : 0 < N.size := by omega
                  have e0 := isEmpty_of_pos n0
                  by_cases n9 : 9 < N.size
                  · have hrr := HBAD.out (.inr (.inl n9))
                    have HRR := Lib.hid hrr; clear hrr
                    go_wp2_with (go_at_call 102; (with_reducible refine (HD.out _).mono ?_); rintro e w3 ⟨rfl, hb_w3⟩; have hB_w3 : Below (w).heap.size (w) w3 := Below.trans (by (repeat (first | exact Below.refl _ _ | assumption | refine Below.setCell ?_ (by first | omega | (simp <;> omega)) _ | refine Below.alloc ?_ (by first | omega | (simp <;> omega)) _ | refine Below.drew ?_ | refine below_drewN' ?_ _))) (hb_w3.mono (by first | omega | (simp <;> omega))); obtain ⟨hc_w3, hf_w3⟩ := bcell hb_w3; have hz_w3 := hb_w3.size; (try simp only [zD, zN, zA, zS] at hz_w3); have hk := own6 hb_w3 (w.heap.size) (by (try simp only [zD, zN, zA, zS]); omega); obtain ⟨hl0_w3, hm0_w3, hn0_w3, hq0_w3, hr0_w3, hg0_w3⟩ := hk)
                    (refine bodyPost_ret (v := .tuple #[.agg #[.bool false, .string ⟨#[]⟩, .int .i64 0], .int .i64 3]) (by (simp [results, Tryz.results71, go_sem, hr0_w3, hl0_w3, hm0_w3, hn0_w3, hq0_w3, hr0, hz1, hz2]; done)) rfl (RetB.of HRR.out.symm (by (repeat (first | exact Below.refl _ _ | assumption | refine Below.setCell ?_ (by first | omega | (simp <;> omega)) _ | refine Below.alloc ?_ (by first | omega | (simp <;> omega)) _ | refine Below.drew ?_ | refine below_drewN' ?_ _)))))
                  · by_cases q0 : 0 < Q.size
                    · have hrr := HBAD.out (.inr (.inr q0))
                      have eq := isEmpty_of_pos q0
                      have HRR := Lib.hid hrr; clear hrr
                      go_wp2_with (go_at_call 102; (with_reducible refine (HD.out _).mono ?_); rintro e w3 ⟨rfl, hb_w3⟩; have hB_w3 : Below (w).heap.size (w) w3 := Below.trans (by (repeat (first | exact Below.refl _ _ | assumption | refine Below.setCell ?_ (by first | omega | (simp <;> omega)) _ | refine Below.alloc ?_ (by first | omega | (simp <;> omega)) _ | refine Below.drew ?_ | refine below_drewN' ?_ _))) (hb_w3.mono (by first | omega | (simp <;> omega))); obtain ⟨hc_w3, hf_w3⟩ := bcell hb_w3; have hz_w3 := hb_w3.size; (try simp only [zD, zN, zA, zS] at hz_w3); have hk := own6 hb_w3 (w.heap.size) (by (try simp only [zD, zN, zA, zS]); omega); obtain ⟨hl0_w3, hm0_w3, hn0_w3, hq0_w3, hr0_w3, hg0_w3⟩ := hk)
                      (refine bodyPost_ret (v := .tuple #[.agg #[.bool false, .string ⟨#[]⟩, .int .i64 0], .int .i64 3]) (by (simp [results, Tryz.results71, go_sem, hr0_w3, hl0_w3, hm0_w3, hn0_w3, hq0_w3, hr0, hz1, hz2]; done)) rfl (RetB.of HRR.out.symm (by (repeat (first | exact Below.refl _ _ | assumption | refine Below.setCell ?_ (by first | omega | (simp <;> omega)) _ | refine Below.alloc ?_ (by first | omega | (simp <;> omega)) _ | refine Below.drew ?_ | refine below_drewN' ?_ _)))))
                    · have eq := isEmpty_of_zero (s := Q) (by omega)
                      have hts : 1 < S4.size := by omega
                      have hrr := HGOOD.out ⟨n0, by omega, by omega⟩ hts
                      have hNd : Dc.allDig N.data.toList = true := by
                        rw [HN1.out, Dc.allDig]; exact List.all_takeWhile
                      have hat := fun w => atoi9 N w hNd ⟨n0, by omega⟩
                      have hbd := (Dc.atoi_digs N.data.toList hNd (Dc.ne_nil_of_bytes N n0) (by simp; omega)).2
                      obtain ⟨v, hv⟩ : ∃ v, v = Dc.numOf N.data.toList := ⟨_, rfl⟩
                      rw [← hv] at hrr hat hbd
                      obtain ⟨hb1, hb2⟩ := hbd
                      have HAT := Lib.hid hat; clear hat hv hNd
                      by_cases h45 : (S4[1].toNat : Int) = 45
                      · have b45 : ((S4[1].toNat : Int) == 45) = true := by simpa using h45
                        rw [if_pos h45] at hrr
                        have hmk : ∀ w, Calls Tryz.prog 94 #[.bool neg, .string (F ++ G), .int .i64 (-v - (G.size : Int))] w (RetB r w) := fun w => by
                          have := d_make_any neg (F ++ G) (-v - (G.size : Int)) w (by rw [ByteArray.size_append]; omega) (by omega)
                          rw [hrr]; simpa using this
                        obtain ⟨q, hq⟩ : ∃ q : Dc.Res, r = q.val := ⟨_, hrr⟩
                        rw [hq] at hmk
                        have HQQ := Lib.hid hq; have HM := Lib.hid hmk; have H45 := Lib.hid h45; clear hrr hq hmk h45
                        go_wp2_with (first
                          | (go_at_call 102; (with_reducible refine (HD.out _).mono ?_); rintro e w3 ⟨rfl, hb_w3⟩; have hB_w3 : Below (w).heap.size (w) w3 := Below.trans (by (repeat (first | exact Below.refl _ _ | assumption | refine Below.setCell ?_ (by first | omega | (simp <;> omega)) _ | refine Below.alloc ?_ (by first | omega | (simp <;> omega)) _ | refine Below.drew ?_ | refine below_drewN' ?_ _))) (hb_w3.mono (by first | omega | (simp <;> omega))); obtain ⟨hc_w3, hf_w3⟩ := bcell hb_w3; have hz_w3 := hb_w3.size; (try simp only [zD, zN, zA, zS] at hz_w3); have hk := own6 hb_w3 (w.heap.size) (by (try simp only [zD, zN, zA, zS]); omega); obtain ⟨hl0_w3, hm0_w3, hn0_w3, hq0_w3, hr0_w3, hg0_w3⟩ := hk)
                          | (go_at_call 103; (with_reducible refine (HAT.out _).mono ?_); rintro e w4 ⟨rfl, hb_w4⟩; have hB_w4 : Below (w).heap.size (w) w4 := Below.trans (by (repeat (first | exact Below.refl _ _ | assumption | refine Below.setCell ?_ (by first | omega | (simp <;> omega)) _ | refine Below.alloc ?_ (by first | omega | (simp <;> omega)) _ | refine Below.drew ?_ | refine below_drewN' ?_ _))) (hb_w4.mono (by first | omega | (simp <;> omega))); obtain ⟨hc_w4, hf_w4⟩ := bcell hb_w4; have hz_w4 := hb_w4.size; (try simp only [zD, zN, zA, zS] at hz_w4); have hk := own6 hb_w4 (w.heap.size) (by (try simp only [zD, zN, zA, zS]); omega); obtain ⟨hl0_w4, hm0_w4, hn0_w4, hq0_w4, hr0_w4, hg0_w4⟩ := hk)
                          | (go_at_call 94; (with_reducible refine (HM.out _).mono ?_); rintro e w5 ⟨rfl, hb_w5⟩; have hB_w5 : Below (w).heap.size (w) w5 := Below.trans (by (repeat (first | exact Below.refl _ _ | assumption | refine Below.setCell ?_ (by first | omega | (simp <;> omega)) _ | refine Below.alloc ?_ (by first | omega | (simp <;> omega)) _ | refine Below.drew ?_ | refine below_drewN' ?_ _))) (hb_w5.mono (by first | omega | (simp <;> omega))); obtain ⟨hc_w5, hf_w5⟩ := bcell hb_w5; have hz_w5 := hb_w5.size; (try simp only [zD, zN, zA, zS] at hz_w5); have hk := own6 hb_w5 (w.heap.size) (by (try simp only [zD, zN, zA, zS]); omega); obtain ⟨hl0_w5, hm0_w5, hn0_w5, hq0_w5, hr0_w5, hg0_w5⟩ := hk))
                        (refine bodyPost_ret (v := Dc.Res.val q) (by (simp [results, Tryz.results71, go_sem, Dc.Res.val, hr0_w3, hl0_w3, hm0_w3, hn0_w3, hq0_w3, hr0_w4, hl0_w4, hm0_w4, hn0_w4, hq0_w4, hr0_w5, hl0_w5, hm0_w5, hn0_w5, hq0_w5, hr0, hz1, hz2]; done)) rfl (RetB.of HQQ.out.symm (by (repeat (first | exact Below.refl _ _ | assumption | refine Below.setCell ?_ (by first | omega | (simp <;> omega)) _ | refine Below.alloc ?_ (by first | omega | (simp <;> omega)) _ | refine Below.drew ?_ | refine below_drewN' ?_ _)))))
                      · have b45 : ((S4[1].toNat : Int) == 45) = false := by simpa using h45
                        rw [if_neg h45] at hrr
                        have hmk : ∀ w, Calls Tryz.prog 94 #[.bool neg, .string (F ++ G), .int .i64 (v - (G.size : Int))] w (RetB r w) := fun w => by
                          have := d_make_any neg (F ++ G) (v - (G.size : Int)) w (by rw [ByteArray.size_append]; omega) (by omega)
                          rw [hrr]; simpa using this
                        obtain ⟨q, hq⟩ : ∃ q : Dc.Res, r = q.val := ⟨_, hrr⟩
                        rw [hq] at hmk
                        have HQQ := Lib.hid hq; have HM := Lib.hid hmk; have H45 := Lib.hid h45; clear hrr hq hmk h45
                        go_wp2_with (first
                          | (go_at_call 102; (with_reducible refine (HD.out _).mono ?_); rintro e w3 ⟨rfl, hb_w3⟩; have hB_w3 : Below (w).heap.size (w) w3 := Below.trans (by (repeat (first | exact Below.refl _ _ | assumption | refine Below.setCell ?_ (by first | omega | (simp <;> omega)) _ | refine Below.alloc ?_ (by first | omega | (simp <;> omega)) _ | refine Below.drew ?_ | refine below_drewN' ?_ _))) (hb_w3.mono (by first | omega | (simp <;> omega))); obtain ⟨hc_w3, hf_w3⟩ := bcell hb_w3; have hz_w3 := hb_w3.size; (try simp only [zD, zN, zA, zS] at hz_w3); have hk := own6 hb_w3 (w.heap.size) (by (try simp only [zD, zN, zA, zS]); omega); obtain ⟨hl0_w3, hm0_w3, hn0_w3, hq0_w3, hr0_w3, hg0_w3⟩ := hk)
                          | (go_at_call 103; (with_reducible refine (HAT.out _).mono ?_); rintro e w4 ⟨rfl, hb_w4⟩; have hB_w4 : Below (w).heap.size (w) w4 := Below.trans (by (repeat (first | exact Below.refl _ _ | assumption | refine Below.setCell ?_ (by first | omega | (simp <;> omega)) _ | refine Below.alloc ?_ (by first | omega | (simp <;> omega)) _ | refine Below.drew ?_ | refine below_drewN' ?_ _))) (hb_w4.mono (by first | omega | (simp <;> omega))); obtain ⟨hc_w4, hf_w4⟩ := bcell hb_w4; have hz_w4 := hb_w4.size; (try simp only [zD, zN, zA, zS] at hz_w4); have hk := own6 hb_w4 (w.heap.size) (by (try simp only [zD, zN, zA, zS]); omega); obtain ⟨hl0_w4, hm0_w4, hn0_w4, hq0_w4, hr0_w4, hg0_w4⟩ := hk)
                          | (go_at_call 94; (with_reducible refine (HM.out _).mono ?_); rintro e w5 ⟨rfl, hb_w5⟩; have hB_w5 : Below (w).heap.size (w) w5 := Below.trans (by (repeat (first | exact Below.refl _ _ | assumption | refine Below.setCell ?_ (by first | omega | (simp <;> omega)) _ | refine Below.alloc ?_ (by first | omega | (simp <;> omega)) _ | refine Below.drew ?_ | refine below_drewN' ?_ _))) (hb_w5.mono (by first | omega | (simp <;> omega))); obtain ⟨hc_w5, hf_w5⟩ := bcell hb_w5; have hz_w5 := hb_w5.size; (try simp only [zD, zN, zA, zS] at hz_w5); have hk := own6 hb_w5 (w.heap.size) (by (try simp only [zD, zN, zA, zS]); omega); obtain ⟨hl0_w5, hm0_w5, hn0_w5, hq0_w5, hr0_w5, hg0_w5⟩ := hk))
                        (refine bodyPost_ret (v := Dc.Res.val q) (by (simp [results, Tryz.results71, go_sem, Dc.Res.val, hr0_w3, hl0_w3, hm0_w3, hn0_w3, hq0_w3, hr0_w4, hl0_w4, hm0_w4, hn0_w4, hq0_w4, hr0_w5, hl0_w5, hm0_w5, hn0_w5, hq0_w5, hr0, hz1, hz2]; done)) rfl (RetB.of HQQ.out.symm (by (repeat (first | exact Below.refl _ _ | assumption | refine Below.setCell ?_ (by first | omega | (simp <;> omega)) _ | refine Below.alloc ?_ (by first | omega | (simp <;> omega)) _ | refine Below.drew ?_ | refine below_drewN' ?_ _)))))
        · have b1 : ((S4[0].toNat : Int) == 101) = false := by simp; omega
          have b2 : ((S4[0].toNat : Int) == 69) = false := by simp; omega
          rw [Dc.tail_bad _ _ _ _ h4 (by omega) (by omega)] at hrr
          have HRR := Lib.hid hrr; clear hrr h0 he
          go_wp2
          (refine bodyPost_ret (v := .tuple #[.agg #[.bool false, .string ⟨#[]⟩, .int .i64 0], .int .i64 3]) (by (simp [results, Tryz.results71, go_sem, hr0, hz1, hz2]; done)) rfl (RetB.of HRR.out.symm (by (repeat (first | exact Below.refl _ _ | assumption | refine Below.setCell ?_ (by first | omega | (simp <;> omega)) _ | refine Below.alloc ?_ (by first | omega | (simp <;> omega)) _ | refine Below.drew ?_ | refine below_drewN' ?_ _)))))
theorem d_parse_any (s : ByteArray) (w : World) (hs : s.size ≤ 1000000) : Calls Tryz.prog 71 #[.string s] w (RetB (Dc.parse s.data.toList).val w) := by
  have hp1 : (Lib.trimPrefix s.data.toList [45]).length ≤ s.size := by have := Dc.trimPrefix_len s.data.toList [45]; rwa [bs_length] at this
  have ht := (List.takeWhile_sublist Dc.isDig (l := Lib.trimPrefix s.data.toList [45])).length_le
  have hd := (List.dropWhile_sublist Dc.isDig (l := Lib.trimPrefix s.data.toList [45])).length_le
  have hp2 := Dc.trimPrefix_len ((Lib.trimPrefix s.data.toList [45]).dropWhile Dc.isDig) [46]
  have ht2 := (List.takeWhile_sublist Dc.isDig (l := Lib.trimPrefix ((Lib.trimPrefix s.data.toList [45]).dropWhile Dc.isDig) [46])).length_le
  have hd2 := (List.dropWhile_sublist Dc.isDig (l := Lib.trimPrefix ((Lib.trimPrefix s.data.toList [45]).dropWhile Dc.isDig) [46])).length_le
  cases hdot : Lib.hasPrefix ((Lib.trimPrefix s.data.toList [45]).dropWhile Dc.isDig) [46] with
  | true =>
    have h := d_parse_walk s ⟨(Lib.trimPrefix s.data.toList [45]).toArray⟩ ⟨((Lib.trimPrefix s.data.toList [45]).takeWhile Dc.isDig).toArray⟩ ⟨((Lib.trimPrefix s.data.toList [45]).dropWhile Dc.isDig).toArray⟩
      ⟨(Lib.trimPrefix ((Lib.trimPrefix s.data.toList [45]).dropWhile Dc.isDig) [46]).toArray⟩ ⟨((Lib.trimPrefix ((Lib.trimPrefix s.data.toList [45]).dropWhile Dc.isDig) [46]).takeWhile Dc.isDig).toArray⟩
      ⟨((Lib.trimPrefix ((Lib.trimPrefix s.data.toList [45]).dropWhile Dc.isDig) [46]).dropWhile Dc.isDig).toArray⟩ (Lib.hasPrefix s.data.toList [45]) true w (by rw [size_mk]; omega) (by rw [size_mk]; omega) (by rw [size_mk]; omega)
      (fun w => cutPre s ⟨#[45]⟩ w) (fun w => d_digits_any _ w (by rw [size_mk]; omega)) (fun w => by have := cutPre ⟨((Lib.trimPrefix s.data.toList [45]).dropWhile Dc.isDig).toArray⟩ ⟨#[46]⟩ w; rw [← hdot]; exact this)
      (fun _ w => d_digits_any _ w (by rw [size_mk]; omega)) (fun e => by cases e)
    refine h.mono fun e w' he => ?_
    rw [size_mk, size_mk] at he
    rw [Dc.parse_dot _ hdot]
    exact he
  | false =>
    have h := d_parse_walk s ⟨(Lib.trimPrefix s.data.toList [45]).toArray⟩ ⟨((Lib.trimPrefix s.data.toList [45]).takeWhile Dc.isDig).toArray⟩ ⟨((Lib.trimPrefix s.data.toList [45]).dropWhile Dc.isDig).toArray⟩
      ⟨(Lib.trimPrefix ((Lib.trimPrefix s.data.toList [45]).dropWhile Dc.isDig) [46]).toArray⟩ ⟨#[]⟩
      ⟨((Lib.trimPrefix s.data.toList [45]).dropWhile Dc.isDig).toArray⟩ (Lib.hasPrefix s.data.toList [45]) false w (by rw [size_mk]; omega) (by decide) (by rw [size_mk]; omega)
      (fun w => cutPre s ⟨#[45]⟩ w) (fun w => d_digits_any _ w (by rw [size_mk]; omega)) (fun w => by have := cutPre ⟨((Lib.trimPrefix s.data.toList [45]).dropWhile Dc.isDig).toArray⟩ ⟨#[46]⟩ w; rw [← hdot]; exact this)
      (fun e => by cases e) (fun _ => ⟨rfl, rfl⟩)
    refine h.mono fun e w' he => ?_
    rw [size_mk] at he
    rw [Dc.parse_plain _ hdot]
    exact he
end Go.Proofs.YtiglekomfgfilaaGreatDoor

/- The Reader in the program: Bits and Parse. -/
namespace Go.Proofs.YtiglekomfgfilaaGreatDoor
set_option maxRecDepth 100000
set_option maxHeartbeats 4000000
set_option linter.all false
open Go.RowKit
theorem re_with_any (b : Bool) (v : Nat) (w : World) (hv : v < 9223372036854775808) : Calls Tryz.prog 99 #[.bool b, .int .u64 v] w (Ret0 (.int .u64 ((Fl.wsign b + v : Nat) : Int)) w) := by
  cases b with
  | false =>
    rw [show Fl.wsign false = 0 from rfl, Nat.zero_add]
    go_enter Tryz.func99, Tryz.ntmps99
    go_wp2
    go_ret
    exact Ret0.of rfl
  | true =>
    have hor := Fl.or_sign v hv
    rw [show Fl.wsign true = 9223372036854775808 from rfl]
    go_enter Tryz.func99, Tryz.ntmps99
    go_wp2
    go_ret
    exact Ret0.of rfl
theorem re_bits_any (b : Nat) (n : Bool) (s : ByteArray) (x : Int) (w : World) (hs : s.size ≤ 9223372036854775807) (hR : Rdr w b) :
    Calls Tryz.prog 67 #[.pointer (some ⟨b, 0, none⟩), .agg #[.bool n, .string s, .int .i64 x]] w (RetR b (.tuple #[.int .u64 ((Fl.readOf n s.data.toList x).1 : Nat), .int .i64 (Fl.readOf n s.data.toList x).2]) w) := by
  have hb0 : Below w.heap.size w (w.alloc (Obj.cells #[Value.bool n, Value.string s, Value.int IntKind.i64 x] 27)) := (Below.refl _ _).alloc (Nat.le_refl _) _
  have dd0 := DecB.new w n s x
  have hG := fun w => d_right_any n s x w hs
  by_cases hr : Dc.right s.data.toList x = true
  · have hv : Fl.readOf n s.data.toList x = (Fl.wsign n + Fl.bits s.data.toList x, 0) := by rw [Fl.readOf, if_pos hr]
    rw [hv]
    have hS := fun w1 (h : Rdr w1 b) => re_size_any b n s x w1 hr h
    have hle := Fl.bits_le hr
    rw [hr] at hG
    obtain ⟨Z, hZ⟩ : ∃ Z, Z = Fl.bits s.data.toList x := ⟨_, rfl⟩
    rw [← hZ] at hS hle ⊢
    have hW := fun w1 => re_with_any n Z w1 (by omega)
    obtain ⟨Y, hY⟩ : ∃ Y, Y = Fl.wsign n + Z := ⟨_, rfl⟩
    rw [← hY] at hW ⊢
    have hbl := hR.lt
    have hF : ∀ w1 w2, Below w.heap.size w w1 → Onl b w1 w2 → Onl b w w2 := fun w1 w2 h1 h2 => (hR.onl h1).trans h2
    have HF := Lib.hid hF; have HG := Lib.hid hG; have HS := Lib.hid hS; have HW := Lib.hid hW; have HR := Lib.hid hR
    clear hF hG hS hW hR hr hv hle hZ hY
    go_enter Tryz.func67, Tryz.ntmps67
    go_upto_region 3 with (first
      | (go_at_call 20; (with_reducible refine (HG.out _).mono ?_); rintro e w1 ⟨rfl, hb1⟩; have hB1 : Below w.heap.size w w1 := hb0.trans (hb1.mono (by simp)); have dd1 := dd0.on hb1; obtain ⟨y0, y1, y2, yl⟩ := id dd1))
    go_region_held3 (fun w' => w'.cell? ⟨w.heap.size, 0, none⟩ = some (.bool n) ∧ w'.cell? ⟨w.heap.size, 1, none⟩ = some (.string s) ∧ w'.cell? ⟨w.heap.size, 2, none⟩ = some (.int .i64 x))
      (first | go_keep | (refine ⟨?_, ?_, ?_⟩ <;> (first | (rw [hr0_w2]; assumption))) | (refine ⟨?_, ?_, ?_⟩ <;> (first | (go_simp; done) | (simp [go_sem, *]; done))))
      (first
      | (go_at_call 100; (with_reducible refine (HS.out _ (HR.out.on (by (repeat (first | exact Below.refl _ _ | assumption | refine Below.setCell ?_ (by first | omega | (simp <;> omega)) _ | refine Below.alloc ?_ (by first | omega | (simp <;> omega)) _ | refine Below.drew ?_ | refine below_drewN' ?_ _))))).mono ?_); rintro e w2 ⟨rfl, ho2, rd2⟩; have hO2 := HF.out _ _ (by (repeat (first | exact Below.refl _ _ | assumption | refine Below.setCell ?_ (by first | omega | (simp <;> omega)) _ | refine Below.alloc ?_ (by first | omega | (simp <;> omega)) _ | refine Below.drew ?_ | refine below_drewN' ?_ _))) ho2; have hr0_w2 := fun o => ho2.cell (k := w.heap.size) (o := o) (by omega) (by (try simp only [zD, zN, zA, zS]); omega))
      | (go_at_call 99; (with_reducible refine (HW.out _).mono ?_); rintro e w' ⟨rfl, rfl⟩))
    all_goals (try go_wp2)
    refine bodyPost_ret (v := .tuple #[.int .u64 (Y : Nat), .int .i64 0]) (by (simp [results, Tryz.results67, go_sem]; done)) rfl ⟨rfl, hO2, rd2⟩
  · have hv : Fl.readOf n s.data.toList x = (0, 1) := by rw [Fl.readOf, if_neg hr]
    rw [hv]
    rw [Bool.eq_false_iff.2 hr] at hG
    have hF : ∀ w', Below w.heap.size w w' → Onl b w w' ∧ Rdr w' b := fun w' h => ⟨hR.onl h, hR.on h⟩
    have HF := Lib.hid hF; have HG := Lib.hid hG
    clear hF hG hr hv hR
    go_enter Tryz.func67, Tryz.ntmps67
    go_wp2_with (first
      | (go_at_call 20; (with_reducible refine (HG.out _).mono ?_); rintro e w1 ⟨rfl, hb1⟩; have hB1 : Below w.heap.size w w1 := hb0.trans (hb1.mono (by simp)); have dd1 := dd0.on hb1; obtain ⟨y0, y1, y2, yl⟩ := id dd1))
    refine bodyPost_ret (v := .tuple #[.int .u64 0, .int .i64 1]) (by (simp [results, Tryz.results67, go_sem]; done)) rfl ⟨rfl, HF.out _ hB1⟩
theorem re_parse_any (b : Nat) (s : ByteArray) (w : World) (hs : s.size ≤ 1000000) (hR : Rdr w b) :
    Calls Tryz.prog 40 #[.pointer (some ⟨b, 0, none⟩), .string s] w (RetR b (.tuple #[.int .u64 ((Fl.readS s.data.toList).1 : Nat), .int .i64 (Fl.readS s.data.toList).2]) w) := by
  have hP := fun w => d_parse_any s w hs
  rcases Dc.parse_fine s.data.toList with ⟨he, hr⟩ | ⟨e, he, hf⟩
  · rcases hq : Dc.parse s.data.toList with ⟨n, l, x, e⟩
    rw [hq] at he hr hP
    simp only at he hr
    subst he
    have hv : Fl.readS s.data.toList = (Fl.wsign n + Fl.bits l x, 0) := by rw [Fl.readS, hq, if_pos rfl]
    rw [hv]
    have hlen := Dc.right_len hr
    obtain ⟨S, hS⟩ : ∃ S : ByteArray, S = ⟨l.toArray⟩ := ⟨_, rfl⟩
    have hSl : S.data.toList = l := by rw [hS]
    have hB := fun w1 (h : Rdr w1 b) => re_bits_any b n S x w1 (by rw [← bs_length, hSl]; omega) h
    rw [hSl, Fl.readOf, if_pos hr] at hB
    simp only [Dc.Res.val] at hP
    rw [← hS] at hP
    obtain ⟨Y, hY⟩ : ∃ Y, Y = Fl.wsign n + Fl.bits l x := ⟨_, rfl⟩
    rw [← hY] at hB ⊢
    have hbl := hR.lt
    have hF : ∀ w1 w2, Below w.heap.size w w1 → Onl b w1 w2 → Onl b w w2 := fun w1 w2 h1 h2 => (hR.onl h1).trans h2
    have HF := Lib.hid hF; have HP := Lib.hid hP; have HB := Lib.hid hB; have HR := Lib.hid hR
    clear hF hP hB hR hr hv hlen hS hSl hY hq
    go_enter Tryz.func40, Tryz.ntmps40
    go_wp2_with (first
      | (go_at_call 71; (with_reducible refine (HP.out _).mono ?_); rintro e w1 ⟨rfl, hb1⟩; have hB1 : Below w.heap.size w w1 := (by first | exact hb1 | exact ((Below.refl _ _).alloc (Nat.le_refl _) _).trans (hb1.mono (by simp))); have hz1 := hB1.size)
      | (go_at_call 67; (with_reducible refine (HB.out _ (HR.out.on (by (repeat (first | exact Below.refl _ _ | assumption | refine Below.setCell ?_ (by first | omega | (simp <;> omega)) _ | refine Below.alloc ?_ (by first | omega | (simp <;> omega)) _ | refine Below.drew ?_ | refine below_drewN' ?_ _))))).mono ?_); rintro e w2 ⟨rfl, ho2, rd2⟩; have hO2 := HF.out _ _ (by (repeat (first | exact Below.refl _ _ | assumption | refine Below.setCell ?_ (by first | omega | (simp <;> omega)) _ | refine Below.alloc ?_ (by first | omega | (simp <;> omega)) _ | refine Below.drew ?_ | refine below_drewN' ?_ _))) ho2))
    refine bodyPost_ret (v := .tuple #[.int .u64 (Y : Nat), .int .i64 0]) (by (simp [results, Tryz.results40, go_sem]; done)) rfl ⟨rfl, hO2, rd2⟩
  · have hv : Fl.readS s.data.toList = (0, e) := by rw [Fl.readS, hf, if_neg (by rcases he with rfl | rfl <;> decide)]
    rw [hv]
    rw [hf] at hP
    simp only [Dc.Res.val] at hP
    have hF : ∀ w', Below w.heap.size w w' → Onl b w w' ∧ Rdr w' b := fun w' h => ⟨hR.onl h, hR.on h⟩
    have HF := Lib.hid hF; have HP := Lib.hid hP
    clear hF hP hR hv hf
    have he2 : (e == 0) = false := by rcases he with rfl | rfl <;> decide
    all_goals (
      go_enter Tryz.func40, Tryz.ntmps40
      go_wp2_with (first
        | (go_at_call 71; (with_reducible refine (HP.out _).mono ?_); rintro e w1 ⟨rfl, hb1⟩; have hB1 : Below w.heap.size w w1 := (by first | exact hb1 | exact ((Below.refl _ _).alloc (Nat.le_refl _) _).trans (hb1.mono (by simp))); have hz1 := hB1.size))
      refine bodyPost_ret (v := .tuple #[.int .u64 0, .int .i64 e]) (by (simp [results, Tryz.results40, go_sem]; done)) rfl ⟨rfl, HF.out _ (by (repeat (first | exact Below.refl _ _ | assumption | refine Below.setCell ?_ (by first | omega | (simp <;> omega)) _ | refine Below.alloc ?_ (by first | omega | (simp <;> omega)) _ | refine Below.drew ?_ | refine below_drewN' ?_ _)))⟩)
end Go.Proofs.YtiglekomfgfilaaGreatDoor

/- The Reader in the program: a new one. -/
namespace Go.Proofs.YtiglekomfgfilaaGreatDoor
set_option maxRecDepth 1000000
set_option linter.all false
open Go.RowKit
def slot0 : List Value := [.int .u32 0, .int .i32 0, .int .u32 0, .int .u64 0, .int .u64 0, .int .i64 0, .bool false]
def zeros : List Value := (List.replicate 801 slot0).flatten
theorem re_zero : Tryz.zeroCells98 = zeros.toArray := by kernel_rfl
theorem zeros_get : ∀ (m k j : Nat) (v : Value), k < m → slot0[j]? = some v → ((List.replicate m slot0).flatten)[k * 7 + j]? = some v := by
  intro m
  induction m with
  | zero => intro k j v hk; omega
  | succ m ih =>
    intro k j v hk hj
    have hjl : j < 7 := (List.getElem?_eq_some_iff.1 hj).1
    rw [List.replicate_succ, List.flatten_cons]
    cases k with
    | zero => rw [List.getElem?_append_left (by show _ < 7; omega)]; simpa using hj
    | succ k =>
      rw [List.getElem?_append_right (by show 7 ≤ _; omega), show (k + 1) * 7 + j - slot0.length = k * 7 + j by show _ - 7 = _; omega]
      exact ih k j v (by omega) hj
theorem Rdr.new {w w' : World} {Z : Array Value} {t : TypeId} (hZ : Z = zeros.toArray) (hw : w' = w.alloc (.cells Z t)) : Rdr w' w.heap.size := by
  have hcf : CF w' w.heap.size zeros := by rw [hw, hZ]; exact CF.new w zeros t
  refine ⟨hcf.1.1, hcf.2, fun n h1 h2 => Or.inl ?_⟩
  obtain ⟨k, hk⟩ : ∃ k : Nat, slotAt n = k * 7 ∧ k < 801 := ⟨(n + 400).toNat, by unfold slotAt; omega, by omega⟩
  have g := fun (j : Nat) (v : Value) (hj : slot0[j]? = some v) => hcf.1.get (k * 7 + j) (zeros_get 801 k j v hk.2 hj)
  rw [hk.1]
  exact ⟨g 0 _ rfl, g 1 _ rfl, g 3 _ rfl, g 4 _ rfl, g 5 _ rfl, g 6 _ rfl⟩
theorem re_new_any (w : World) : Calls Tryz.prog 27 #[] w (fun e w' => e = .returned (.pointer (some ⟨w.heap.size, 0, none⟩)) ∧ Rdr w' w.heap.size ∧ Below w.heap.size w w') := by
  go_enter Tryz.func27, Tryz.ntmps27
  go_wp2_with fail
  go_ret
  exact ⟨rfl, Rdr.new re_zero rfl, (Below.refl _ _).alloc (Nat.le_refl _) _⟩
end Go.Proofs.YtiglekomfgfilaaGreatDoor

/- Plain Lean: what is rounded to places is one of two neighbours, stays as it is when it is rounded again, and lies on the side that the way says. -/
namespace Go.Proofs.YtiglekomfgfilaaGreatDoor.Dc
set_option linter.all false
theorem core_le (l : Bs) : (core l).length ≤ l.length := Nat.le_trans (core_len l) (lead_len l)
theorem core_more (K : Bs) (hd : allDig K = true) : (core (more K)).length ≤ max 1 K.length := by
  by_cases h9 : ∀ c ∈ K, c = 57
  · rw [more_nines K h9]
    have := (core_split (49 :: List.replicate K.length 48) [] [49] (List.replicate K.length 48) rfl (by simp) (fun c hc => List.eq_of_mem_replicate hc) (by simp) (by intro c hc; simp at hc; subst hc; decide) (by intro c hc; simp at hc; subst hc; decide)).2
    rw [this]; simp; omega
  · have : (more K).length ≤ K.length := by
      have hne : no9 K ≠ [] := by
        intro e
        apply h9
        intro c hc
        rw [no9, Lib.trimRightB] at e
        have e2 : K.reverse.dropWhile (· == 57) = [] := by simpa using e
        have hs := List.takeWhile_append_dropWhile (p := (· == 57)) (l := K.reverse)
        rw [e2, List.append_nil] at hs
        have := List.all_eq_true.1 (List.all_takeWhile (l := K.reverse) (p := (· == 57))) c (by rw [hs]; simpa using hc)
        simpa using this
      cases hc : (no9 K).getLast? with
      | none => exact absurd (by simpa using hc) hne
      | some c =>
        have hp : 0 < (no9 K).length := List.length_pos_iff.2 hne
        have hl := no9_len K
        rw [more_cons hc, List.length_append, List.length_append, List.length_dropLast, Lib.repeatL_length]
        simp; omega
    have := core_le (more K)
    omega
end Go.Proofs.YtiglekomfgfilaaGreatDoor.Dc
