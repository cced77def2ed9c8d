/- The Writer in the program: Dec of a number that is not nought; Dec whole; Fifteen. -/
import Derived.Test.YtiglekomfgfilaaGreatDoorY27
import Derived.Test.YtiglekomfgfilaaGreatDoorY5
import Derived.Test.YtiglekomfgfilaaGreatDoorY19
import Derived.Test.YtiglekomfgfilaaGreatDoorY7
import Derived.Deep.DeepCutAuto
import Derived.Lib.AppendIntMem
import Derived.Test.YtiglekomfgfilaaGreatDoorY26
namespace Go.Proofs.YtiglekomfgfilaaGreatDoor
set_option maxRecDepth 100000
set_option maxHeartbeats 8000000
set_option linter.all false
open Go.RowKit
theorem sh_dec_full (v b x : Nat) (W : World) (ht : Tab W) (hx : x < 18446744073709551616) (hW : Wtr W v b) (hk : Fl.kind x < 3) (hne : (Fl.dec x).l ≠ []) :
    Calls Tryz.prog 10 #[.pointer (some ⟨v, 0, none⟩), .int .u64 x] W (RetR b (.tuple #[drv (Fl.wdec x), .int .i64 (Fl.wdec x).e]) W) := by
  obtain ⟨d1, d2, d3, d4, d5, d6, d7⟩ := Fl.decx_fine x hk
  obtain ⟨k1, -⟩ := Fl.wdec_fine x hk
  have hv : Fl.wdec x = Fl.short (Fl.neg x) (Fl.dec x).l (Fl.dec x).x (x % 9223372036854775808) := by rw [Fl.wdec, if_neg (by omega), if_neg hne]
  rw [k1]
  have h17 := Fl.seventeen (s := Fl.neg x) (Nat.le_of_lt (Fl.V_le_inf hk)) d3 hne (by omega) d6
  have hd := fun w1 (hb : Below W.heap.size W w1) => ex_dec_any x hx w1 (ht.below hb)
  rw [drv_val] at hd
  rcases hq : Fl.dec x with ⟨n, l, X, e⟩
  rw [hq] at hd d1 d2 d3 d4 d5 h17 hne hv
  simp only at d1 d2 d3 d4 d5 h17 hne hv
  subst d1
  unfold drv dag at hd
  simp only at hd
  obtain ⟨S, hS⟩ : ∃ S : ByteArray, S = ⟨l.toArray⟩ := ⟨_, rfl⟩
  have hSl : S.data.toList = l := by rw [hS]
  rw [← hS] at hd
  rw [← hSl] at d3 h17 hne hv
  have hemp := isEmpty_of_pos (s := S) (by
    rcases Nat.eq_zero_or_pos S.size with h | h
    · exact absurd (List.eq_nil_of_length_eq_zero (by rw [bs_length]; exact h)) hne
    · exact h)
  have hfirst := fun gd gv gx w1 (h : Caught w1 gd gv gx v b x (Fl.neg x) S X) => sh_first_any gd gv gx v b x S X w1 hx d3 hne ⟨d4, d5⟩ h h17
  rw [← hv] at hfirst
  subst d2
  obtain ⟨n, hn⟩ : ∃ n, n = Fl.neg x := ⟨_, rfl⟩
  rw [← hn] at hd hfirst
  obtain ⟨rn, hrn⟩ : ∃ q, q = (Fl.wdec x).n := ⟨_, rfl⟩
  obtain ⟨rS, hrS⟩ : ∃ q : ByteArray, q = ⟨(Fl.wdec x).l.toArray⟩ := ⟨_, rfl⟩
  obtain ⟨rX, hrX⟩ : ∃ q, q = (Fl.wdec x).x := ⟨_, rfl⟩
  unfold drv dag at hfirst ⊢
  rw [← hrn, ← hrS, ← hrX] at hfirst ⊢
  have hbl := hW.rd.lt
  have hbox : Below W.heap.size W (((W.alloc (Obj.cells #[.pointer (some ⟨v, 0, none⟩)] 24)).alloc (Obj.cells #[.int .u64 x] 22)).alloc (Obj.cells #[.bool false, .string ⟨#[]⟩, .int .i64 0] 27)) := (((Below.refl _ _).alloc (Nat.le_refl _) _).alloc (by simp) _).alloc (by simp; omega) _
  have f4 : CF (((W.alloc (Obj.cells #[.pointer (some ⟨v, 0, none⟩)] 24)).alloc (Obj.cells #[.int .u64 x] 22)).alloc (Obj.cells #[.bool false, .string ⟨#[]⟩, .int .i64 0] 27)) (W.heap.size + 1 + 1) (dcs false ⟨#[]⟩ 0) := by
    have h := CF.new ((W.alloc (Obj.cells #[.pointer (some ⟨v, 0, none⟩)] 24)).alloc (Obj.cells #[.int .u64 x] 22)) (dcs false ⟨#[]⟩ 0) 27
    rw [World.size_alloc, World.size_alloc] at h; exact h
  have x3 : Cs (((W.alloc (Obj.cells #[.pointer (some ⟨v, 0, none⟩)] 24)).alloc (Obj.cells #[.int .u64 x] 22)).alloc (Obj.cells #[.bool false, .string ⟨#[]⟩, .int .i64 0] 27)) (W.heap.size + 1) [.int .u64 x] := by
    have h := Cs.new (W.alloc (Obj.cells #[.pointer (some ⟨v, 0, none⟩)] 24)) [.int .u64 x] 22
    rw [World.size_alloc] at h; exact h.alloc _
  have x2 : Cs (((W.alloc (Obj.cells #[.pointer (some ⟨v, 0, none⟩)] 24)).alloc (Obj.cells #[.int .u64 x] 22)).alloc (Obj.cells #[.bool false, .string ⟨#[]⟩, .int .i64 0] 27)) W.heap.size [.pointer (some ⟨v, 0, none⟩)] :=
    ((Cs.new W [.pointer (some ⟨v, 0, none⟩)] 24).alloc _).alloc _
  have HD := Lib.hid hd; have HFI := Lib.hid hfirst; have HW := Lib.hid hW
  have x30 := x3.get 0 rfl; have x3l := x3.1
  clear hd hfirst hW hn hrn hrS hrX hv hS hSl d3 hne h17 k1 hq d4 d5 d6 d7 ht hk
  go_enter Tryz.func10, Tryz.ntmps10
  go_upto_region 4 with (first
    | (go_at_call 28; (with_reducible refine (HD.out _ hbox).mono ?_); rintro e w1 ⟨rfl, hb1⟩; have hB1 := hbox.trans (hb1.mono hbox.size); have f1 := f4.on hb1; have c3 := x3.on hb1; have c2 := x2.on hb1; have hz1 := hB1.size; have hzz := hb1.size))
  have hz3 : W.heap.size + 3 ≤ w1.heap.size := by simpa using hzz
  have hBY : Below W.heap.size W (w1.alloc (.cells #[.bool n, .string S, .int .i64 X] 27)) := hB1.alloc hz1 _
  have fY := f1.alloc (.cells #[.bool n, .string S, .int .i64 X] 27)
  have cY : Caught (w1.alloc (.cells #[.bool n, .string S, .int .i64 X] 27)) w1.heap.size W.heap.size (W.heap.size + 1) v b x n S X :=
    ⟨Cs.new w1 (dcs n S X) 27, c2.alloc _, c3.alloc _, HW.out.on hBY, by omega, by omega, by omega⟩
  obtain ⟨V, hV⟩ : ∃ V, V = w1.alloc (.cells #[.bool n, .string S, .int .i64 X] 27) := ⟨_, rfl⟩
  rw [← hV] at hBY fY cY ⊢
  obtain ⟨g6, hg6⟩ : ∃ g, g = w1.heap.size := ⟨_, rfl⟩
  obtain ⟨g4, hg4⟩ : ∃ g, g = W.heap.size + 1 + 1 := ⟨_, rfl⟩
  obtain ⟨g3, hg3⟩ : ∃ g, g = W.heap.size + 1 := ⟨_, rfl⟩
  obtain ⟨g2, hg2⟩ : ∃ g, g = W.heap.size := ⟨_, rfl⟩
  rw [← hg6, ← hg3] at cY
  have cY : Caught V g6 g2 g3 v b x n S X := by rw [hg2]; exact cY
  rw [← hg4] at fY
  have hgg : g4 ≠ b ∧ W.heap.size ≤ g4 := by omega
  rw [← hg6, ← hg4, ← hg3, ← hg2]
  have HOV := Lib.hid (Onl.of hbl hBY)
  have HCY := Lib.hid cY; have HFY := Lib.hid fY
  clear hV hg6 hg4 hg3 hg2 hB1 hb1 f1 c3 c2 hz1 hzz hz3 hbox f4 x3 x2 x30 x3l cY fY hBY HD HW
  go_wp2_with (first
    | (go_at_call 29; (with_reducible refine (HFI.out _ _ _ _ HCY.out).mono ?_); rintro e w2 ⟨rfl, ho2, rd2⟩; have f2 := HFY.out.onl ho2 hgg.1; have r0 := f2.1.get 0 rfl; have r1 := f2.1.get 1 rfl; have r2 := f2.1.get 2 rfl; have rl := f2.1.1; have z0 := f2.2 0; have z1 := f2.2 1; have z2 := f2.2 2; have HF2 := Lib.hid f2; have HO2 := Lib.hid (HOV.out.trans ho2); have HRD := Lib.hid rd2; clear f2 ho2 rd2))
  obtain ⟨Z, hZ⟩ : ∃ Z, Z = w2.setCells g4 0 (dcs rn rS rX) := ⟨_, rfl⟩
  change bodyPost _ _ _ _ _ (w2.setCells g4 0 (dcs rn rS rX))
  have D : Cs Z g4 (dcs rn rS rX) := by rw [hZ]; exact Cs.stored _ HF2.out.1 rfl
  have bZ : Below W.heap.size w2 Z := by rw [hZ]; exact below_setCells hgg.2 _ _ (Below.refl _ _)
  rw [← hZ]
  have u0 := D.get 0 rfl; have u1 := D.get 1 rfl; have u2 := D.get 2 rfl; have ul := D.1
  refine bodyPost_ret (v := .tuple #[.agg #[.bool rn, .string rS, .int .i64 rX], .int .i64 0]) (by (simp [results, Tryz.results10, go_sem, u0, u1, u2]; done)) rfl ⟨rfl, HO2.out.own bZ hbl, HRD.out.below bZ hbl⟩
theorem sh_dec_any (v b x : Nat) (W : World) (ht : Tab W) (hx : x < 18446744073709551616) (hW : Wtr W v b) :
    Calls Tryz.prog 10 #[.pointer (some ⟨v, 0, none⟩), .int .u64 x] W (RetR b (.tuple #[drv (Fl.wdec x), .int .i64 (Fl.wdec x).e]) W) := by
  by_cases hk : 3 ≤ Fl.kind x
  · exact sh_dec_end v b x W ht hx hW (Or.inl hk)
  · by_cases hne : (Fl.dec x).l = []
    · exact sh_dec_end v b x W ht hx hW (Or.inr ⟨by omega, hne⟩)
    · exact sh_dec_full v b x W ht hx hW (by omega) hne
end Go.Proofs.YtiglekomfgfilaaGreatDoor

namespace Go.Proofs.YtiglekomfgfilaaGreatDoor
set_option maxRecDepth 100000
set_option maxHeartbeats 2000000
set_option linter.all false
open Go.RowKit
attribute [local go_sem] Dc.Res.val
theorem box3 {w w1 : World} {a b c : Value} {t : TypeId} {B : Nat} (hb : Below B (w.alloc (.cells #[a, b, c] t)) w1) (hB : w.heap.size < B) :
    w1.cell? ⟨w.heap.size, 0, none⟩ = some a ∧ w1.cell? ⟨w.heap.size, 1, none⟩ = some b ∧ w1.cell? ⟨w.heap.size, 2, none⟩ = some c := by
  refine ⟨?_, ?_, ?_⟩ <;> (rw [hb.cell (p := ⟨w.heap.size, _, none⟩) hB]; simp [go_sem])
theorem d_print_body (n : Bool) (s V : ByteArray) (x : Int) (w : World) (hs : s.size ≤ 1100) (hx : -100000 ≤ x ∧ x ≤ 100000) (hV : V = if n then ⟨#[45]⟩ else ⟨#[]⟩) (ht : Tab w) (hr : Dc.right s.data.toList x = true) :
    Calls Tryz.prog 42 #[.agg #[.bool n, .string s, .int .i64 x]] w (RetB (.string ⟨(Dc.body V.data.toList s.data.toList ((s.size : Int) + x)).toArray⟩) w) := by
  have hright := fun w => d_right_any n s x w (by omega)
  rw [hr] at hright
  have hpt := fun w => d_point_any n s x w (by omega)
  have hpe : Dc.point s.data.toList x = (s.size : Int) + x := by rw [Dc.point_eq, if_pos hr]
  rw [hpe] at hpt
  obtain ⟨p, hp⟩ : ∃ p, p = (s.size : Int) + x := ⟨_, rfl⟩
  obtain ⟨r, hrr⟩ : ∃ r : ByteArray, r = ⟨(Dc.body V.data.toList s.data.toList p).toArray⟩ := ⟨_, rfl⟩
  have hpb : -100000 ≤ p ∧ p ≤ 110000 := by omega
  rw [← hp, ← hrr]
  rw [← hp] at hpt
  obtain ⟨hp1, hp2⟩ := hpb
  have hVs : V.size ≤ 1 := by rw [hV]; cases n <;> decide
  have hb0 : Below w.heap.size w (w.alloc (.cells #[.bool n, .string s, .int .i64 x] 27)) := (Below.refl _ _).alloc (Nat.le_refl _) _
  have HB0 := Lib.hid hb0; have HRT := Lib.hid hright; have HPT := Lib.hid hpt; have HRR := Lib.hid hrr; have HVV := Lib.hid hV; have HT := Lib.hid ht
  clear hb0 hright hpt hrr hV hr hp hpe hx ht
  go_enter Tryz.func42, Tryz.ntmps42
  go_upto_if 10 with (go_at_call 20; (with_reducible refine (HRT.out _).mono ?_); rintro e w1 ⟨rfl, hb_w1⟩; have hB_w1 : Below (w.alloc (.cells #[.bool n, .string s, .int .i64 x] 27)).heap.size (w.alloc (.cells #[.bool n, .string s, .int .i64 x] 27)) w1 := Below.trans (by (repeat (first | exact Below.refl _ _ | assumption | refine Below.setCell ?_ (by first | omega | (simp <;> omega)) _ | refine Below.alloc ?_ (by first | omega | (simp <;> omega)) _ | refine Below.drew ?_ | refine below_drewN' ?_ _))) (hb_w1.mono (by first | omega | (simp <;> omega))); obtain ⟨hc_w1, hf_w1⟩ := bcell hb_w1; have hz_w1 := hb_w1.size; (try simp only [zD, zN, zA, zS] at hz_w1); have hk := own6 hb_w1 (w.heap.size) (by (try simp only [zD, zN, zA, zS]); omega); obtain ⟨hl0_w1, hm0_w1, hn0_w1, hq0_w1, hr0_w1, hg0_w1⟩ := hk)
  go_cut [3] (fun a wr => a = .string V ∧ wr = w1)
  case first =>
    have hvv := HVV.out
    cases n
    · have e : V = ⟨#[]⟩ := hvv
      subst e
      go_wp2; go_meet; exact ⟨rfl, rfl⟩
    · have e : V = ⟨#[45]⟩ := hvv
      subst e
      go_wp2; go_meet; exact ⟨rfl, rfl⟩
  case rest =>
    obtain ⟨rfl, hwc⟩ := hcut
    subst hwc
    obtain ⟨k0, k1, k2⟩ := box3 hB_w1 (by simp)
    go_wp2_with fail
    go_region_held3 (fun w' => w'.cell? ⟨w.heap.size, 0, none⟩ = some (.bool n) ∧ w'.cell? ⟨w.heap.size, 1, none⟩ = some (.string s) ∧ w'.cell? ⟨w.heap.size, 2, none⟩ = some (.int .i64 x)) (first | go_keep | exact box3 hB_w2 (by simp)) (first | (go_at_call 73; (with_reducible refine (HPT.out _).mono ?_); rintro e w2 ⟨rfl, hb_w2⟩; have hB_w2 : Below (w.alloc (.cells #[.bool n, .string s, .int .i64 x] 27)).heap.size (w.alloc (.cells #[.bool n, .string s, .int .i64 x] 27)) w2 := Below.trans (by (repeat (first | exact Below.refl _ _ | assumption | refine Below.setCell ?_ (by first | omega | (simp <;> omega)) _ | refine Below.alloc ?_ (by first | omega | (simp <;> omega)) _ | refine Below.drew ?_ | refine below_drewN' ?_ _))) (hb_w2.mono (by first | omega | (simp <;> omega))); obtain ⟨hc_w2, hf_w2⟩ := bcell hb_w2; have hz_w2 := hb_w2.size; (try simp only [zD, zN, zA, zS] at hz_w2); have hk := own6 hb_w2 (w.heap.size) (by (try simp only [zD, zN, zA, zS]); omega); obtain ⟨hl0_w2, hm0_w2, hn0_w2, hq0_w2, hr0_w2, hg0_w2⟩ := hk))
    have k3 := box3 hB_w2 (by simp)
    obtain ⟨m0, m1, m2⟩ := k3
    clear k0 k1 k2
    have hBw := HB0.out.trans (hB_w2.mono (by simp))
    by_cases c0 : s.size = 0
    · have e0 : ((s.size : Int) == 0) = true := beq_iff_eq.2 (by omega)
      have hf : V ++ ⟨#[48]⟩ = r := by
        rw [HRR.out]; refine Dc.ba_eq _ _ ?_
        rw [Dc.ba_app, Dc.body, if_pos (List.length_eq_zero_iff.1 (by simpa using c0))]
      have HF := Lib.hid hf; have HC0 := Lib.hid c0; clear c0 hf
      replace c0 : s.size ≤ 0 := by have := HC0.out; omega
      go_wp2
      go_ret
      exact RetB.of (congrArg Value.string HF.out) hBw
    · have e0 : ((s.size : Int) == 0) = false := beq_eq_false_iff_ne.2 (by omega)
      have hne : s.data.toList ≠ [] := fun e => c0 (by have := congrArg List.length e; rwa [bs_length] at this)
      have hl : s.data.toList.length = s.size := bs_length s
      have hbody := HRR.out
      rw [Dc.body, if_neg hne, hl] at hbody
      have HBD := Lib.hid hbody; have HL := Lib.hid hl; clear hbody hne hl
      have hc0 : 0 < s.size := by omega
      clear c0
      by_cases c1 : 1 ≤ p ∧ p ≤ 21
      · obtain ⟨c1, c2⟩ := c1
        by_cases c3 : (s.size : Int) ≤ p
        · obtain ⟨Z, hZ⟩ : ∃ Z : ByteArray, Z = ⟨(Lib.repeatL [48] (p - s.size).toNat).toArray⟩ := ⟨_, rfl⟩
          have hzs : Z.size ≤ 21 := by rw [hZ, size_mk, Lib.repeatL_length]; simp; omega
          have hrep : ∀ w, Calls Tryz.prog 74 #[.string ⟨#[48]⟩, .int .i64 (p - s.size)] w (RetB (.string Z) w) := fun w => by rw [hZ]; exact rep0i _ w (by omega)
          have hf : V ++ s ++ Z = r := by
            rw [HBD.out, if_pos ⟨c1, c2, c3⟩]; refine Dc.ba_eq _ _ ?_
            rw [Dc.ba_app, Dc.ba_app, hZ]
          have HF := Lib.hid hf; have HP := Lib.hid hrep; clear hf hrep hZ
          have s1 : ¬ 9223372036854775807 < V.size + s.size := by omega
          have s2 : ¬ 9223372036854775807 < V.size + s.size + Z.size := by omega
          have hwr : IntKind.i64.wrap (p - s.size) = p - s.size := IntWalk.i64_in _ (by omega)
          go_wp2_with fail
          go_region_held3 (fun w' => w'.cell? ⟨w.heap.size, 0, none⟩ = some (.bool n) ∧ w'.cell? ⟨w.heap.size, 1, none⟩ = some (.string s) ∧ w'.cell? ⟨w.heap.size, 2, none⟩ = some (.int .i64 x)) (first | go_keep | exact box3 hB_w3 (by simp)) (first | (go_at_call 74; (with_reducible refine (HP.out _).mono ?_); rintro e w3 ⟨rfl, hb_w3⟩; have hB_w3 : Below (w.alloc (.cells #[.bool n, .string s, .int .i64 x] 27)).heap.size (w.alloc (.cells #[.bool n, .string s, .int .i64 x] 27)) w3 := Below.trans (by (repeat (first | exact Below.refl _ _ | assumption | refine Below.setCell ?_ (by first | omega | (simp <;> omega)) _ | refine Below.alloc ?_ (by first | omega | (simp <;> omega)) _ | refine Below.drew ?_ | refine below_drewN' ?_ _))) (hb_w3.mono (by first | omega | (simp <;> omega))); obtain ⟨hc_w3, hf_w3⟩ := bcell hb_w3; have hz_w3 := hb_w3.size; (try simp only [zD, zN, zA, zS] at hz_w3); have hk := own6 hb_w3 (w.heap.size) (by (try simp only [zD, zN, zA, zS]); omega); obtain ⟨hl0_w3, hm0_w3, hn0_w3, hq0_w3, hr0_w3, hg0_w3⟩ := hk))
          go_wp2
          go_ret
          exact RetB.of (congrArg Value.string HF.out) (HB0.out.trans (hB_w3.mono (by simp)))
        · have hK : (s.extract 0 p.toNat).data.toList = s.data.toList.take p.toNat := by rw [Lib.extract_data, List.drop_zero, Nat.sub_zero]
          have hR : (s.extract p.toNat s.size).data.toList = s.data.toList.drop p.toNat := Lib.extract_to_end s p.toNat
          obtain ⟨K, hKe⟩ : ∃ K, K = s.extract 0 p.toNat := ⟨_, rfl⟩
          obtain ⟨R, hRe⟩ : ∃ R, R = s.extract p.toNat s.size := ⟨_, rfl⟩
          have hKs : K.size ≤ 1100 := by rw [hKe, ByteArray.size_extract]; omega
          have hRs : R.size ≤ 1100 := by rw [hRe, ByteArray.size_extract]; omega
          have hsl : ∀ w : World, (Instr.slice 9 (.string s) none (some (.int .i64 p)) none).run Tryz.prog w = .ok (.string K) w := fun w => by
            rw [hKe, run_slice_string_to_if w _ s .i64 p Tryz.underlying9, if_pos (by omega)]
          have hsr : ∀ w : World, (Instr.slice 9 (.string s) (some (.int .i64 p)) none none).run Tryz.prog w = .ok (.string R) w := fun w => by
            rw [hRe, run_slice_string_from_if w _ s .i64 p Tryz.underlying9, if_pos (by omega)]
          have hf : V ++ K ++ ⟨#[46]⟩ ++ R = r := by
            rw [HBD.out, if_neg (fun h => c3 h.2.2), if_pos ⟨c1, c2⟩]; refine Dc.ba_eq _ _ ?_
            rw [Dc.ba_app, Dc.ba_app, Dc.ba_app, hKe, hRe, hK, hR]
          have HF := Lib.hid hf; clear hf hKe hRe hK hR
          have s1 : ¬ 9223372036854775807 < V.size + K.size := by omega
          have s2 : ¬ 9223372036854775807 < V.size + K.size + 1 := by omega
          have s3 : ¬ 9223372036854775807 < V.size + K.size + 1 + R.size := by omega
          go_wp2_with fail
          go_quiet (fail)
          go_wp2
          go_ret
          exact RetB.of (congrArg Value.string HF.out) (by (repeat (first | exact Below.refl _ _ | assumption | refine Below.setCell ?_ (by first | omega | (simp <;> omega)) _ | refine Below.alloc ?_ (by first | omega | (simp <;> omega)) _ | refine Below.drew ?_ | refine below_drewN' ?_ _)))
      · by_cases c2 : -5 ≤ p ∧ p ≤ 0
        · obtain ⟨c3, c4⟩ := c2
          obtain ⟨Z, hZ⟩ : ∃ Z : ByteArray, Z = ⟨(Lib.repeatL [48] (-p).toNat).toArray⟩ := ⟨_, rfl⟩
          have hzs : Z.size ≤ 21 := by rw [hZ, size_mk, Lib.repeatL_length]; simp; omega
          have hrep : ∀ w, Calls Tryz.prog 74 #[.string ⟨#[48]⟩, .int .i64 (-p)] w (RetB (.string Z) w) := fun w => by rw [hZ]; exact rep0i _ w (by omega)
          have hf : V ++ ⟨#[48, 46]⟩ ++ Z ++ s = r := by
            rw [HBD.out, if_neg (fun h => c1 ⟨h.1, h.2.1⟩), if_neg c1, if_pos ⟨c3, c4⟩]; refine Dc.ba_eq _ _ ?_
            rw [Dc.ba_app, Dc.ba_app, Dc.ba_app, hZ]
          have HF := Lib.hid hf; have HP := Lib.hid hrep; clear hf hrep hZ c1
          have s1 : ¬ 9223372036854775807 < V.size + 2 := by omega
          have s2 : ¬ 9223372036854775807 < V.size + 2 + Z.size := by omega
          have s3 : ¬ 9223372036854775807 < V.size + 2 + Z.size + s.size := by omega
          have hwr : IntKind.i64.wrap (-p) = -p := IntWalk.i64_in _ (by omega)
          go_wp2_with fail
          go_region_held3 (fun w' => w'.cell? ⟨w.heap.size, 0, none⟩ = some (.bool n) ∧ w'.cell? ⟨w.heap.size, 1, none⟩ = some (.string s) ∧ w'.cell? ⟨w.heap.size, 2, none⟩ = some (.int .i64 x)) (first | go_keep | exact box3 hB_w3 (by simp)) (first | (go_at_call 74; (with_reducible refine (HP.out _).mono ?_); rintro e w3 ⟨rfl, hb_w3⟩; have hB_w3 : Below (w.alloc (.cells #[.bool n, .string s, .int .i64 x] 27)).heap.size (w.alloc (.cells #[.bool n, .string s, .int .i64 x] 27)) w3 := Below.trans (by (repeat (first | exact Below.refl _ _ | assumption | refine Below.setCell ?_ (by first | omega | (simp <;> omega)) _ | refine Below.alloc ?_ (by first | omega | (simp <;> omega)) _ | refine Below.drew ?_ | refine below_drewN' ?_ _))) (hb_w3.mono (by first | omega | (simp <;> omega))); obtain ⟨hc_w3, hf_w3⟩ := bcell hb_w3; have hz_w3 := hb_w3.size; (try simp only [zD, zN, zA, zS] at hz_w3); have hk := own6 hb_w3 (w.heap.size) (by (try simp only [zD, zN, zA, zS]); omega); obtain ⟨hl0_w3, hm0_w3, hn0_w3, hq0_w3, hr0_w3, hg0_w3⟩ := hk))
          go_wp2
          go_ret
          exact RetB.of (congrArg Value.string HF.out) (HB0.out.trans (hB_w3.mono (by simp)))
        · have hbody := HBD.out
          rw [if_neg (fun h => c1 ⟨h.1, h.2.1⟩), if_neg c1, if_neg c2] at hbody
          have HBX := Lib.hid hbody
          have hgo : p < -5 ∨ 21 < p := by omega
          have HGO := Lib.hid hgo; clear hbody c1 c2 hgo
          obtain ⟨K, hKe⟩ : ∃ K, K = s.extract 0 1 := ⟨_, rfl⟩
          obtain ⟨R, hRe⟩ : ∃ R, R = s.extract 1 s.size := ⟨_, rfl⟩
          have hKs : K.size ≤ 1100 := by rw [hKe, ByteArray.size_extract]; omega
          have hRs : R.size ≤ 1100 := by rw [hRe, ByteArray.size_extract]; omega
          have hsl : ∀ w : World, (Instr.slice 9 (.string s) none (some (.int .i64 1)) none).run Tryz.prog w = .ok (.string K) w := fun w => by
            rw [hKe, run_slice_string_to_if w _ s .i64 1 Tryz.underlying9, if_pos (by omega)]; rfl
          have hsr : ∀ w : World, (Instr.slice 9 (.string s) (some (.int .i64 1)) none none).run Tryz.prog w = .ok (.string R) w := fun w => by
            rw [hRe, run_slice_string_from_if w _ s .i64 1 Tryz.underlying9, if_pos (by omega)]; rfl
          have hK : K.data.toList = s.data.toList.take 1 := by rw [hKe, Lib.extract_data, List.drop_zero]
          have hR : R.data.toList = s.data.toList.drop 1 := by rw [hRe]; exact Lib.extract_to_end s 1
          obtain ⟨U, hU⟩ : ∃ U : ByteArray, U = if 1 < s.size then V ++ K ++ (⟨#[46]⟩ ++ R) else V ++ K := ⟨_, rfl⟩
          have hUs : U.size ≤ 3000 := by
            have h46 : (⟨#[46]⟩ : ByteArray).size = 1 := rfl
            rw [hU]; split <;> simp only [ByteArray.size_append, h46] <;> omega
          have hUl : U.data.toList = if 1 < s.size then V.data.toList ++ s.data.toList.take 1 ++ ([46] ++ s.data.toList.drop 1) else V.data.toList ++ s.data.toList.take 1 := by
            rw [hU]
            split
            · rw [Dc.ba_app, Dc.ba_app, Dc.ba_app, hK, hR]
            · rw [Dc.ba_app, hK]
          have HUU := Lib.hid hU; have HUL := Lib.hid hUl
          clear hU hUl hKe hRe hK hR
          have s1 : ¬ 9223372036854775807 < V.size + K.size := by omega
          have s2 : ¬ 9223372036854775807 < 1 + R.size := by omega
          have s3 : ¬ 9223372036854775807 < V.size + K.size + (1 + R.size) := by omega
          have s4 : ¬ 9223372036854775807 < U.size + 2 := by omega
          have n1 : ¬ (1 ≤ p ∧ p ≤ 21) := by have := HGO.out; omega
          have n2 : ¬ (-5 ≤ p ∧ p ≤ 0) := by have := HGO.out; omega
          rcases HGO.out with hg | hg
          · obtain ⟨I, hI⟩ : ∃ I : ByteArray, I = ⟨(Lib.itoa (1 - p)).toArray⟩ := ⟨_, rfl⟩
            have hIs : I.size ≤ 30 := by rw [hI, size_mk]; exact Dc.itoa_len _ (by omega)
            have hit : ∀ w1, Below w.heap.size w w1 → Calls Tryz.prog 75 #[.int .i64 (1 - p)] w1 (RetB (.string I) w1) := fun w1 hb => by rw [hI]; exact itoa_any _ w1 (by omega) (by omega) (HT.out.on hb)
            have hf : U ++ ⟨#[101, 45]⟩ ++ I = r := by
              rw [HBX.out, if_pos (by omega)]; refine Dc.ba_eq _ _ ?_
              rw [Dc.ba_app, Dc.ba_app, hI, HUL.out]
            have HF := Lib.hid hf; have HI := Lib.hid hit; clear hf hit hI n1 n2
            have s5 : ¬ 9223372036854775807 < U.size + 2 + I.size := by omega
            go_upto_if 83 with (fail)
            go_cut [3] (fun a wr => a = .string U ∧ wr = w2)
            case first =>
              by_cases c9 : 1 < s.size
              · have hu := HUU.out; rw [if_pos c9] at hu
                have HU2 := Lib.hid hu; clear hu
                go_wp2; go_meet
                exact ⟨by rw [HU2.out], rfl⟩
              · have hu := HUU.out; rw [if_neg c9] at hu
                have HU2 := Lib.hid hu; clear hu
                go_wp2; go_meet
                exact ⟨by rw [HU2.out], rfl⟩
            case rest =>
              obtain ⟨rfl, hwc⟩ := hcut
              subst hwc
              go_wp2_with (go_at_call 75; (with_reducible refine (HI.out _ hBw).mono ?_); rintro e w5 ⟨rfl, hb_w5⟩; have hB_w5 : Below (w).heap.size (w) w5 := Below.trans (by (repeat (first | exact Below.refl _ _ | assumption | refine Below.setCell ?_ (by first | omega | (simp <;> omega)) _ | refine Below.alloc ?_ (by first | omega | (simp <;> omega)) _ | refine Below.drew ?_ | refine below_drewN' ?_ _))) (hb_w5.mono (by first | omega | (simp <;> omega))); obtain ⟨hc_w5, hf_w5⟩ := bcell hb_w5; have hz_w5 := hb_w5.size; (try simp only [zD, zN, zA, zS] at hz_w5); have hk := own6 hb_w5 (w.heap.size) (by (try simp only [zD, zN, zA, zS]); omega); obtain ⟨hl0_w5, hm0_w5, hn0_w5, hq0_w5, hr0_w5, hg0_w5⟩ := hk)
              go_ret
              exact RetB.of (congrArg Value.string HF.out) hB_w5
          · obtain ⟨I, hI⟩ : ∃ I : ByteArray, I = ⟨(Lib.itoa (p - 1)).toArray⟩ := ⟨_, rfl⟩
            have hIs : I.size ≤ 30 := by rw [hI, size_mk]; exact Dc.itoa_len _ (by omega)
            have hit : ∀ w1, Below w.heap.size w w1 → Calls Tryz.prog 75 #[.int .i64 (p - 1)] w1 (RetB (.string I) w1) := fun w1 hb => by rw [hI]; exact itoa_any _ w1 (by omega) (by omega) (HT.out.on hb)
            have hf : U ++ ⟨#[101, 43]⟩ ++ I = r := by
              rw [HBX.out, if_neg (by omega)]; refine Dc.ba_eq _ _ ?_
              rw [Dc.ba_app, Dc.ba_app, hI, HUL.out]
            have HF := Lib.hid hf; have HI := Lib.hid hit; clear hf hit hI n1 n2
            have s5 : ¬ 9223372036854775807 < U.size + 2 + I.size := by omega
            go_upto_if 83 with (fail)
            go_cut [3] (fun a wr => a = .string U ∧ wr = w2)
            case first =>
              by_cases c9 : 1 < s.size
              · have hu := HUU.out; rw [if_pos c9] at hu
                have HU2 := Lib.hid hu; clear hu
                go_wp2; go_meet
                exact ⟨by rw [HU2.out], rfl⟩
              · have hu := HUU.out; rw [if_neg c9] at hu
                have HU2 := Lib.hid hu; clear hu
                go_wp2; go_meet
                exact ⟨by rw [HU2.out], rfl⟩
            case rest =>
              obtain ⟨rfl, hwc⟩ := hcut
              subst hwc
              go_wp2_with (go_at_call 75; (with_reducible refine (HI.out _ hBw).mono ?_); rintro e w5 ⟨rfl, hb_w5⟩; have hB_w5 : Below (w).heap.size (w) w5 := Below.trans (by (repeat (first | exact Below.refl _ _ | assumption | refine Below.setCell ?_ (by first | omega | (simp <;> omega)) _ | refine Below.alloc ?_ (by first | omega | (simp <;> omega)) _ | refine Below.drew ?_ | refine below_drewN' ?_ _))) (hb_w5.mono (by first | omega | (simp <;> omega))); obtain ⟨hc_w5, hf_w5⟩ := bcell hb_w5; have hz_w5 := hb_w5.size; (try simp only [zD, zN, zA, zS] at hz_w5); have hk := own6 hb_w5 (w.heap.size) (by (try simp only [zD, zN, zA, zS]); omega); obtain ⟨hl0_w5, hm0_w5, hn0_w5, hq0_w5, hr0_w5, hg0_w5⟩ := hk)
              go_ret
              exact RetB.of (congrArg Value.string HF.out) hB_w5
theorem d_print_any (n : Bool) (s : ByteArray) (x : Int) (w : World) (hs : s.size ≤ 1000000) (hx : -9223372036854775808 ≤ x ∧ x ≤ 9223372036854775807) (ht : Tab w) :
    Calls Tryz.prog 42 #[.agg #[.bool n, .string s, .int .i64 x]] w (RetB (.string ⟨(Dc.print n s.data.toList x).toArray⟩) w) := by
  have hright := fun w => d_right_any n s x w (by omega)
  cases hr : Dc.right s.data.toList x with
  | true =>
    have hl := Dc.right_len hr
    have hxx := Dc.right_exp hr
    rw [bs_length] at hl
    have := d_print_body n s (if n then ⟨#[45]⟩ else ⟨#[]⟩) x w hl hxx rfl ht hr
    rw [Dc.print, if_pos hr, bs_length]
    cases n
    · exact this
    · exact this
  | false =>
    rw [hr] at hright
    rw [Dc.print, if_neg (by rw [hr]; simp)]
    have HR := Lib.hid hright; clear hright hr
    go_enter Tryz.func42, Tryz.ntmps42
    go_wp2_with (go_at_call 20; (with_reducible refine (HR.out _).mono ?_); rintro e w1 ⟨rfl, hb_w1⟩; have hB_w1 : Below (w).heap.size (w) w1 := Below.trans (by (repeat (first | exact Below.refl _ _ | assumption | refine Below.setCell ?_ (by first | omega | (simp <;> omega)) _ | refine Below.alloc ?_ (by first | omega | (simp <;> omega)) _ | refine Below.drew ?_ | refine below_drewN' ?_ _))) (hb_w1.mono (by first | omega | (simp <;> omega))); obtain ⟨hc_w1, hf_w1⟩ := bcell hb_w1; have hz_w1 := hb_w1.size; (try simp only [zD, zN, zA, zS] at hz_w1); have hk := own6 hb_w1 (w.heap.size) (by (try simp only [zD, zN, zA, zS]); omega); obtain ⟨hl0_w1, hm0_w1, hn0_w1, hq0_w1, hr0_w1, hg0_w1⟩ := hk)
    go_ret
    exact RetB.of rfl hB_w1
end Go.Proofs.YtiglekomfgfilaaGreatDoor

/- The Writer in the program: Fifteen, Print. -/
namespace Go.Proofs.YtiglekomfgfilaaGreatDoor
set_option maxRecDepth 100000
set_option maxHeartbeats 4000000
set_option linter.all false
open Go.RowKit
theorem sh_fifteen_any (v : Option Addr) (x : Nat) (W : World) (ht : Tab W) (hx : x < 18446744073709551616) :
    Calls Tryz.prog 11 #[.pointer v, .int .u64 x] W (RetB (.tuple #[drv (Fl.sig x 15 1), .int .i64 (Fl.sig x 15 1).e]) W) := by
  have hd := fun w1 (hb : Below W.heap.size W w1) => ex_sig_any x 15 1 hx (by decide) w1 (ht.below hb)
  rw [drv_val] at hd
  unfold drv dag at hd ⊢
  obtain ⟨rn, hrn⟩ : ∃ q, q = (Fl.sig x 15 1).n := ⟨_, rfl⟩
  obtain ⟨rS, hrS⟩ : ∃ q : ByteArray, q = ⟨(Fl.sig x 15 1).l.toArray⟩ := ⟨_, rfl⟩
  obtain ⟨rX, hrX⟩ : ∃ q, q = (Fl.sig x 15 1).x := ⟨_, rfl⟩
  obtain ⟨re, hre⟩ : ∃ q, q = (Fl.sig x 15 1).e := ⟨_, rfl⟩
  rw [← hrn, ← hrS, ← hrX, ← hre] at hd ⊢
  have hb0 : Below W.heap.size W (W.alloc (Obj.cells #[.bool false, .string ⟨#[]⟩, .int .i64 0] 27)) := (Below.refl _ _).alloc (Nat.le_refl _) _
  have f0 := CF.new W (dcs false ⟨#[]⟩ 0) 27
  have HD := Lib.hid hd
  clear hd hrn hrS hrX hre ht
  go_enter Tryz.func11, Tryz.ntmps11
  go_wp2_with (first
    | (go_at_call 33; (with_reducible refine (HD.out _ hb0).mono ?_); rintro e w1 ⟨rfl, hb1⟩; have f1 := f0.on hb1; have hB1 := hb0.trans (hb1.mono (by simp)); have r0 := f1.1.get 0 rfl; have r1 := f1.1.get 1 rfl; have r2 := f1.1.get 2 rfl; have rl := f1.1.1; have z0 := f1.2 0; have z1 := f1.2 1; have z2 := f1.2 2))
  obtain ⟨Z, hZ⟩ : ∃ Z, Z = w1.setCells W.heap.size 0 (dcs rn rS rX) := ⟨_, rfl⟩
  change bodyPost _ _ _ _ _ (w1.setCells W.heap.size 0 (dcs rn rS rX))
  have D : Cs Z W.heap.size (dcs rn rS rX) := by rw [hZ]; exact Cs.stored _ f1.1 rfl
  have bZ : Below W.heap.size W Z := by rw [hZ]; exact below_setCells (Nat.le_refl _) _ _ hB1
  rw [← hZ]
  clear hZ r0 r1 r2
  have u0 := D.get 0 rfl; have u1 := D.get 1 rfl; have u2 := D.get 2 rfl; have ul := D.1
  refine bodyPost_ret (v := .tuple #[.agg #[.bool rn, .string rS, .int .i64 rX], .int .i64 re]) (by (simp [results, Tryz.results11, go_sem, u0, u1, u2]; done)) rfl ⟨rfl, bZ⟩
def TabB (b : Nat) (w : World) : Prop := ∃ W0, Tab W0 ∧ W0.heap.size ≤ b ∧ Below W0.heap.size W0 w
theorem TabB.tab {b : Nat} {w : World} (h : TabB b w) : Tab w := by obtain ⟨W0, h1, h2, h3⟩ := h; exact h1.below h3
theorem TabB.on {b : Nat} {w w' : World} (h : TabB b w) (hb : Below w.heap.size w w') : TabB b w' := by
  obtain ⟨W0, h1, h2, h3⟩ := h; exact ⟨W0, h1, h2, h3.trans (hb.mono h3.size)⟩
theorem TabB.onl {b : Nat} {w w' : World} (h : TabB b w) (ho : Onl b w w') : TabB b w' := by
  obtain ⟨W0, h1, h2, h3⟩ := h; exact ⟨W0, h1, h2, h3.trans (ho.up h2)⟩
theorem Fl.name_kind {x : Nat} (hx : x < 18446744073709551616) (h : Fl.wname x = []) : Fl.kind x < 3 := by
  have hk := Fl.kind_le x
  rcases Nat.lt_or_ge (Fl.kind x) 3 with h3 | h3
  · exact h3
  · exfalso
    rcases (show Fl.kind x = 3 ∨ Fl.kind x = 4 by omega) with h4 | h4
    · rcases Fl.inf_kind hx h4 with e | e <;> rw [e] at h <;> exact absurd h (by decide)
    · rw [Fl.wname, if_pos h4] at h; exact absurd h (by decide)
theorem sh_print_any (v b x : Nat) (W : World) (ht : TabB b W) (hx : x < 18446744073709551616) (hW : Wtr W v b) :
    Calls Tryz.prog 17 #[.pointer (some ⟨v, 0, none⟩), .int .u64 x] W (RetR b (.string ⟨(Fl.wprint x).toArray⟩) W) := by
  have hn := fun w1 => sh_name_any x w1 hx
  by_cases h : Fl.wname x = []
  · have hv : Fl.wprint x = Dc.print (Fl.wdec x).n (Fl.wdec x).l (Fl.wdec x).x := by rw [Fl.wprint, if_neg (by rw [h]; simp)]
    obtain ⟨k1, k2, k3, k4, -⟩ := Fl.wdec_fine x (Fl.name_kind hx h)
    have hxb := Dc.right_exp k3
    rw [h] at hn
    have hd := sh_dec_any v b x W ht.tab hx hW
    rw [k1] at hd
    unfold drv dag at hd
    have hp := fun w1 (ht1 : Tab w1) => d_print_any (Fl.wdec x).n ⟨(Fl.wdec x).l.toArray⟩ (Fl.wdec x).x w1 (by rw [← bs_length, bs_mk]; omega) (by omega) ht1
    rw [bs_mk, ← hv] at hp
    obtain ⟨rn, hrn⟩ : ∃ q, q = (Fl.wdec x).n := ⟨_, rfl⟩
    obtain ⟨rS, hrS⟩ : ∃ q : ByteArray, q = ⟨(Fl.wdec x).l.toArray⟩ := ⟨_, rfl⟩
    obtain ⟨rX, hrX⟩ : ∃ q, q = (Fl.wdec x).x := ⟨_, rfl⟩
    obtain ⟨P, hP⟩ : ∃ q : ByteArray, q = ⟨(Fl.wprint x).toArray⟩ := ⟨_, rfl⟩
    rw [← hrn, ← hrS, ← hrX] at hd hp
    rw [← hP] at hp ⊢
    have hbl := hW.rd.lt
    have HN := Lib.hid hn; have HD := Lib.hid hd; have HP := Lib.hid hp
    have HT := Lib.hid (fun (w1 : World) (ho : Onl b W w1) => ((ht.onl ho).tab : Tab w1))
    clear hn hd hp hrn hrS hrX hP hv k1 k2 k3 k4 hxb h hW ht
    go_enter Tryz.func17, Tryz.ntmps17
    go_wp2_with (first
      | (go_at_call 39; (with_reducible refine (HN.out _).mono ?_); rintro e w' ⟨rfl, rfl⟩)
      | (go_at_call 10; (with_reducible refine (HD.out).mono ?_); rintro e w1 ⟨rfl, ho1, rd1⟩; have hBA : Below w1.heap.size w1 (w1.alloc (Obj.cells #[.bool rn, .string rS, .int .i64 rX] 27)) := (Below.refl _ _).alloc (Nat.le_refl _) _; have oA := ho1.more hbl hBA; have rA := rd1.on hBA; have tA := HT.out _ oA)
      | (go_at_call 42; (with_reducible refine (HP.out _ tA).mono ?_); rintro e w2 ⟨rfl, hb2⟩; have o2 := oA.more hbl hb2; have r2 := rA.on hb2))
    go_ret
    exact ⟨rfl, o2, r2⟩
  · have hv : Fl.wprint x = Fl.wname x := by rw [Fl.wprint, if_pos h]
    rw [hv]
    obtain ⟨P, hP⟩ : ∃ q : ByteArray, q = ⟨(Fl.wname x).toArray⟩ := ⟨_, rfl⟩
    have hemp := isEmpty_of_pos (s := P) (by
      rw [hP, ← bs_length, bs_mk]; exact List.length_pos_iff.2 h)
    rw [← hP] at hn ⊢
    have HN := Lib.hid hn
    have hO := Onl.refl b W
    have hrd := hW.rd
    clear hn hP hv h
    go_enter Tryz.func17, Tryz.ntmps17
    go_wp2_with (first | (go_at_call 39; (with_reducible refine (HN.out _).mono ?_); rintro e w' ⟨rfl, rfl⟩))
    go_ret
    exact ⟨rfl, hO, hrd⟩
end Go.Proofs.YtiglekomfgfilaaGreatDoor

/- The Writer in the program: Parse. -/
namespace Go.Proofs.YtiglekomfgfilaaGreatDoor
set_option maxRecDepth 100000
set_option maxHeartbeats 8000000
set_option linter.all false
open Go.RowKit
def wprs (s : ByteArray) (v b : Nat) (gs : Nat) (W : World) (iv : Value) (wr : World) : Prop :=
  (iv = .int .i64 0 ∨ iv = .int .i64 1 ∧ s.data.toList ≠ Fl.nanS ∨ iv = .int .i64 2 ∧ s.data.toList ≠ Fl.nanS ∧ s.data.toList ≠ Fl.infS ∨ iv = .int .i64 3 ∧ s.data.toList ≠ Fl.nanS ∧ s.data.toList ≠ Fl.infS ∧ s.data.toList ≠ Fl.ninfS) ∧
  Hid (Cs wr gs [.int .u64 9221120237041090560, .int .u64 9218868437227405312, .int .u64 18442240474082181120]) ∧ Hid (Below W.heap.size W wr)
theorem str_eq_true {s : ByteArray} {l : Dc.Bs} (h : s.data.toList = l) : (s.toList == (⟨l.toArray⟩ : ByteArray).toList) = true := by
  rw [toList_data, toList_data, bs_mk, h]; exact beq_self_eq_true _
theorem str_eq_false {s : ByteArray} {l : Dc.Bs} (h : s.data.toList ≠ l) : (s.toList == (⟨l.toArray⟩ : ByteArray).toList) = false := by
  rw [toList_data, toList_data, bs_mk]; exact beq_eq_false_iff_ne.2 h
theorem sh_parse_any (v b : Nat) (s : ByteArray) (W : World) (ht : TabB b W) (hs : s.size ≤ 1000000) (hW : Wtr W v b) :
    Calls Tryz.prog 15 #[.pointer (some ⟨v, 0, none⟩), .string s] W (RetR b (.tuple #[.int .u64 ((Fl.wparse s.data.toList).1 : Nat), .int .i64 (Fl.wparse s.data.toList).2]) W) := by
  have n1 := fun w1 => sh_name_any 9221120237041090560 w1 (by decide)
  have n2 := fun w1 => sh_name_any 9218868437227405312 w1 (by decide)
  have n3 := fun w1 => sh_name_any 18442240474082181120 w1 (by decide)
  rw [show Fl.wname 9221120237041090560 = Fl.nanS by decide +kernel] at n1
  rw [show Fl.wname 9218868437227405312 = Fl.infS by decide +kernel] at n2
  rw [show Fl.wname 18442240474082181120 = Fl.ninfS by decide +kernel] at n3
  obtain ⟨S1, hS1⟩ : ∃ S : ByteArray, S = ⟨Fl.nanS.toArray⟩ := ⟨_, rfl⟩
  obtain ⟨S2, hS2⟩ : ∃ S : ByteArray, S = ⟨Fl.infS.toArray⟩ := ⟨_, rfl⟩
  obtain ⟨S3, hS3⟩ : ∃ S : ByteArray, S = ⟨Fl.ninfS.toArray⟩ := ⟨_, rfl⟩
  rw [← hS1] at n1
  rw [← hS2] at n2
  rw [← hS3] at n3
  have e1t : s.data.toList = Fl.nanS → (s.toList == S1.toList) = true := fun h => by rw [hS1]; exact str_eq_true h
  have e1f : s.data.toList ≠ Fl.nanS → (s.toList == S1.toList) = false := fun h => by rw [hS1]; exact str_eq_false h
  have e2t : s.data.toList = Fl.infS → (s.toList == S2.toList) = true := fun h => by rw [hS2]; exact str_eq_true h
  have e2f : s.data.toList ≠ Fl.infS → (s.toList == S2.toList) = false := fun h => by rw [hS2]; exact str_eq_false h
  have e3t : s.data.toList = Fl.ninfS → (s.toList == S3.toList) = true := fun h => by rw [hS3]; exact str_eq_true h
  have e3f : s.data.toList ≠ Fl.ninfS → (s.toList == S3.toList) = false := fun h => by rw [hS3]; exact str_eq_false h
  have hp := fun w1 (h : Rdr w1 b) => re_parse_any b s w1 hs h
  have hpr := fun x w1 (hx : x < 18446744073709551616) (h1 : TabB b w1) (h2 : Wtr w1 v b) => sh_print_any v b x w1 h1 hx h2
  have hbl := hW.rd.lt
  obtain ⟨R, hR⟩ : ∃ R, R = Fl.wparse s.data.toList := ⟨_, rfl⟩
  rw [← hR]
  have HR := Lib.hid hR
  have HF := Lib.hid (fun w' (h : Below W.heap.size W w') => (⟨hW.rd.onl h, hW.rd.on h⟩ : Onl b W w' ∧ Rdr w' b))
  have HW := Lib.hid (fun w' (h : Below W.heap.size W w') => hW.on h)
  have HTB := Lib.hid (fun w' (h : Below W.heap.size W w') => ht.on h)
  have N1 := Lib.hid (fun w1 => (show Calls Tryz.prog 39 #[.int .u64 9221120237041090560] w1 (Ret0 (.string S1) w1) from n1 w1))
  have N2 := Lib.hid (fun w1 => (show Calls Tryz.prog 39 #[.int .u64 9218868437227405312] w1 (Ret0 (.string S2) w1) from n2 w1))
  have N3 := Lib.hid (fun w1 => (show Calls Tryz.prog 39 #[.int .u64 18442240474082181120] w1 (Ret0 (.string S3) w1) from n3 w1))
  have E1T := Lib.hid e1t; have E1F := Lib.hid e1f; have E2T := Lib.hid e2t; have E2F := Lib.hid e2f; have E3T := Lib.hid e3t; have E3F := Lib.hid e3f
  have HP := Lib.hid hp; have HPR := Lib.hid hpr
  have c0 := Cs.new W [.int .u64 9221120237041090560, .int .u64 9218868437227405312, .int .u64 18442240474082181120] 22
  have hb0 : Below W.heap.size W (W.alloc (.cells #[.int .u64 9221120237041090560, .int .u64 9218868437227405312, .int .u64 18442240474082181120] 22)) := (Below.refl _ _).alloc (Nat.le_refl _) _
  have HC0 := Lib.hid (show Cs (W.alloc (.cells #[.int .u64 9221120237041090560, .int .u64 9218868437227405312, .int .u64 18442240474082181120] 22)) W.heap.size [.int .u64 9221120237041090560, .int .u64 9218868437227405312, .int .u64 18442240474082181120] from c0)
  have HB0 := Lib.hid hb0
  clear hR n1 n2 n3 hS1 hS2 hS3 e1t e1f e2t e2f e3t e3f hp hpr hW ht c0 hb0
  go_enter Tryz.func15, Tryz.ntmps15
  go_wp2_with fail
  go_loopw [12] (wprs s v b W.heap.size W) (fun iv _ => 3 - (intOf iv).toNat)
  case atStart => exact ⟨Or.inl rfl, HC0, HB0⟩
  case round =>
    clear HC0 HB0
    obtain ⟨hcase, HC, HB⟩ := hrel
    have g0 := HC.out.get 0 rfl; have g1 := HC.out.get 1 rfl; have g2 := HC.out.get 2 rfl; have gl := HC.out.1
    rcases hcase with rfl | ⟨rfl, m1⟩ | ⟨rfl, m1, m2⟩ | ⟨rfl, m1, m2, m3⟩
    · by_cases h : s.data.toList = Fl.nanS
      · have hb := E1T.out h
        have hv : R = (9221120237041090560, 0) := by rw [HR.out, Fl.wparse, if_pos h]
        subst hv
        clear h
        go_wp2_with (first | (go_at_call 39; (with_reducible refine (N1.out _).mono ?_); rintro e w' ⟨rfl, rfl⟩))
        refine bodyPost_ret (v := .tuple #[.int .u64 9221120237041090560, .int .i64 0]) (by (simp [results, Tryz.results15, go_sem]; done)) rfl ⟨rfl, HF.out _ HB.out⟩
      · have hb := E1F.out h
        have HM := Lib.hid h
        clear h
        go_wp2_with (first | (go_at_call 39; (with_reducible refine (N1.out _).mono ?_); rintro e w' ⟨rfl, rfl⟩))
        go_roundw
        case rel => exact ⟨Or.inr (Or.inl ⟨rfl, HM.out⟩), HC, HB⟩
        case measure => simp [intOf]
    · have M1 := Lib.hid m1
      clear m1
      by_cases h : s.data.toList = Fl.infS
      · have hb := E2T.out h
        have hv : R = (9218868437227405312, 0) := by rw [HR.out, Fl.wparse, if_neg M1.out, if_pos h]
        subst hv
        clear h
        go_wp2_with (first | (go_at_call 39; (with_reducible refine (N2.out _).mono ?_); rintro e w' ⟨rfl, rfl⟩))
        refine bodyPost_ret (v := .tuple #[.int .u64 9218868437227405312, .int .i64 0]) (by (simp [results, Tryz.results15, go_sem]; done)) rfl ⟨rfl, HF.out _ HB.out⟩
      · have hb := E2F.out h
        have HM := Lib.hid h
        clear h
        go_wp2_with (first | (go_at_call 39; (with_reducible refine (N2.out _).mono ?_); rintro e w' ⟨rfl, rfl⟩))
        go_roundw
        case rel => exact ⟨Or.inr (Or.inr (Or.inl ⟨rfl, M1.out, HM.out⟩)), HC, HB⟩
        case measure => simp [intOf]
    · have M1 := Lib.hid m1; have M2 := Lib.hid m2
      clear m1 m2
      by_cases h : s.data.toList = Fl.ninfS
      · have hb := E3T.out h
        have hv : R = (18442240474082181120, 0) := by rw [HR.out, Fl.wparse, if_neg M1.out, if_neg M2.out, if_pos h]
        subst hv
        clear h
        go_wp2_with (first | (go_at_call 39; (with_reducible refine (N3.out _).mono ?_); rintro e w' ⟨rfl, rfl⟩))
        refine bodyPost_ret (v := .tuple #[.int .u64 18442240474082181120, .int .i64 0]) (by (simp [results, Tryz.results15, go_sem]; done)) rfl ⟨rfl, HF.out _ HB.out⟩
      · have hb := E3F.out h
        have HM := Lib.hid h
        clear h
        go_wp2_with (first | (go_at_call 39; (with_reducible refine (N3.out _).mono ?_); rintro e w' ⟨rfl, rfl⟩))
        go_roundw
        case rel => exact ⟨Or.inr (Or.inr (Or.inr ⟨rfl, M1.out, M2.out, HM.out⟩)), HC, HB⟩
        case measure => simp [intOf]
    · have hw : Fl.wparse s.data.toList = (if (Fl.readS s.data.toList).2 ≠ 0 then (0, (Fl.readS s.data.toList).2) else if Fl.wprint (Fl.readS s.data.toList).1 ≠ s.data.toList then (0, 3) else ((Fl.readS s.data.toList).1, 0)) := by
        rw [Fl.wparse, if_neg m1, if_neg m2, if_neg m3]
      have hlt := Fl.readS_lt s.data.toList
      have hRe := HR.out
      rw [hw] at hRe
      have HP2 := HP.out
      obtain ⟨Q, hQ⟩ : ∃ Q, Q = (Fl.readS s.data.toList).1 := ⟨_, rfl⟩
      obtain ⟨E, hE⟩ : ∃ Q, Q = (Fl.readS s.data.toList).2 := ⟨_, rfl⟩
      rw [← hQ, ← hE] at hRe HP2
      rw [← hQ] at hlt
      have hEr : E = 0 ∨ E = 2 ∨ E = 3 := by
        rw [hE]; unfold Fl.readS
        split
        · exact Or.inl rfl
        · rename_i hne
          rcases Dc.parse_fine s.data.toList with ⟨q, -⟩ | ⟨q, q1, q2⟩
          · exact absurd q hne
          · rw [q2]; exact Or.inr q1
      have HPP := Lib.hid HP2
      have PR := Lib.hid (fun w1 (h1 : TabB b w1) (h2 : Wtr w1 v b) => HPR.out Q w1 hlt h1 h2)
      have hW1 := HW.out _ HB.out
      have wc := hW1.cell; have wl := hW1.lt; have wr' := hW1.rd
      clear HP2 hw hQ hE m1 m2 m3 HR N1 N2 N3 E1T E1F E2T E2F E3T E3F HPR HP
      have hex : (E ≠ 0 ∧ R = (0, E)) ∨ (E = 0 ∧ Fl.wprint Q ≠ s.data.toList ∧ R = (0, 3)) ∨ (E = 0 ∧ Fl.wprint Q = s.data.toList ∧ R = (Q, 0)) := by
        by_cases c : E ≠ 0
        · rw [if_pos c] at hRe; exact Or.inl ⟨c, hRe⟩
        · rw [if_neg c] at hRe
          have c0 : E = 0 := Decidable.not_not.1 c
          by_cases c2 : Fl.wprint Q ≠ s.data.toList
          · rw [if_pos c2] at hRe; exact Or.inr (Or.inl ⟨c0, c2, hRe⟩)
          · rw [if_neg c2] at hRe; exact Or.inr (Or.inr ⟨c0, Decidable.not_not.1 c2, hRe⟩)
      clear hRe
      rcases hex with ⟨c, rfl⟩ | ⟨rfl, c, rfl⟩ | ⟨rfl, c, rfl⟩
      · have hE2 : E = 2 ∨ E = 3 := by omega
        clear c hEr
        rcases hE2 with rfl | rfl
        all_goals (
          go_wp2_with (first | (go_at_call 40; (with_reducible refine (HPP.out _ wr').mono ?_); rintro e w1 ⟨rfl, ho1, rd1⟩))
          refine bodyPost_ret (v := .tuple #[.int .u64 0, .int .i64 _]) (by (simp [results, Tryz.results15, go_sem]; done)) rfl ⟨rfl, (HF.out _ HB.out).1.trans ho1, rd1⟩)
      · have hne : (P : ByteArray) → P = ⟨(Fl.wprint Q).toArray⟩ → (P.toList == s.toList) = false := fun P h => by
          rw [h, toList_data, toList_data, bs_mk]; exact beq_eq_false_iff_ne.2 c
        obtain ⟨P, hP⟩ : ∃ P : ByteArray, P = ⟨(Fl.wprint Q).toArray⟩ := ⟨_, rfl⟩
        have hb := hne P hP
        have PR2 := PR.out
        rw [← hP] at PR2
        have PR3 := Lib.hid PR2
        clear PR PR2 hP hne c
        go_wp2_with (first
          | (go_at_call 40; (with_reducible refine (HPP.out _ wr').mono ?_); rintro e w1 ⟨rfl, ho1, rd1⟩; have t1 := (HTB.out _ HB.out).onl ho1; have W1 := hW1.onl ho1 rd1)
          | (go_at_call 17; (with_reducible refine (PR3.out _ t1 W1).mono ?_); rintro e w2 ⟨rfl, ho2, rd2⟩))
        refine bodyPost_ret (v := .tuple #[.int .u64 0, .int .i64 3]) (by (simp [results, Tryz.results15, go_sem]; done)) rfl ⟨rfl, ((HF.out _ HB.out).1.trans ho1).trans ho2, rd2⟩
      · have heq : (P : ByteArray) → P = ⟨(Fl.wprint Q).toArray⟩ → (P.toList == s.toList) = true := fun P h => by
          rw [h, toList_data, toList_data, bs_mk, c]; exact beq_self_eq_true _
        obtain ⟨P, hP⟩ : ∃ P : ByteArray, P = ⟨(Fl.wprint Q).toArray⟩ := ⟨_, rfl⟩
        have hb := heq P hP
        have PR2 := PR.out
        rw [← hP] at PR2
        have PR3 := Lib.hid PR2
        clear PR PR2 hP heq c
        go_wp2_with (first
          | (go_at_call 40; (with_reducible refine (HPP.out _ wr').mono ?_); rintro e w1 ⟨rfl, ho1, rd1⟩; have t1 := (HTB.out _ HB.out).onl ho1; have W1 := hW1.onl ho1 rd1)
          | (go_at_call 17; (with_reducible refine (PR3.out _ t1 W1).mono ?_); rintro e w2 ⟨rfl, ho2, rd2⟩))
        refine bodyPost_ret (v := .tuple #[.int .u64 (Q : Nat), .int .i64 0]) (by (simp [results, Tryz.results15, go_sem]; done)) rfl ⟨rfl, ((HF.out _ HB.out).1.trans ho1).trans ho2, rd2⟩
end Go.Proofs.YtiglekomfgfilaaGreatDoor

/- Plain Lean: chapter 10's examples. -/
namespace Go.Proofs.YtiglekomfgfilaaGreatDoor.Fl
set_option linter.all false
open Go
theorem shown10_p0 : wprint 4591870180066957722 = [48, 46, 49] := by decide +kernel
theorem shown10_q0 : wparse [48, 46, 49] = (4591870180066957722, 0) := by decide +kernel
theorem shown10_p1 : wprint 9223372036854775808 = [45, 48] := by decide +kernel
theorem shown10_q1 : wparse [45, 48] = (9223372036854775808, 0) := by decide +kernel
theorem shown10_p2 : wprint 4950912855330343670 = [49, 101, 43, 50, 51] := by decide +kernel
theorem shown10_q2 : wparse [49, 101, 43, 50, 51] = (4950912855330343670, 0) := by decide +kernel
theorem shown10_p3 : wprint 1 = [53, 101, 45, 51, 50, 52] := by decide +kernel
theorem shown10_q3 : wparse [53, 101, 45, 51, 50, 52] = (1, 0) := by decide +kernel
theorem shown10_p4 : wprint 4845873199050653696 = [57, 48, 48, 55, 49, 57, 57, 50, 53, 52, 55, 52, 48, 57, 57, 50] := by decide +kernel
theorem shown10_q4 : wparse [57, 48, 48, 55, 49, 57, 57, 50, 53, 52, 55, 52, 48, 57, 57, 50] = (4845873199050653696, 0) := by decide +kernel
theorem shown10_p5 : wprint 9218868437227405311 = [49, 46, 55, 57, 55, 54, 57, 51, 49, 51, 52, 56, 54, 50, 51, 49, 53, 55, 101, 43, 51, 48, 56] := by decide +kernel
theorem shown10_q5 : wparse [49, 46, 55, 57, 55, 54, 57, 51, 49, 51, 52, 56, 54, 50, 51, 49, 53, 55, 101, 43, 51, 48, 56] = (9218868437227405311, 0) := by decide +kernel
theorem shown10_p6 : wprint 9218868437227405312 = [105, 110, 102] := by decide +kernel
theorem shown10_q6 : wparse [105, 110, 102] = (9218868437227405312, 0) := by decide +kernel
theorem shown10_a : wparse [48, 46, 49, 48] = (0, 3) := by decide +kernel
theorem shown10_b : wparse [49, 101, 50, 51] = (0, 3) := by decide +kernel
theorem shown10_c : wparse [110, 97, 110] = (9221120237041090560, 0) := by decide +kernel
theorem shown10_d : sig 4599075939470750516 15 1 = ⟨false, [51], -1, 0⟩ := res_eq (by decide +kernel)
theorem shown10_e : sig 4599676419421066581 15 1 = ⟨false, [51, 51, 51, 51, 51, 51, 51, 51, 51, 51, 51, 51, 51, 51, 51], -15, 0⟩ := res_eq (by decide +kernel)
theorem shown10_f : sig 4877398396442247168 15 1 = ⟨false, [49, 49, 53, 50, 57, 50, 49, 53, 48, 52, 54, 48, 54, 56, 53], 4, 0⟩ := res_eq (by decide +kernel)
theorem shown10_g : wdec 9221120237041090560 = ⟨false, [], 0, 11⟩ := res_eq (by decide +kernel)
end Go.Proofs.YtiglekomfgfilaaGreatDoor.Fl
