/- A fraction is in its lowest terms; a number that is such a fraction is told as it is. -/
import Derived.Test.YtjnkbifafbjckaaGreatDoorZ34
import Derived.Test.YtjnkbifafbjckaaGreatDoorZ35
namespace Go.Proofs.YtjnkbifafbjckaaGreatDoor
set_option linter.all false
open Go.RowKit
attribute [local go_sem] Dc.Res.val Fl.fv

/-- What the calls on the way tell. -/
theorem Fl.ratio_call {x : Nat} {m : Int} {n : Bool} {l : Dc.Bs} {X : Int} {p q : Nat} {S : ByteArray} (hx : x < 18446744073709551616) (hm : 1 ≤ m ∧ m ≤ 200) (hr : Fl.ratio x m = ⟨⟨n, l, X, 0⟩, p, q, 0⟩) (hS : S = ⟨l.toArray⟩) (w1 : World) (ht : Tab w1) :
    Calls Tryz.prog 22 #[.int .u64 x, .int .i64 m] w1 (RetB (.tuple #[.agg #[.bool n, .string S, .int .i64 X, .int .i64 p, .int .i64 q], .int .i64 0]) w1) := by
  have h := ex_ratio_any x hx m (by omega) w1 ht
  rw [hr] at h
  rw [hS]; exact h
theorem Fl.place_call {x : Nat} {n : Bool} {l : Dc.Bs} {X : Int} {S : ByteArray} (hx : x < 18446744073709551616) (hd : Fl.place x 0 2 = ⟨n, l, X, 0⟩) (hS : S = ⟨l.toArray⟩) (w1 : World) (ht : Tab w1) :
    Calls Tryz.prog 24 #[.int .u64 x, .int .i64 0, .int .i64 2] w1 (RetB (.tuple #[.agg #[.bool n, .string S, .int .i64 X], .int .i64 0]) w1) := by
  have h := ex_place_any x 0 2 hx (by omega) w1 ht
  rw [hd] at h
  rw [hS]; exact h
theorem Fl.print_call {n : Bool} {l : Dc.Bs} {X : Int} {S : ByteArray} (hr : Dc.right l X = true) (hS : S.data.toList = l) (h1 : S.size ≤ 1100) (w1 : World) : ∃ P : ByteArray, P.size ≤ 1000000 ∧ Dc.parse P.data.toList = ⟨n, l, X, 0⟩ ∧
    ∀ w1, Calls Tryz.prog 26 #[.agg #[.bool n, .string S, .int .i64 X]] w1 (RetB (.string P) w1) := by
  have hx := Dc.right_exp hr
  refine ⟨⟨(Dc.print n S.data.toList X).toArray⟩, ?_, ?_, fun w1 => r7_print_any n S X w1 (by omega) (by omega)⟩
  · rw [← bs_length]
    show (Dc.print n S.data.toList X).length ≤ 1000000
    exact Nat.le_trans (Fl.print_short _ _ _) (by omega)
  · show Dc.parse (Dc.print n S.data.toList X) = _
    rw [hS]; exact Dc.print_parse n l X hr
theorem Fl.parse_call {n : Bool} {l : Dc.Bs} {X : Int} {S P : ByteArray} (hP : Dc.parse P.data.toList = ⟨n, l, X, 0⟩) (hs : P.size ≤ 1000000) (hS : S = ⟨l.toArray⟩) (w1 : World) :
    Calls Tryz.prog 25 #[.string P] w1 (RetB (.tuple #[.agg #[.bool n, .string S, .int .i64 X], .int .i64 0]) w1) := by
  have h := r7_parse_any P w1 hs
  rw [hP] at h
  rw [hS]; exact h

set_option maxRecDepth 100000 in
set_option maxHeartbeats 8000000 in
/-- With denominators up to M. -/
theorem l9_lowest_fine (x : Nat) (most M q : Int) (w : World) (ht : Tab w) (hx : x < 18446744073709551616) (hm : -9223372036854775808 ≤ most ∧ most ≤ 9223372036854775807) (hq : -9223372036854775808 ≤ q ∧ q ≤ 9223372036854775807) (hk : Fl.kind x < 3)
    (hM : (200 < most ∧ M = 200) ∨ (1 ≤ most ∧ most ≤ 200 ∧ M = most)) :
    Calls Tryz.prog 4 #[.int .u64 x, .int .i64 most, .int .i64 q] w (RetB (.bool true) w) := by
  have HS := Lib.hid (l9_shown_any w ht)
  have hMb : 1 ≤ M ∧ M ≤ 200 := by omega
  obtain ⟨l, X, p, d, hr1, hr2, hr3, hr4, hr5, hr6, hr7⟩ := Fl.ratio_fine x hk M hMb
  obtain ⟨m_, Y, hp1, hp2, hp3, hp4, hp5⟩ := Fl.place_down x hk
  obtain ⟨S, s1, s2, s3⟩ := Fl.str_is hr2
  obtain ⟨T, t1, t2, t3⟩ := Fl.str_is hp2
  have hY := Dc.right_exp hp2
  have hX := Dc.right_exp hr2
  have h1 := fun w1 (hb : Below w.heap.size w w1) => Fl.ratio_call hx hMb hr1 s1 w1 (ht.below hb)
  have h2 := fun w1 => d_right_any (Fl.neg x) S X w1 (by omega)
  rw [s2, hr2] at h2
  have h3 := fun w1 => l9_gcd_any d p w1 (by omega) (by omega)
  rw [hr7] at h3
  have h4 := fun w1 (hb : Below w.heap.size w w1) => Fl.place_call hx hp1 t1 w1 (ht.below hb)
  obtain ⟨P, pz, pp, h5⟩ := Fl.print_call (n := Fl.neg x) hp2 t2 t3 w
  have h6 := fun w1 => Fl.parse_call pp pz t1 w1
  have h8 := fun w1 => r8_bits_any (Fl.neg x) T Y w1 (by rw [t2]; exact hp2)
  rw [t2] at h8
  have hneg : decide (9223372036854775808 ≤ (x : Int)) = Fl.neg x := by unfold Fl.neg; apply decide_eq_decide.2; omega
  have hei := fun (hs : (T.size : Int) + Y ≤ 15) (h8 : 8 ≤ M) => Fl.eighth_all (n := Fl.neg x) hk hp2 hp4 (by rw [← t2, bs_length]; exact hs) hp5 M ⟨h8, hMb.2⟩
  have hrc := fun (W : Nat) (p' q' : Nat) (hW : W < 18446744073709551616) (hr : Fl.ratio W M = ⟨⟨Fl.neg x, m_, Y, 0⟩, p', q', 0⟩) w1 (hb : Below w.heap.size w w1) => Fl.ratio_call hW hMb hr t1 w1 (ht.below hb)
  obtain ⟨n, hn⟩ : ∃ n, n = Fl.neg x := ⟨_, rfl⟩
  rw [← hn] at h1 h2 h4 h5 h6 h8 hneg hei hrc
  have k5 : ((p : Int) = 0 ∧ (d : Int) = 1) ∨ 0 < (p : Int) := by
    by_cases e : p = 0
    · subst e; rw [Nat.gcd_zero_right] at hr7; subst hr7; exact Or.inl ⟨rfl, rfl⟩
    · exact Or.inr (by omega)
  obtain ⟨Pi, hPi⟩ : ∃ Pi : Int, Pi = (p : Int) := ⟨_, rfl⟩
  obtain ⟨Di, hDi⟩ : ∃ Pi : Int, Pi = (d : Int) := ⟨_, rfl⟩
  have j1 : 1 ≤ Di ∧ Di ≤ M ∧ 0 ≤ Pi ∧ Pi < Di := by omega
  rw [← hPi, ← hDi] at k5 h1 h3
  have H1 := Lib.hid h1; have H2 := Lib.hid h2; have H3 := Lib.hid h3; have H4 := Lib.hid h4; have H5 := Lib.hid h5; have H6 := Lib.hid h6; have H8 := Lib.hid h8
  have HR := Lib.hid hrc
  obtain ⟨j1, j2, j3, j4⟩ := j1
  have k6 : decide (X < 0) = false := decide_eq_false (by omega)
  obtain ⟨qa, qb⟩ := hq
  obtain ⟨ma, mb⟩ := hm
  obtain ⟨Ma, Mb⟩ := hMb
  obtain ⟨Ya, Yb⟩ := hY
  obtain ⟨Xa, Xb⟩ := hX
  have hMc := Lib.hid hM
  have HEI := Lib.hid hei
  clear h1 h2 h3 h4 h5 h6 h8 hei hrc hp1 hp2 hp3 hp4 hp5 hr1 hr2 hr3 hr4 hr5 hr6 hr7 hPi hDi hn s1 s2 t1 t2 pp hM
  go_enter Tryz.func4, Tryz.ntmps4
  go_upto_if 27 with (first | (go_at_call 17; (with_reducible refine (HS.out).mono ?_); rintro e w1 ⟨rfl, hb_w1⟩; have hB_w1 : Below (w).heap.size (w) w1 := Below.trans (by (repeat (first | exact Below.refl _ _ | assumption | refine Below.setCell ?_ (by first | omega | (simp <;> omega)) _ | refine Below.alloc ?_ (by first | omega | (simp <;> omega)) _ | refine Below.drew ?_ | refine below_drewN' ?_ _))) (hb_w1.mono (by first | omega | (simp <;> omega))); obtain ⟨hc_w1, hf_w1⟩ := bcell hb_w1; have hz_w1 := hb_w1.size; (try simp only [size_drew', size_drewN', World.size_alloc, World.size_setCell] at hz_w1)))
  go_cut [1] (fun mv w' => mv = .int .i64 M ∧ Hid (Below w.heap.size w w'))
  case first =>
    rcases hMc.out with ⟨h, e⟩ | ⟨_, h, e⟩
    · subst e
      go_wp2_with fail
      go_meet
      exact ⟨rfl, Lib.hid hB_w1⟩
    · have h' : ¬ 200 < most := by omega
      subst e
      go_wp2_with fail
      go_meet
      exact ⟨rfl, Lib.hid hB_w1⟩
  case rest => as_aux_lemma =>
    obtain ⟨rfl, HBC⟩ := hcut
    have HB := HBC.out
    have hzc := HB.size
    clear hB_w1 hb_w1 HBC
    go_upto_region 10 with (first
      | (go_at_call 22; (with_reducible refine (H1.out _ (by (repeat (first | exact Below.refl _ _ | assumption | refine Below.setCell ?_ (by first | omega | (simp <;> omega)) _ | refine Below.alloc ?_ (by first | omega | (simp <;> omega)) _ | refine Below.drew ?_ | refine below_drewN' ?_ _)))).mono ?_); rintro e w2 ⟨rfl, hb_w2⟩; have hB_w2 : Below (w).heap.size (w) w2 := Below.trans (by (repeat (first | exact Below.refl _ _ | assumption | refine Below.setCell ?_ (by first | omega | (simp <;> omega)) _ | refine Below.alloc ?_ (by first | omega | (simp <;> omega)) _ | refine Below.drew ?_ | refine below_drewN' ?_ _))) (hb_w2.mono (by first | omega | (simp <;> omega))); obtain ⟨hc_w2, hf_w2⟩ := bcell hb_w2; have hz_w2 := hb_w2.size; (try simp only [size_drew', size_drewN', World.size_alloc, World.size_setCell] at hz_w2))
      | (go_at_call 20; (with_reducible refine (H2.out _).mono ?_); rintro e w3 ⟨rfl, hb_w3⟩; have hB_w3 : Below (w).heap.size (w) w3 := Below.trans (by (repeat (first | exact Below.refl _ _ | assumption | refine Below.setCell ?_ (by first | omega | (simp <;> omega)) _ | refine Below.alloc ?_ (by first | omega | (simp <;> omega)) _ | refine Below.drew ?_ | refine below_drewN' ?_ _))) (hb_w3.mono (by first | omega | (simp <;> omega))); obtain ⟨hc_w3, hf_w3⟩ := bcell hb_w3; have hz_w3 := hb_w3.size; (try simp only [size_drew', size_drewN', World.size_alloc, World.size_setCell] at hz_w3); have hl0_w3 : w2.heap.size < w3.heap.size := (by omega); have hm0_w3 : w2.heap.size ≤ w3.heap.size := (by omega); have hn0_w3 : ¬ w2.heap.size = w3.heap.size := (by omega); have hq0_w3 : ¬ w3.heap.size = w2.heap.size := (by omega); have hr0_w3 := fun o => hc_w3 (w2.heap.size) o (by (try simp only [size_drew', size_drewN', World.size_alloc, World.size_setCell]); omega); have hg0_w3 := fun o => hf_w3 (w2.heap.size) o (by (try simp only [size_drew', size_drewN', World.size_alloc, World.size_setCell]); omega)))
    go_cut [111] (fun tv w' => tv = .bool false ∧ w' = w3)
    case first =>
      rcases k5 with ⟨rfl, rfl⟩ | kp
      · go_wp2_with (first | (go_at_call 23; (with_reducible refine (H3.out _).mono ?_); rintro e w' ⟨rfl, rfl⟩))
        go_meet
        exact ⟨by first | rfl | (rw [decide_eq_false (by omega)]; done) | (simp only [decide_eq_false_iff_not, Value.bool.injEq]; omega), rfl⟩
      · go_wp2_with (first | (go_at_call 23; (with_reducible refine (H3.out _).mono ?_); rintro e w' ⟨rfl, rfl⟩))
        go_meet
        exact ⟨by rw [decide_eq_false (p := Di < 1) (by omega), decide_eq_false (p := M < Di) (by omega), decide_eq_false (p := Pi < 0) (by omega), decide_eq_false (p := Di ≤ Pi) (by omega)]; rfl, rfl⟩
    case rest => as_aux_lemma =>
      obtain ⟨rfl, hwc⟩ := hcut
      subst hwc
      clear hMc ma mb k5 HS H1 H2 H3 j1 j2 j3 j4
      by_cases hstop : 15 < (T.size : Int) + Y
      · skip
        go_wp2_with (first
          | (go_at_call 24; (with_reducible refine (H4.out _ (by (repeat (first | exact Below.refl _ _ | assumption | refine Below.setCell ?_ (by first | omega | (simp <;> omega)) _ | refine Below.alloc ?_ (by first | omega | (simp <;> omega)) _ | refine Below.drew ?_ | refine below_drewN' ?_ _)))).mono ?_); rintro e w4 ⟨rfl, hb_w4⟩; have hB_w4 : Below (w).heap.size (w) w4 := Below.trans (by (repeat (first | exact Below.refl _ _ | assumption | refine Below.setCell ?_ (by first | omega | (simp <;> omega)) _ | refine Below.alloc ?_ (by first | omega | (simp <;> omega)) _ | refine Below.drew ?_ | refine below_drewN' ?_ _))) (hb_w4.mono (by first | omega | (simp <;> omega))); obtain ⟨hc_w4, hf_w4⟩ := bcell hb_w4; have hz_w4 := hb_w4.size; (try simp only [size_drew', size_drewN', World.size_alloc, World.size_setCell] at hz_w4))
          | (go_at_call 26; (with_reducible refine (H5.out _).mono ?_); rintro e w5 ⟨rfl, hb_w5⟩; have hB_w5 : Below (w).heap.size (w) w5 := Below.trans (by (repeat (first | exact Below.refl _ _ | assumption | refine Below.setCell ?_ (by first | omega | (simp <;> omega)) _ | refine Below.alloc ?_ (by first | omega | (simp <;> omega)) _ | refine Below.drew ?_ | refine below_drewN' ?_ _))) (hb_w5.mono (by first | omega | (simp <;> omega))); obtain ⟨hc_w5, hf_w5⟩ := bcell hb_w5; have hz_w5 := hb_w5.size; (try simp only [size_drew', size_drewN', World.size_alloc, World.size_setCell] at hz_w5); have hl0_w5 : w4.heap.size < w5.heap.size := (by omega); have hm0_w5 : w4.heap.size ≤ w5.heap.size := (by omega); have hn0_w5 : ¬ w4.heap.size = w5.heap.size := (by omega); have hq0_w5 : ¬ w5.heap.size = w4.heap.size := (by omega); have hr0_w5 := fun o => hc_w5 (w4.heap.size) o (by (try simp only [size_drew', size_drewN', World.size_alloc, World.size_setCell]); omega); have hg0_w5 := fun o => hf_w5 (w4.heap.size) o (by (try simp only [size_drew', size_drewN', World.size_alloc, World.size_setCell]); omega))
          | (go_at_call 25; (with_reducible refine (H6.out _).mono ?_); rintro e w6 ⟨rfl, hb_w6⟩; have hB_w6 : Below (w).heap.size (w) w6 := Below.trans (by (repeat (first | exact Below.refl _ _ | assumption | refine Below.setCell ?_ (by first | omega | (simp <;> omega)) _ | refine Below.alloc ?_ (by first | omega | (simp <;> omega)) _ | refine Below.drew ?_ | refine below_drewN' ?_ _))) (hb_w6.mono (by first | omega | (simp <;> omega))); obtain ⟨hc_w6, hf_w6⟩ := bcell hb_w6; have hz_w6 := hb_w6.size; (try simp only [size_drew', size_drewN', World.size_alloc, World.size_setCell] at hz_w6); have hl0_w6 : w4.heap.size < w6.heap.size := (by omega); have hm0_w6 : w4.heap.size ≤ w6.heap.size := (by omega); have hn0_w6 : ¬ w4.heap.size = w6.heap.size := (by omega); have hq0_w6 : ¬ w6.heap.size = w4.heap.size := (by omega); have hr0_w6 := fun o => hc_w6 (w4.heap.size) o (by (try simp only [size_drew', size_drewN', World.size_alloc, World.size_setCell]); omega); have hg0_w6 := fun o => hf_w6 (w4.heap.size) o (by (try simp only [size_drew', size_drewN', World.size_alloc, World.size_setCell]); omega)))
        go_ret
        exact RetB.of rfl (by (repeat (first | exact Below.refl _ _ | assumption | refine Below.setCell ?_ (by first | omega | (simp <;> omega)) _ | refine Below.alloc ?_ (by first | omega | (simp <;> omega)) _ | refine Below.drew ?_ | refine below_drewN' ?_ _)))
      · by_cases h8' : M < 8
        · skip
          go_wp2_with (first
            | (go_at_call 24; (with_reducible refine (H4.out _ (by (repeat (first | exact Below.refl _ _ | assumption | refine Below.setCell ?_ (by first | omega | (simp <;> omega)) _ | refine Below.alloc ?_ (by first | omega | (simp <;> omega)) _ | refine Below.drew ?_ | refine below_drewN' ?_ _)))).mono ?_); rintro e w4 ⟨rfl, hb_w4⟩; have hB_w4 : Below (w).heap.size (w) w4 := Below.trans (by (repeat (first | exact Below.refl _ _ | assumption | refine Below.setCell ?_ (by first | omega | (simp <;> omega)) _ | refine Below.alloc ?_ (by first | omega | (simp <;> omega)) _ | refine Below.drew ?_ | refine below_drewN' ?_ _))) (hb_w4.mono (by first | omega | (simp <;> omega))); obtain ⟨hc_w4, hf_w4⟩ := bcell hb_w4; have hz_w4 := hb_w4.size; (try simp only [size_drew', size_drewN', World.size_alloc, World.size_setCell] at hz_w4))
            | (go_at_call 26; (with_reducible refine (H5.out _).mono ?_); rintro e w5 ⟨rfl, hb_w5⟩; have hB_w5 : Below (w).heap.size (w) w5 := Below.trans (by (repeat (first | exact Below.refl _ _ | assumption | refine Below.setCell ?_ (by first | omega | (simp <;> omega)) _ | refine Below.alloc ?_ (by first | omega | (simp <;> omega)) _ | refine Below.drew ?_ | refine below_drewN' ?_ _))) (hb_w5.mono (by first | omega | (simp <;> omega))); obtain ⟨hc_w5, hf_w5⟩ := bcell hb_w5; have hz_w5 := hb_w5.size; (try simp only [size_drew', size_drewN', World.size_alloc, World.size_setCell] at hz_w5); have hl0_w5 : w4.heap.size < w5.heap.size := (by omega); have hm0_w5 : w4.heap.size ≤ w5.heap.size := (by omega); have hn0_w5 : ¬ w4.heap.size = w5.heap.size := (by omega); have hq0_w5 : ¬ w5.heap.size = w4.heap.size := (by omega); have hr0_w5 := fun o => hc_w5 (w4.heap.size) o (by (try simp only [size_drew', size_drewN', World.size_alloc, World.size_setCell]); omega); have hg0_w5 := fun o => hf_w5 (w4.heap.size) o (by (try simp only [size_drew', size_drewN', World.size_alloc, World.size_setCell]); omega))
            | (go_at_call 25; (with_reducible refine (H6.out _).mono ?_); rintro e w6 ⟨rfl, hb_w6⟩; have hB_w6 : Below (w).heap.size (w) w6 := Below.trans (by (repeat (first | exact Below.refl _ _ | assumption | refine Below.setCell ?_ (by first | omega | (simp <;> omega)) _ | refine Below.alloc ?_ (by first | omega | (simp <;> omega)) _ | refine Below.drew ?_ | refine below_drewN' ?_ _))) (hb_w6.mono (by first | omega | (simp <;> omega))); obtain ⟨hc_w6, hf_w6⟩ := bcell hb_w6; have hz_w6 := hb_w6.size; (try simp only [size_drew', size_drewN', World.size_alloc, World.size_setCell] at hz_w6); have hl0_w6 : w4.heap.size < w6.heap.size := (by omega); have hm0_w6 : w4.heap.size ≤ w6.heap.size := (by omega); have hn0_w6 : ¬ w4.heap.size = w6.heap.size := (by omega); have hq0_w6 : ¬ w6.heap.size = w4.heap.size := (by omega); have hr0_w6 := fun o => hc_w6 (w4.heap.size) o (by (try simp only [size_drew', size_drewN', World.size_alloc, World.size_setCell]); omega); have hg0_w6 := fun o => hf_w6 (w4.heap.size) o (by (try simp only [size_drew', size_drewN', World.size_alloc, World.size_setCell]); omega)))
          go_ret
          exact RetB.of rfl (by (repeat (first | exact Below.refl _ _ | assumption | refine Below.setCell ?_ (by first | omega | (simp <;> omega)) _ | refine Below.alloc ?_ (by first | omega | (simp <;> omega)) _ | refine Below.drew ?_ | refine below_drewN' ?_ _)))
        · go_upto_if 141 with (first
            | (go_at_call 24; (with_reducible refine (H4.out _ (by (repeat (first | exact Below.refl _ _ | assumption | refine Below.setCell ?_ (by first | omega | (simp <;> omega)) _ | refine Below.alloc ?_ (by first | omega | (simp <;> omega)) _ | refine Below.drew ?_ | refine below_drewN' ?_ _)))).mono ?_); rintro e w4 ⟨rfl, hb_w4⟩; have hB_w4 : Below (w).heap.size (w) w4 := Below.trans (by (repeat (first | exact Below.refl _ _ | assumption | refine Below.setCell ?_ (by first | omega | (simp <;> omega)) _ | refine Below.alloc ?_ (by first | omega | (simp <;> omega)) _ | refine Below.drew ?_ | refine below_drewN' ?_ _))) (hb_w4.mono (by first | omega | (simp <;> omega))); obtain ⟨hc_w4, hf_w4⟩ := bcell hb_w4; have hz_w4 := hb_w4.size; (try simp only [size_drew', size_drewN', World.size_alloc, World.size_setCell] at hz_w4))
            | (go_at_call 26; (with_reducible refine (H5.out _).mono ?_); rintro e w5 ⟨rfl, hb_w5⟩; have hB_w5 : Below (w).heap.size (w) w5 := Below.trans (by (repeat (first | exact Below.refl _ _ | assumption | refine Below.setCell ?_ (by first | omega | (simp <;> omega)) _ | refine Below.alloc ?_ (by first | omega | (simp <;> omega)) _ | refine Below.drew ?_ | refine below_drewN' ?_ _))) (hb_w5.mono (by first | omega | (simp <;> omega))); obtain ⟨hc_w5, hf_w5⟩ := bcell hb_w5; have hz_w5 := hb_w5.size; (try simp only [size_drew', size_drewN', World.size_alloc, World.size_setCell] at hz_w5); have hl0_w5 : w4.heap.size < w5.heap.size := (by omega); have hm0_w5 : w4.heap.size ≤ w5.heap.size := (by omega); have hn0_w5 : ¬ w4.heap.size = w5.heap.size := (by omega); have hq0_w5 : ¬ w5.heap.size = w4.heap.size := (by omega); have hr0_w5 := fun o => hc_w5 (w4.heap.size) o (by (try simp only [size_drew', size_drewN', World.size_alloc, World.size_setCell]); omega); have hg0_w5 := fun o => hf_w5 (w4.heap.size) o (by (try simp only [size_drew', size_drewN', World.size_alloc, World.size_setCell]); omega))
            | (go_at_call 25; (with_reducible refine (H6.out _).mono ?_); rintro e w6 ⟨rfl, hb_w6⟩; have hB_w6 : Below (w).heap.size (w) w6 := Below.trans (by (repeat (first | exact Below.refl _ _ | assumption | refine Below.setCell ?_ (by first | omega | (simp <;> omega)) _ | refine Below.alloc ?_ (by first | omega | (simp <;> omega)) _ | refine Below.drew ?_ | refine below_drewN' ?_ _))) (hb_w6.mono (by first | omega | (simp <;> omega))); obtain ⟨hc_w6, hf_w6⟩ := bcell hb_w6; have hz_w6 := hb_w6.size; (try simp only [size_drew', size_drewN', World.size_alloc, World.size_setCell] at hz_w6); have hl0_w6 : w4.heap.size < w6.heap.size := (by omega); have hm0_w6 : w4.heap.size ≤ w6.heap.size := (by omega); have hn0_w6 : ¬ w4.heap.size = w6.heap.size := (by omega); have hq0_w6 : ¬ w6.heap.size = w4.heap.size := (by omega); have hr0_w6 := fun o => hc_w6 (w4.heap.size) o (by (try simp only [size_drew', size_drewN', World.size_alloc, World.size_setCell]); omega); have hg0_w6 := fun o => hf_w6 (w4.heap.size) o (by (try simp only [size_drew', size_drewN', World.size_alloc, World.size_setCell]); omega)))
          have CD : Cs w6 w4.heap.size [.bool n, .string T, .int .i64 Y] := ⟨by omega, fun k hk => (hr0_w6 k).trans (by
            rcases k with _ | _ | _ | k
            · rw [hr0_w5]; simp [go_sem]
            · rw [hr0_w5]; simp [go_sem]
            · rw [hr0_w5]; simp [go_sem]
            · simp at hk; omega)⟩
          have CX := CD.on (Below.refl _ _)
          have CDX := CD.alloc (.cells #[.bool n, .string T, .int .i64 Y] 25)
          have CZX : Cs (w6.alloc (.cells #[.bool n, .string T, .int .i64 Y] 25)) w6.heap.size [.bool n, .string T, .int .i64 Y] := Cs.new w6 _ _
          have HBX : Below w.heap.size w (w6.alloc (.cells #[.bool n, .string T, .int .i64 Y] 25)) := by (repeat (first | exact Below.refl _ _ | assumption | refine Below.setCell ?_ (by first | omega | (simp <;> omega)) _ | refine Below.alloc ?_ (by first | omega | (simp <;> omega)) _ | refine Below.drew ?_ | refine below_drewN' ?_ _))
          obtain ⟨X6, hX6⟩ : ∃ X, X = w6.alloc (.cells #[.bool n, .string T, .int .i64 Y] 25) := ⟨_, rfl⟩
          obtain ⟨bd, hbd⟩ : ∃ b, b = w4.heap.size := ⟨_, rfl⟩
          obtain ⟨bz, hbz⟩ : ∃ b, b = w6.heap.size := ⟨_, rfl⟩
          rw [← hX6, ← hbd] at CDX
          rw [← hX6, ← hbz] at CZX
          rw [← hX6] at HBX
          rw [← hX6, ← hbd, ← hbz]
          obtain ⟨k, hk8, hkq⟩ : ∃ k : Nat, k < 8 ∧ ((q.tmod 8 = (k : Int) ∧ 0 ≤ q.tmod 8) ∨ (-(q.tmod 8) = (k : Int) ∧ q.tmod 8 < 0)) := by
            have h1 := Int.tmod_lt_of_pos q (show (0 : Int) < 8 by decide)
            have h2 := Int.lt_tmod_of_pos q (show (0 : Int) < 8 by decide)
            by_cases h : 0 ≤ q.tmod 8
            · exact ⟨(q.tmod 8).toNat, by omega, Or.inl ⟨by omega, h⟩⟩
            · exact ⟨(-(q.tmod 8)).toNat, by omega, Or.inr ⟨by omega, by omega⟩⟩
          have HCD := Lib.hid CDX; have HCZ := Lib.hid CZX; have HX := Lib.hid HBX
          clear hX6 hbd hbz CX CD CDX CZX HBX hr0_w6 hr0_w5 hc_w6 hc_w5 hc_w4 hf_w6 hf_w5 hf_w4 hb_w6 hb_w5 hb_w4 hB_w6 hB_w5 hB_w4 hg0_w6 hg0_w5 hl0_w6 hm0_w6 hn0_w6 hq0_w6 hl0_w5 hm0_w5 hn0_w5 hq0_w5 hz_w6 hz_w5 hz_w4 H4 H5 H6
          go_cut [15] (fun kv w' => kv = .int .i64 (k : Nat) ∧ w' = X6)
          case first =>
            rcases hkq with ⟨h1, h2⟩ | ⟨h1, h2⟩
            · go_wp2
              go_meet
              exact ⟨by rw [h1], rfl⟩
            · have h3 : wrap64 (-(q.tmod 8)) = (k : Int) := by rw [h1]; unfold wrap64; omega
              go_wp2
              go_meet
              exact ⟨by first | rfl | rw [h3] | rw [h1], rfl⟩
          case rest => as_aux_lemma =>
            obtain ⟨rfl, hwc⟩ := hcut
            rw [hwc]
            clear hwc hkq
            have HBx := HX.out
            have hzX := HBx.size
            have xdl := HCD.out.1
            have xzl := HCZ.out.1
            have z0 := HCZ.out.get 0 rfl
            have z1 := HCZ.out.get 1 rfl
            have z2 := HCZ.out.get 2 rfl
            have d0 := HCD.out.get 0 rfl
            have d1 := HCD.out.get 1 rfl
            have d2 := HCD.out.get 2 rfl
            obtain ⟨y, hyl, hye, hcase⟩ := HEI.out (by omega) (by omega)
            have h8 := H8.out
            rw [← hye] at h8
            have H8' := Lib.hid h8
            have hsp := fun w1 => r3_split_any y hyl w1
            obtain ⟨ny, hny⟩ : ∃ b, b = Fl.neg y := ⟨_, rfl⟩
            obtain ⟨my, hmy⟩ : ∃ b, b = Fl.mant y := ⟨_, rfl⟩
            obtain ⟨py, hpy⟩ : ∃ b, b = Fl.expn y := ⟨_, rfl⟩
            rw [← hny, ← hmy, ← hpy] at hsp hcase
            have HSP := Lib.hid hsp
            have HCA := Lib.hid hcase
            clear h8 H8 hsp hcase hny hmy hpy hye HEI HBx
            cases ny with
            | true =>
              go_wp2_with (first
                | (go_at_call 21; (with_reducible refine (H8'.out _).mono ?_); rintro e w7 ⟨rfl, hb_w7⟩; have hB_w7 : Below (X6).heap.size (X6) w7 := Below.trans (by (repeat (first | exact Below.refl _ _ | assumption | refine Below.setCell ?_ (by first | omega | (simp <;> omega)) _ | refine Below.alloc ?_ (by first | omega | (simp <;> omega)) _ | refine Below.drew ?_ | refine below_drewN' ?_ _))) (hb_w7.mono (by first | omega | (simp <;> omega))); obtain ⟨hc_w7, hf_w7⟩ := bcell hb_w7; have hz_w7 := hb_w7.size; (try simp only [size_drew', size_drewN', World.size_alloc, World.size_setCell] at hz_w7); have hl0_w7 : bd < w7.heap.size := (by omega); have hm0_w7 : bd ≤ w7.heap.size := (by omega); have hn0_w7 : ¬ bd = w7.heap.size := (by omega); have hq0_w7 : ¬ w7.heap.size = bd := (by omega); have hr0_w7 := fun o => hc_w7 (bd) o (by (try simp only [size_drew', size_drewN', World.size_alloc, World.size_setCell]); omega); have hg0_w7 := fun o => hf_w7 (bd) o (by (try simp only [size_drew', size_drewN', World.size_alloc, World.size_setCell]); omega); have hBW : Below w.heap.size w w7 := HX.out.trans (hB_w7.mono hzX))
                | (go_at_call 27; (with_reducible refine (HSP.out _).mono ?_); rintro e w' ⟨rfl, rfl⟩))
              go_ret
              exact RetB.of rfl (by (repeat (first | exact Below.refl _ _ | assumption | refine Below.setCell ?_ (by first | omega | (simp <;> omega)) _ | refine Below.alloc ?_ (by first | omega | (simp <;> omega)) _ | refine Below.drew ?_ | refine below_drewN' ?_ _)))
            | false =>
              by_cases c2 : -3 < py
              · skip
                go_wp2_with (first
                  | (go_at_call 21; (with_reducible refine (H8'.out _).mono ?_); rintro e w7 ⟨rfl, hb_w7⟩; have hB_w7 : Below (X6).heap.size (X6) w7 := Below.trans (by (repeat (first | exact Below.refl _ _ | assumption | refine Below.setCell ?_ (by first | omega | (simp <;> omega)) _ | refine Below.alloc ?_ (by first | omega | (simp <;> omega)) _ | refine Below.drew ?_ | refine below_drewN' ?_ _))) (hb_w7.mono (by first | omega | (simp <;> omega))); obtain ⟨hc_w7, hf_w7⟩ := bcell hb_w7; have hz_w7 := hb_w7.size; (try simp only [size_drew', size_drewN', World.size_alloc, World.size_setCell] at hz_w7); have hl0_w7 : bd < w7.heap.size := (by omega); have hm0_w7 : bd ≤ w7.heap.size := (by omega); have hn0_w7 : ¬ bd = w7.heap.size := (by omega); have hq0_w7 : ¬ w7.heap.size = bd := (by omega); have hr0_w7 := fun o => hc_w7 (bd) o (by (try simp only [size_drew', size_drewN', World.size_alloc, World.size_setCell]); omega); have hg0_w7 := fun o => hf_w7 (bd) o (by (try simp only [size_drew', size_drewN', World.size_alloc, World.size_setCell]); omega); have hBW : Below w.heap.size w w7 := HX.out.trans (hB_w7.mono hzX))
                  | (go_at_call 27; (with_reducible refine (HSP.out _).mono ?_); rintro e w' ⟨rfl, rfl⟩))
                go_ret
                exact RetB.of rfl (by (repeat (first | exact Below.refl _ _ | assumption | refine Below.setCell ?_ (by first | omega | (simp <;> omega)) _ | refine Below.alloc ?_ (by first | omega | (simp <;> omega)) _ | refine Below.drew ?_ | refine below_drewN' ?_ _)))
              · by_cases c3 : my = 0
                · skip
                  have c3' : ((my : Int) == 0) = true := by rw [c3]; rfl
                  clear c3
                  go_wp2_with (first
                    | (go_at_call 21; (with_reducible refine (H8'.out _).mono ?_); rintro e w7 ⟨rfl, hb_w7⟩; have hB_w7 : Below (X6).heap.size (X6) w7 := Below.trans (by (repeat (first | exact Below.refl _ _ | assumption | refine Below.setCell ?_ (by first | omega | (simp <;> omega)) _ | refine Below.alloc ?_ (by first | omega | (simp <;> omega)) _ | refine Below.drew ?_ | refine below_drewN' ?_ _))) (hb_w7.mono (by first | omega | (simp <;> omega))); obtain ⟨hc_w7, hf_w7⟩ := bcell hb_w7; have hz_w7 := hb_w7.size; (try simp only [size_drew', size_drewN', World.size_alloc, World.size_setCell] at hz_w7); have hl0_w7 : bd < w7.heap.size := (by omega); have hm0_w7 : bd ≤ w7.heap.size := (by omega); have hn0_w7 : ¬ bd = w7.heap.size := (by omega); have hq0_w7 : ¬ w7.heap.size = bd := (by omega); have hr0_w7 := fun o => hc_w7 (bd) o (by (try simp only [size_drew', size_drewN', World.size_alloc, World.size_setCell]); omega); have hg0_w7 := fun o => hf_w7 (bd) o (by (try simp only [size_drew', size_drewN', World.size_alloc, World.size_setCell]); omega); have hBW : Below w.heap.size w w7 := HX.out.trans (hB_w7.mono hzX))
                    | (go_at_call 27; (with_reducible refine (HSP.out _).mono ?_); rintro e w' ⟨rfl, rfl⟩))
                  go_ret
                  exact RetB.of rfl (by (repeat (first | exact Below.refl _ _ | assumption | refine Below.setCell ?_ (by first | omega | (simp <;> omega)) _ | refine Below.alloc ?_ (by first | omega | (simp <;> omega)) _ | refine Below.drew ?_ | refine below_drewN' ?_ _)))
                · have hm4 : ∃ t m : Nat, 3 ≤ t ∧ t ≤ 52 ∧ py = -(t : Int) ∧ my = m ∧ 0 < m ∧ ∀ k, k < 8 → m + k * 2 ^ (t - 3) < 9007199254740992 ∧
                      ∃ W, Fl.rd (m + k * 2 ^ (t - 3)) (-(t : Int)) false = W ∧ W < 9218868437227405312 ∧ ∃ p q : Nat, Fl.ratio W M = ⟨⟨n, m_, Y, 0⟩, p, q, 0⟩ ∧ p * 8 = k * q := by
                    rcases HCA.out with h | h | h | ⟨-, h⟩
                    · cases h
                    · exact absurd h c2
                    · exact absurd h c3
                    · exact h
                  obtain ⟨t, m, ht3, ht52, hpt, rfl, hm0, hall⟩ := hm4
                  obtain ⟨s, rfl⟩ : ∃ s, t = s + 3 := ⟨t - 3, by omega⟩
                  obtain ⟨hRl, W, hW, hWl, p', q', hrat, hpq⟩ := hall k hk8
                  rw [Nat.add_sub_cancel] at hRl hW
                  rw [← hpt] at hW
                  have hneg3 : -py - 3 = (s : Int) := by omega
                  have hsh : IntKind.u64.wrap ((k : Int) * 2 ^ s) = ((k * 2 ^ s : Nat) : Int) := by
                    have e : ((k : Int) * 2 ^ s) = ((k * 2 ^ s : Nat) : Int) := by simp
                    rw [e, IntKind.wrap_u64]; omega
                  obtain ⟨K2, hK2⟩ : ∃ K, K = k * 2 ^ s := ⟨_, rfl⟩
                  rw [← hK2] at hRl hW hsh
                  obtain ⟨R, hR⟩ : ∃ R, R = my + K2 := ⟨_, rfl⟩
                  have hsum : (my : Int) + (K2 : Int) = (R : Int) := by omega
                  rw [← hR] at hRl hW
                  have hlen : (Na.limbs R).length ≤ 5000 := Nat.le_trans (Na.limbs_len_le R 2 (Nat.lt_of_lt_of_le hRl (by decide))) (by decide)
                  have h9 := fun w1 => r3_nat_any R (by omega) w1
                  have h10 := fun w1 a c (sl : Sl w1 a c (Na.limbs R)) (z : a = none → c = 0) => r3_round_any false a c R py false w1 sl z hlen (by omega)
                  rw [hW] at h10
                  simp only [Bool.false_eq_true, if_false, Nat.zero_add] at h10
                  have h11 := HR.out W p' q' (by omega) hrat
                  obtain ⟨l9, X9, p9, q9, g1, g2, g3, g4, g5, g6, g7⟩ := Fl.ratio_fine W (Fl.parts_of hWl).1 M ⟨Ma, Mb⟩
                  rw [hrat] at g1
                  injection g1 with g1a g1b g1c g1d
                  have hqb : q' ≤ 200 := by omega
                  have hpb : p' ≤ 200 := by omega
                  have hkq : k * q' ≤ 7 * 200 := Nat.mul_le_mul (by omega) hqb
                  obtain ⟨E, hE⟩ : ∃ E, E = k * q' := ⟨_, rfl⟩
                  have e1 : (k : Int) * (q' : Int) = (E : Int) := by rw [hE]; simp
                  have e2 : (p' : Int) * 8 = (E : Int) := by rw [hE, ← hpq]; simp
                  have hEb : E ≤ 1400 := by omega
                  have c3' : ((my : Int) == 0) = false := by simp only [beq_eq_false_iff_ne, ne_eq]; omega
                  have c2' : decide (-3 < py) = false := decide_eq_false c2
                  have pyb : -55 ≤ py ∧ py ≤ -3 := by omega
                  obtain ⟨pyb1, pyb2⟩ := pyb
                  have H9 := Lib.hid h9; have H10 := Lib.hid h10; have H11 := Lib.hid h11
                  clear h9 h10 h11 HR HCA hpt hall hW hrat hpq hK2 hR hlen g1a g1b g1c g1d g2 g3 g4 g5 g6 g7 hkq hE c3
                  go_wp2_with (first
                    | (go_at_call 21; (with_reducible refine (H8'.out _).mono ?_); rintro e w7 ⟨rfl, hb_w7⟩; have hB_w7 : Below (X6).heap.size (X6) w7 := Below.trans (by (repeat (first | exact Below.refl _ _ | assumption | refine Below.setCell ?_ (by first | omega | (simp <;> omega)) _ | refine Below.alloc ?_ (by first | omega | (simp <;> omega)) _ | refine Below.drew ?_ | refine below_drewN' ?_ _))) (hb_w7.mono (by first | omega | (simp <;> omega))); obtain ⟨hc_w7, hf_w7⟩ := bcell hb_w7; have hz_w7 := hb_w7.size; (try simp only [size_drew', size_drewN', World.size_alloc, World.size_setCell] at hz_w7); have hl0_w7 : bd < w7.heap.size := (by omega); have hm0_w7 : bd ≤ w7.heap.size := (by omega); have hn0_w7 : ¬ bd = w7.heap.size := (by omega); have hq0_w7 : ¬ w7.heap.size = bd := (by omega); have hr0_w7 := fun o => hc_w7 (bd) o (by (try simp only [size_drew', size_drewN', World.size_alloc, World.size_setCell]); omega); have hg0_w7 := fun o => hf_w7 (bd) o (by (try simp only [size_drew', size_drewN', World.size_alloc, World.size_setCell]); omega); have hBW : Below w.heap.size w w7 := HX.out.trans (hB_w7.mono hzX); have hz7 := hBW.size)
                    | (go_at_call 27; (with_reducible refine (HSP.out _).mono ?_); rintro e w' ⟨rfl, rfl⟩)
                    | (go_at_call 29; (with_reducible refine (H9.out _).mono ?_); rintro e w8 ⟨a1, c1, rfl, s1, zz1, r1, hb8⟩; have hB8 : Below w.heap.size w w8 := hBW.trans (hb8.mono hz7); have hz8 := hb8.size; have hr0_w8 := fun o => (bcell hb8).1 bd o (by omega); have hz8' := hB8.size)
                    | (go_at_call 28; (with_reducible refine (H10.out _ _ _ s1 zz1).mono ?_); rintro e w9 ⟨rfl, hb_w9⟩; have hB_w9 : Below (w).heap.size (w) w9 := Below.trans (by (repeat (first | exact Below.refl _ _ | assumption | refine Below.setCell ?_ (by first | omega | (simp <;> omega)) _ | refine Below.alloc ?_ (by first | omega | (simp <;> omega)) _ | refine Below.drew ?_ | refine below_drewN' ?_ _))) (hb_w9.mono (by first | omega | (simp <;> omega))); obtain ⟨hc_w9, hf_w9⟩ := bcell hb_w9; have hz_w9 := hb_w9.size; (try simp only [size_drew', size_drewN', World.size_alloc, World.size_setCell] at hz_w9); have hl0_w9 : bd < w9.heap.size := (by omega); have hm0_w9 : bd ≤ w9.heap.size := (by omega); have hn0_w9 : ¬ bd = w9.heap.size := (by omega); have hq0_w9 : ¬ w9.heap.size = bd := (by omega); have hr0_w9 := fun o => hc_w9 (bd) o (by (try simp only [size_drew', size_drewN', World.size_alloc, World.size_setCell]); omega); have hg0_w9 := fun o => hf_w9 (bd) o (by (try simp only [size_drew', size_drewN', World.size_alloc, World.size_setCell]); omega))
                    | (go_at_call 22; (with_reducible refine (H11.out _ (by (repeat (first | exact Below.refl _ _ | assumption | refine Below.setCell ?_ (by first | omega | (simp <;> omega)) _ | refine Below.alloc ?_ (by first | omega | (simp <;> omega)) _ | refine Below.drew ?_ | refine below_drewN' ?_ _)))).mono ?_); rintro e w10 ⟨rfl, hb_w10⟩; have hB_w10 : Below (w).heap.size (w) w10 := Below.trans (by (repeat (first | exact Below.refl _ _ | assumption | refine Below.setCell ?_ (by first | omega | (simp <;> omega)) _ | refine Below.alloc ?_ (by first | omega | (simp <;> omega)) _ | refine Below.drew ?_ | refine below_drewN' ?_ _))) (hb_w10.mono (by first | omega | (simp <;> omega))); obtain ⟨hc_w10, hf_w10⟩ := bcell hb_w10; have hz_w10 := hb_w10.size; (try simp only [size_drew', size_drewN', World.size_alloc, World.size_setCell] at hz_w10); have hl0_w10 : bd < w10.heap.size := (by omega); have hm0_w10 : bd ≤ w10.heap.size := (by omega); have hn0_w10 : ¬ bd = w10.heap.size := (by omega); have hq0_w10 : ¬ w10.heap.size = bd := (by omega); have hr0_w10 := fun o => hc_w10 (bd) o (by (try simp only [size_drew', size_drewN', World.size_alloc, World.size_setCell]); omega); have hg0_w10 := fun o => hf_w10 (bd) o (by (try simp only [size_drew', size_drewN', World.size_alloc, World.size_setCell]); omega)))
                  go_ret
                  exact RetB.of rfl (by (repeat (first | exact Below.refl _ _ | assumption | refine Below.setCell ?_ (by first | omega | (simp <;> omega)) _ | refine Below.alloc ?_ (by first | omega | (simp <;> omega)) _ | refine Below.drew ?_ | refine below_drewN' ?_ _)))

theorem l9_lowest_any (x : Nat) (most q : Int) (w : World) (ht : Tab w) (hx : x < 18446744073709551616) (hm : -9223372036854775808 ≤ most ∧ most ≤ 9223372036854775807) (hq : -9223372036854775808 ≤ q ∧ q ≤ 9223372036854775807) :
    Calls Tryz.prog 4 #[.int .u64 x, .int .i64 most, .int .i64 q] w (RetB (.bool true) w) := by
  by_cases hk : 3 ≤ Fl.kind x
  · exact l9_lowest_none x most q w ht hx hm hk
  · by_cases h1 : most < 1
    · exact l9_lowest_arg x most q w ht hx ⟨hm.1, h1⟩ (by omega)
    · by_cases h2 : 200 < most
      · exact l9_lowest_fine x most 200 q w ht hx hm hq (by omega) (Or.inl ⟨h2, rfl⟩)
      · exact l9_lowest_fine x most most q w ht hx hm hq (by omega) (Or.inr ⟨by omega, by omega, rfl⟩)
end Go.Proofs.YtjnkbifafbjckaaGreatDoor
