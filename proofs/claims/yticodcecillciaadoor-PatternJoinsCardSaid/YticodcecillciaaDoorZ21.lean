/- The statement PatternJoins: where the patterns are too long together, or words. (Printed by gen/mkl83.py.) -/
import Derived.Test.YticodcecillciaaDoorZ20
import Derived.StillTailTactics
namespace Go.Proofs.YticodcecillciaaDoor
set_option linter.all false
open Go.RowKit

theorem parse_one {s : ByteArray} (hs : s.size ≤ 1000) (h : (Pa.parse s).1.length = 1) : ∃ a, Pa.parse s = ([a], 0, 0) := by
  rw [parse_eq s hs] at h ⊢
  unfold endR at h ⊢
  generalize (Pa.loop s (s.size + 1) st1).bind Pa.fin = r at h ⊢
  cases r with
  | error x => simp at h
  | ok st =>
    simp only at h ⊢
    match e : st.secs, h with
    | [a], _ => exact ⟨a, rfl⟩
/-- What is read is no longer than a pattern may be. -/
theorem parse_len {s : ByteArray} {a : Pa.Sec} (hs : s.size ≤ 1000) (h : Pa.parse s = ([a], 0, 0)) : a.items.length ≤ 100 := by
  rw [parse_eq s hs] at h
  obtain ⟨e, l, s1, _⟩ := Pa.end_one h
  have o := ok_st1 s hs
  have g := (Pa.loop_grows _ o l).tot rfl
  have hk : ∀ (f : Nat) {st e : Pa.St}, Ok s st → Pa.loop s f st = .ok e → Ok s e := by
    intro f
    induction f with
    | zero => intro st e h he; injection he with he; subst he; exact h
    | succ f ih =>
      intro st e h he
      unfold Pa.loop at he
      split at he
      · rename_i hlt
        obtain ⟨st', e1, e2⟩ := bind_inv he
        exact ih (h.one hlt e1).1 e2
      · injection he with he; subst he; exact h
  have hh := (hk _ o l).fit.hundred
  rw [s1, Pa.total_cons] at g
  have : Pa.total [] = 0 := rfl
  omega
theorem parse_first1 (s : ByteArray) (w : World) (hu : U8 w) (a : Pa.Sec) (na : Nat) (S : Int) (hna : na = a.items.length) (hS : S = Pa.shape a) (hs : s.size ≤ 1000) (hp : Pa.parse s = ([a], 0, 0)) :
    Calls Tryd.prog 15 #[.string s] w (fun e w' => ∃ b o cc ai ci, e = .returned (.tuple #[.agg #[.slice (some ⟨b, o, none⟩) 1 cc], .int .i64 0, .int .i64 0]) ∧ b < w'.heap.size ∧
      w'.cell? ⟨b, o, none⟩ = some (.slice ai na ci) ∧ w'.cell? ⟨b, o + 1, none⟩ = some (.bool a.grouped) ∧ w'.cell? ⟨b, o + 2, none⟩ = some (.int .i64 a.scale) ∧
      (∀ W, Below w'.heap.size w' W → Calls Tryd.prog 9 #[.agg #[.slice ai na ci, .bool a.grouped, .int .i64 a.scale]] W (RetB (.int .i64 S) W)) ∧ SecsAt w' w'.heap.size (.slice (some ⟨b, o, none⟩) 1 cc) [a] ∧ Below w.heap.size w w') := by
  subst hna hS
  exact parse_first s w hu [a] 0 0 hp (by simp) (fun k hk => by
    have : k = 0 := by simp at hk; omega
    subst this
    exact parse_len hs hp)


set_option maxRecDepth 100000 in
set_option maxHeartbeats 16000000 in
theorem l13_joins_many (s t : ByteArray) (a b : Pa.Sec) (w : World) (hu : U8 w) (hm : MaxL w) (hs : s.size ≤ 490) (ht : t.size ≤ 490) (h1 : Pa.parse s = ([a], 0, 0)) (h2 : Pa.parse t = ([b], 0, 0))
    (h : 100 < a.items.length + b.items.length) :
    Calls Tryd.prog 5 #[.string s, .string t] w (RetB (.bool true) w) := by
  have hsh := l13_shown_any w hu hm
  obtain ⟨na, hna⟩ : ∃ n, n = a.items.length := ⟨_, rfl⟩
  obtain ⟨nb, hnb⟩ : ∃ n, n = b.items.length := ⟨_, rfl⟩
  obtain ⟨SA, hSA⟩ : ∃ n, n = Pa.shape a := ⟨_, rfl⟩
  obtain ⟨SB, hSB⟩ : ∃ n, n = Pa.shape b := ⟨_, rfl⟩
  have l1 := parse_len (by omega) h1
  have l2 := parse_len (by omega) h2
  have hp1 := fun (W : World) (hW : Below w.heap.size w W) => parse_first1 s W (hu.on hW) a na SA hna hSA (by omega) h1
  have hp2 := fun (W : World) (hW : Below w.heap.size w W) => parse_first1 t W (hu.on hW) b nb SB hnb hSB (by omega) h2
  have i1 : ¬ (490 : Int) < (s.size : Int) := by omega
  have i2 : ¬ (490 : Int) < (t.size : Int) := by omega
  have j1 : (na : Int) ≤ 100 := by omega
  have j2 : (nb : Int) ≤ 100 := by omega
  have j3 : (100 : Int) < (na : Int) + (nb : Int) := by omega
  generalize a.grouped = gA at *
  generalize a.scale = sA at *
  generalize b.grouped = gB at *
  generalize b.scale = sB at *
  have HSH := Lib.hid hsh; have HP1 := Lib.hid hp1; have HP2 := Lib.hid hp2
  clear hsh hp1 hp2 hu hm hs ht hna hnb hSA hSB h1 h2 l1 l2
  go_enter Tryd.func5, Tryd.ntmps5
  go_wp2_with (first
    | (go_at_call 6; (with_reducible refine (HSH.out).mono ?_); rintro e w1 ⟨rfl, hb_w1⟩)
    | (go_at_call 15; (with_reducible refine (HP1.out _ (by first | assumption | (repeat (first | exact Below.refl _ _ | assumption | refine Below.setCell ?_ (by first | omega | (simp <;> omega)) _ | refine Below.alloc ?_ (by first | omega | (simp <;> omega)) _ | refine Below.drew ?_ | refine below_drewN' ?_ _)))).mono ?_); rintro e w2 ⟨b1, o1, cc1, ai, ci, rfl, hlt1, d0, d1, d2, hsh1, hsec1, hb_w2⟩; have hB2 : Below w.heap.size w w2 := Below.next (by first | assumption | (repeat (first | exact Below.refl _ _ | assumption | refine Below.setCell ?_ (by first | omega | (simp <;> omega)) _ | refine Below.alloc ?_ (by first | omega | (simp <;> omega)) _ | refine Below.drew ?_ | refine below_drewN' ?_ _))) hb_w2; have hz2 := hB2.size; have HSA := Lib.hid hsh1; have HSEA := Lib.hid hsec1; clear hsh1 hsec1)
    | (go_at_call 15; (with_reducible refine (HP2.out _ (by first | (exact hB2.alloc hz2 _) | (repeat (first | exact Below.refl _ _ | assumption | refine Below.setCell ?_ (by first | omega | (simp <;> omega)) _ | refine Below.alloc ?_ (by first | omega | (simp <;> omega)) _ | refine Below.drew ?_ | refine below_drewN' ?_ _)))).mono ?_); rintro e w3 ⟨b2, o2, cc2, aj, cj, rfl, hlt2, g0, g1, g2, hsh2, hsec2, hb_w3⟩; have hB3 : Below w.heap.size w w3 := (hB2.alloc hz2 _).trans (hb_w3.mono (by simp only [World.size_alloc]; omega)); have hz3 := hB3.size; have hz23 := hb_w3.size; (try simp only [World.size_alloc] at hz23); have hb23 : Below w2.heap.size w2 w3 := ((Below.refl _ _).alloc (Nat.le_refl _) _).trans (hb_w3.mono (by simp)); have cx : w3.cell? ⟨w2.heap.size, 0, none⟩ = some (.slice (some ⟨b1, o1, none⟩) 1 cc1) := (hb_w3.cell (p := ⟨w2.heap.size, 0, none⟩) (by simp)).trans (by simp [go_sem]); have lx : w2.heap.size < w3.heap.size := (by omega); have nx : ¬ w2.heap.size = w3.heap.size := (by omega); have x0 := (hb23.cell (p := ⟨b1, o1, none⟩) hlt1).trans d0; have x1 := (hb23.cell (p := ⟨b1, o1 + 1, none⟩) hlt1).trans d1; have x2 := (hb23.cell (p := ⟨b1, o1 + 2, none⟩) hlt1).trans d2; have lb1 : b1 < w3.heap.size := (by omega); have nb1 : ¬ b1 = w3.heap.size := (by omega); have nb2 : ¬ b2 = w3.heap.size := (by omega); have HSB := Lib.hid hsh2; have HSEB := Lib.hid hsec2; have H23 := Lib.hid hb23; clear hsh2 hsec2 hb23 d0 d1 d2))
  go_quiet (fail)
  go_wp2_with fail
  go_ret
  exact RetB.of rfl (by first | (exact below_drewN' (hB3.alloc hz3 _) _) | (repeat (first | exact Below.refl _ _ | assumption | refine Below.setCell ?_ (by first | omega | (simp <;> omega)) _ | refine Below.alloc ?_ (by first | omega | (simp <;> omega)) _ | refine Below.drew ?_ | refine below_drewN' ?_ _)))


set_option maxRecDepth 100000 in
set_option maxHeartbeats 16000000 in
theorem l13_joins_wordsA (s t : ByteArray) (a b : Pa.Sec) (w : World) (hu : U8 w) (hm : MaxL w) (hs : s.size ≤ 490) (ht : t.size ≤ 490) (h1 : Pa.parse s = ([a], 0, 0)) (h2 : Pa.parse t = ([b], 0, 0))
    (h : ¬ 100 < a.items.length + b.items.length) (h6 : Pa.shape a = 6) :
    Calls Tryd.prog 5 #[.string s, .string t] w (RetB (.bool true) w) := by
  have hsh := l13_shown_any w hu hm
  obtain ⟨na, hna⟩ : ∃ n, n = a.items.length := ⟨_, rfl⟩
  obtain ⟨nb, hnb⟩ : ∃ n, n = b.items.length := ⟨_, rfl⟩
  obtain ⟨SA, hSA⟩ : ∃ n, n = Pa.shape a := ⟨_, rfl⟩
  obtain ⟨SB, hSB⟩ : ∃ n, n = Pa.shape b := ⟨_, rfl⟩
  have l1 := parse_len (by omega) h1
  have l2 := parse_len (by omega) h2
  have hp1 := fun (W : World) (hW : Below w.heap.size w W) => parse_first1 s W (hu.on hW) a na SA hna hSA (by omega) h1
  have hp2 := fun (W : World) (hW : Below w.heap.size w W) => parse_first1 t W (hu.on hW) b nb SB hnb hSB (by omega) h2
  have i1 : ¬ (490 : Int) < (s.size : Int) := by omega
  have i2 : ¬ (490 : Int) < (t.size : Int) := by omega
  have j1 : (na : Int) ≤ 100 := by omega
  have j2 : (nb : Int) ≤ 100 := by omega
  have j3 : ¬ (100 : Int) < (na : Int) + (nb : Int) := by omega
  obtain rfl : SA = 6 := by rw [hSA, h6]
  clear h6 h
  generalize a.grouped = gA at *
  generalize a.scale = sA at *
  generalize b.grouped = gB at *
  generalize b.scale = sB at *
  have HSH := Lib.hid hsh; have HP1 := Lib.hid hp1; have HP2 := Lib.hid hp2
  clear hsh hp1 hp2 hu hm hs ht hna hnb hSB h1 h2 l1 l2
  go_enter Tryd.func5, Tryd.ntmps5
  go_wp2_with (first
    | (go_at_call 6; (with_reducible refine (HSH.out).mono ?_); rintro e w1 ⟨rfl, hb_w1⟩)
    | (go_at_call 15; (with_reducible refine (HP1.out _ (by first | assumption | (repeat (first | exact Below.refl _ _ | assumption | refine Below.setCell ?_ (by first | omega | (simp <;> omega)) _ | refine Below.alloc ?_ (by first | omega | (simp <;> omega)) _ | refine Below.drew ?_ | refine below_drewN' ?_ _)))).mono ?_); rintro e w2 ⟨b1, o1, cc1, ai, ci, rfl, hlt1, d0, d1, d2, hsh1, hsec1, hb_w2⟩; have hB2 : Below w.heap.size w w2 := Below.next (by first | assumption | (repeat (first | exact Below.refl _ _ | assumption | refine Below.setCell ?_ (by first | omega | (simp <;> omega)) _ | refine Below.alloc ?_ (by first | omega | (simp <;> omega)) _ | refine Below.drew ?_ | refine below_drewN' ?_ _))) hb_w2; have hz2 := hB2.size; have HSA := Lib.hid hsh1; have HSEA := Lib.hid hsec1; clear hsh1 hsec1)
    | (go_at_call 15; (with_reducible refine (HP2.out _ (by first | (exact hB2.alloc hz2 _) | (repeat (first | exact Below.refl _ _ | assumption | refine Below.setCell ?_ (by first | omega | (simp <;> omega)) _ | refine Below.alloc ?_ (by first | omega | (simp <;> omega)) _ | refine Below.drew ?_ | refine below_drewN' ?_ _)))).mono ?_); rintro e w3 ⟨b2, o2, cc2, aj, cj, rfl, hlt2, g0, g1, g2, hsh2, hsec2, hb_w3⟩; have hB3 : Below w.heap.size w w3 := (hB2.alloc hz2 _).trans (hb_w3.mono (by simp only [World.size_alloc]; omega)); have hz3 := hB3.size; have hz23 := hb_w3.size; (try simp only [World.size_alloc] at hz23); have hb23 : Below w2.heap.size w2 w3 := ((Below.refl _ _).alloc (Nat.le_refl _) _).trans (hb_w3.mono (by simp)); have cx : w3.cell? ⟨w2.heap.size, 0, none⟩ = some (.slice (some ⟨b1, o1, none⟩) 1 cc1) := (hb_w3.cell (p := ⟨w2.heap.size, 0, none⟩) (by simp)).trans (by simp [go_sem]); have lx : w2.heap.size < w3.heap.size := (by omega); have nx : ¬ w2.heap.size = w3.heap.size := (by omega); have x0 := (hb23.cell (p := ⟨b1, o1, none⟩) hlt1).trans d0; have x1 := (hb23.cell (p := ⟨b1, o1 + 1, none⟩) hlt1).trans d1; have x2 := (hb23.cell (p := ⟨b1, o1 + 2, none⟩) hlt1).trans d2; have lb1 : b1 < w3.heap.size := (by omega); have nb1 : ¬ b1 = w3.heap.size := (by omega); have nb2 : ¬ b2 = w3.heap.size := (by omega); have HSB := Lib.hid hsh2; have HSEB := Lib.hid hsec2; have H23 := Lib.hid hb23; clear hsh2 hsec2 hb23 d0 d1 d2))
  have HW : Below w2.heap.size w2 (w3.alloc (.cells #[.slice (some ⟨b2, o2, none⟩) 1 cc2] 24)).drew := (H23.out.alloc (by omega) _).drew
  have y0 : (w3.alloc (.cells #[.slice (some ⟨b2, o2, none⟩) 1 cc2] 24)).drew.cell? ⟨w2.heap.size, 0, none⟩ = some (.slice (some ⟨b1, o1, none⟩) 1 cc1) := (World.cell?_alloc_past _ _ _ lx).trans cx
  have y1 : (w3.alloc (.cells #[.slice (some ⟨b2, o2, none⟩) 1 cc2] 24)).drew.cell? ⟨w3.heap.size, 0, none⟩ = some (.slice (some ⟨b2, o2, none⟩) 1 cc2) := by simp [go_sem]
  have y2 : (w3.alloc (.cells #[.slice (some ⟨b2, o2, none⟩) 1 cc2] 24)).drew.cell? ⟨b1, o1, none⟩ = some (.slice ai na ci) := (World.cell?_alloc_past _ _ _ lb1).trans x0
  have y3 : (w3.alloc (.cells #[.slice (some ⟨b2, o2, none⟩) 1 cc2] 24)).drew.cell? ⟨b1, o1 + 1, none⟩ = some (.bool gA) := (World.cell?_alloc_past _ _ _ lb1).trans x1
  have y4 : (w3.alloc (.cells #[.slice (some ⟨b2, o2, none⟩) 1 cc2] 24)).drew.cell? ⟨b1, o1 + 2, none⟩ = some (.int .i64 sA) := (World.cell?_alloc_past _ _ _ lb1).trans x2
  have y5 : (w3.alloc (.cells #[.slice (some ⟨b2, o2, none⟩) 1 cc2] 24)).drew.cell? ⟨b2, o2, none⟩ = some (.slice aj nb cj) := (World.cell?_alloc_past _ _ _ hlt2).trans g0
  have y6 : (w3.alloc (.cells #[.slice (some ⟨b2, o2, none⟩) 1 cc2] 24)).drew.cell? ⟨b2, o2 + 1, none⟩ = some (.bool gB) := (World.cell?_alloc_past _ _ _ hlt2).trans g1
  have y7 : (w3.alloc (.cells #[.slice (some ⟨b2, o2, none⟩) 1 cc2] 24)).drew.cell? ⟨b2, o2 + 2, none⟩ = some (.int .i64 sB) := (World.cell?_alloc_past _ _ _ hlt2).trans g2
  have k1 : IntKind.i64.wrap ((na : Int) + (nb : Int)) = (na : Int) + (nb : Int) := IntWalk.i64_in _ (by omega)
  have k2 : decide ((100 : Int) < (na : Int) + (nb : Int)) = false := decide_eq_false (by omega)
  have k3 : ∀ o : Nat, o + 0 * 3 = o := fun o => by omega
  refine wp_region_still_tail 19 (by kernel_rfl) (by kernel_rfl) ?_
  simp only [List.take_succ_cons, List.take_zero, List.drop_succ_cons, List.drop_zero]
  change wpStill _ _ (World.drew _) _ _ _
  repeat still_step
  try refine wpStill_nil ?_
  change wpList _ _ _ _ _ (World.drew _)
  go_wp2_with (go_at_call 9; (with_reducible refine (HSA.out _ (by first | exact HW | (repeat (first | exact Below.refl _ _ | assumption | refine Below.setCell ?_ (by first | omega | (simp <;> omega)) _ | refine Below.alloc ?_ (by first | omega | (simp <;> omega)) _ | refine Below.drew ?_ | refine below_drewN' ?_ _)))).mono ?_); rintro e w4 ⟨rfl, hb4⟩)
  go_ret
  exact RetB.of rfl ((hB3.alloc hz3 _).drew.trans (hb4.mono (by simp; omega)))


set_option maxRecDepth 100000 in
set_option maxHeartbeats 16000000 in
theorem l13_joins_wordsB (s t : ByteArray) (a b : Pa.Sec) (w : World) (hu : U8 w) (hm : MaxL w) (hs : s.size ≤ 490) (ht : t.size ≤ 490) (h1 : Pa.parse s = ([a], 0, 0)) (h2 : Pa.parse t = ([b], 0, 0))
    (h : ¬ 100 < a.items.length + b.items.length) (h6 : ¬ Pa.shape a = 6) (h7 : Pa.shape b = 6) :
    Calls Tryd.prog 5 #[.string s, .string t] w (RetB (.bool true) w) := by
  have hsh := l13_shown_any w hu hm
  obtain ⟨na, hna⟩ : ∃ n, n = a.items.length := ⟨_, rfl⟩
  obtain ⟨nb, hnb⟩ : ∃ n, n = b.items.length := ⟨_, rfl⟩
  obtain ⟨SA, hSA⟩ : ∃ n, n = Pa.shape a := ⟨_, rfl⟩
  obtain ⟨SB, hSB⟩ : ∃ n, n = Pa.shape b := ⟨_, rfl⟩
  have l1 := parse_len (by omega) h1
  have l2 := parse_len (by omega) h2
  have hp1 := fun (W : World) (hW : Below w.heap.size w W) => parse_first1 s W (hu.on hW) a na SA hna hSA (by omega) h1
  have hp2 := fun (W : World) (hW : Below w.heap.size w W) => parse_first1 t W (hu.on hW) b nb SB hnb hSB (by omega) h2
  have i1 : ¬ (490 : Int) < (s.size : Int) := by omega
  have i2 : ¬ (490 : Int) < (t.size : Int) := by omega
  have j1 : (na : Int) ≤ 100 := by omega
  have j2 : (nb : Int) ≤ 100 := by omega
  have j3 : ¬ (100 : Int) < (na : Int) + (nb : Int) := by omega
  have j4 : (SA == 6) = false := beq_eq_false_iff_ne.2 (by rw [hSA]; exact h6)
  obtain rfl : SB = 6 := by rw [hSB, h7]
  clear h6 h7 h
  generalize a.grouped = gA at *
  generalize a.scale = sA at *
  generalize b.grouped = gB at *
  generalize b.scale = sB at *
  have HSH := Lib.hid hsh; have HP1 := Lib.hid hp1; have HP2 := Lib.hid hp2
  clear hsh hp1 hp2 hu hm hs ht hna hnb hSA h1 h2 l1 l2
  go_enter Tryd.func5, Tryd.ntmps5
  go_wp2_with (first
    | (go_at_call 6; (with_reducible refine (HSH.out).mono ?_); rintro e w1 ⟨rfl, hb_w1⟩)
    | (go_at_call 15; (with_reducible refine (HP1.out _ (by first | assumption | (repeat (first | exact Below.refl _ _ | assumption | refine Below.setCell ?_ (by first | omega | (simp <;> omega)) _ | refine Below.alloc ?_ (by first | omega | (simp <;> omega)) _ | refine Below.drew ?_ | refine below_drewN' ?_ _)))).mono ?_); rintro e w2 ⟨b1, o1, cc1, ai, ci, rfl, hlt1, d0, d1, d2, hsh1, hsec1, hb_w2⟩; have hB2 : Below w.heap.size w w2 := Below.next (by first | assumption | (repeat (first | exact Below.refl _ _ | assumption | refine Below.setCell ?_ (by first | omega | (simp <;> omega)) _ | refine Below.alloc ?_ (by first | omega | (simp <;> omega)) _ | refine Below.drew ?_ | refine below_drewN' ?_ _))) hb_w2; have hz2 := hB2.size; have HSA := Lib.hid hsh1; have HSEA := Lib.hid hsec1; clear hsh1 hsec1)
    | (go_at_call 15; (with_reducible refine (HP2.out _ (by first | (exact hB2.alloc hz2 _) | (repeat (first | exact Below.refl _ _ | assumption | refine Below.setCell ?_ (by first | omega | (simp <;> omega)) _ | refine Below.alloc ?_ (by first | omega | (simp <;> omega)) _ | refine Below.drew ?_ | refine below_drewN' ?_ _)))).mono ?_); rintro e w3 ⟨b2, o2, cc2, aj, cj, rfl, hlt2, g0, g1, g2, hsh2, hsec2, hb_w3⟩; have hB3 : Below w.heap.size w w3 := (hB2.alloc hz2 _).trans (hb_w3.mono (by simp only [World.size_alloc]; omega)); have hz3 := hB3.size; have hz23 := hb_w3.size; (try simp only [World.size_alloc] at hz23); have hb23 : Below w2.heap.size w2 w3 := ((Below.refl _ _).alloc (Nat.le_refl _) _).trans (hb_w3.mono (by simp)); have cx : w3.cell? ⟨w2.heap.size, 0, none⟩ = some (.slice (some ⟨b1, o1, none⟩) 1 cc1) := (hb_w3.cell (p := ⟨w2.heap.size, 0, none⟩) (by simp)).trans (by simp [go_sem]); have lx : w2.heap.size < w3.heap.size := (by omega); have nx : ¬ w2.heap.size = w3.heap.size := (by omega); have x0 := (hb23.cell (p := ⟨b1, o1, none⟩) hlt1).trans d0; have x1 := (hb23.cell (p := ⟨b1, o1 + 1, none⟩) hlt1).trans d1; have x2 := (hb23.cell (p := ⟨b1, o1 + 2, none⟩) hlt1).trans d2; have lb1 : b1 < w3.heap.size := (by omega); have nb1 : ¬ b1 = w3.heap.size := (by omega); have nb2 : ¬ b2 = w3.heap.size := (by omega); have HSB := Lib.hid hsh2; have HSEB := Lib.hid hsec2; have H23 := Lib.hid hb23; clear hsh2 hsec2 hb23 d0 d1 d2))
  have HW : Below w2.heap.size w2 (w3.alloc (.cells #[.slice (some ⟨b2, o2, none⟩) 1 cc2] 24)).drew := (H23.out.alloc (by omega) _).drew
  have HW3 : Below w3.heap.size w3 (w3.alloc (.cells #[.slice (some ⟨b2, o2, none⟩) 1 cc2] 24)).drew := ((Below.refl _ _).alloc (Nat.le_refl _) _).drew
  have y0 : (w3.alloc (.cells #[.slice (some ⟨b2, o2, none⟩) 1 cc2] 24)).drew.cell? ⟨w2.heap.size, 0, none⟩ = some (.slice (some ⟨b1, o1, none⟩) 1 cc1) := (World.cell?_alloc_past _ _ _ lx).trans cx
  have y1 : (w3.alloc (.cells #[.slice (some ⟨b2, o2, none⟩) 1 cc2] 24)).drew.cell? ⟨w3.heap.size, 0, none⟩ = some (.slice (some ⟨b2, o2, none⟩) 1 cc2) := by simp [go_sem]
  have y2 : (w3.alloc (.cells #[.slice (some ⟨b2, o2, none⟩) 1 cc2] 24)).drew.cell? ⟨b1, o1, none⟩ = some (.slice ai na ci) := (World.cell?_alloc_past _ _ _ lb1).trans x0
  have y3 : (w3.alloc (.cells #[.slice (some ⟨b2, o2, none⟩) 1 cc2] 24)).drew.cell? ⟨b1, o1 + 1, none⟩ = some (.bool gA) := (World.cell?_alloc_past _ _ _ lb1).trans x1
  have y4 : (w3.alloc (.cells #[.slice (some ⟨b2, o2, none⟩) 1 cc2] 24)).drew.cell? ⟨b1, o1 + 2, none⟩ = some (.int .i64 sA) := (World.cell?_alloc_past _ _ _ lb1).trans x2
  have y5 : (w3.alloc (.cells #[.slice (some ⟨b2, o2, none⟩) 1 cc2] 24)).drew.cell? ⟨b2, o2, none⟩ = some (.slice aj nb cj) := (World.cell?_alloc_past _ _ _ hlt2).trans g0
  have y6 : (w3.alloc (.cells #[.slice (some ⟨b2, o2, none⟩) 1 cc2] 24)).drew.cell? ⟨b2, o2 + 1, none⟩ = some (.bool gB) := (World.cell?_alloc_past _ _ _ hlt2).trans g1
  have y7 : (w3.alloc (.cells #[.slice (some ⟨b2, o2, none⟩) 1 cc2] 24)).drew.cell? ⟨b2, o2 + 2, none⟩ = some (.int .i64 sB) := (World.cell?_alloc_past _ _ _ hlt2).trans g2
  have k1 : IntKind.i64.wrap ((na : Int) + (nb : Int)) = (na : Int) + (nb : Int) := IntWalk.i64_in _ (by omega)
  have k2 : decide ((100 : Int) < (na : Int) + (nb : Int)) = false := decide_eq_false (by omega)
  have k3 : ∀ o : Nat, o + 0 * 3 = o := fun o => by omega
  refine wp_region_still_tail 19 (by kernel_rfl) (by kernel_rfl) ?_
  simp only [List.take_succ_cons, List.take_zero, List.drop_succ_cons, List.drop_zero]
  change wpStill _ _ (World.drew _) _ _ _
  repeat still_step
  try refine wpStill_nil ?_
  change wpList _ _ _ _ _ (World.drew _)
  go_wp2_with (first
    | (go_at_call 9; (with_reducible refine (HSA.out _ (by first | exact HW | (repeat (first | exact Below.refl _ _ | assumption | refine Below.setCell ?_ (by first | omega | (simp <;> omega)) _ | refine Below.alloc ?_ (by first | omega | (simp <;> omega)) _ | refine Below.drew ?_ | refine below_drewN' ?_ _)))).mono ?_); rintro e w4 ⟨rfl, hb4⟩; have hz4 := hb4.size; (try simp only [size_drew', World.size_alloc] at hz4); have z1 := (hb4.cell (p := ⟨w3.heap.size, 0, none⟩) (by simp)).trans y1; have z5 := (hb4.cell (p := ⟨b2, o2, none⟩) (by simp; omega)).trans y5; have z6 := (hb4.cell (p := ⟨b2, o2 + 1, none⟩) (by simp; omega)).trans y6; have z7 := (hb4.cell (p := ⟨b2, o2 + 2, none⟩) (by simp; omega)).trans y7; have HW4 : Below w3.heap.size w3 w4 := HW3.trans (hb4.mono (by simp)))
    | (go_at_call 9; (with_reducible refine (HSB.out _ (by first | exact HW4 | (repeat (first | exact Below.refl _ _ | assumption | refine Below.setCell ?_ (by first | omega | (simp <;> omega)) _ | refine Below.alloc ?_ (by first | omega | (simp <;> omega)) _ | refine Below.drew ?_ | refine below_drewN' ?_ _)))).mono ?_); rintro e w5 ⟨rfl, hb5⟩; have HW5 : Below w3.heap.size w3 w5 := HW4.trans (hb5.mono (by omega))))
  all_goals first | (go_ret; exact RetB.of rfl (hB3.trans (HW5.mono hz3))) | (exfalso; simp_all; done)

end Go.Proofs.YticodcecillciaaDoor

/- The statement PatternJoins: one section each, and the row of both. -/
namespace Go.Proofs.YticodcecillciaaDoor
set_option linter.all false
open Go.RowKit

/-- What 'sections' gives of one section. -/
def OneR (w : World) (x : Pa.Sec) (e : Ending) (w' : World) : Prop := ∃ g cap vA, e = .returned (.slice (some ⟨g, 0, none⟩) 1 cap) ∧ SecsOwn w' w.heap.size (.slice (some ⟨g, 0, none⟩) 1 cap) [vA] [x] ∧ w.heap.size ≤ g ∧ g < w'.heap.size ∧
  (∀ j u, [vA, .bool x.grouped, .int .i64 x.scale][j]? = some u → w'.cell? ((⟨g, 0, none⟩ : Addr).add j) = some u) ∧ vA.oneCell' = true ∧ Below w.heap.size w w'
theorem sections_one (x : Pa.Sec) (v : Value) (B : Nat) (w : World) (h : SecsAt w B v [x]) (hB : B ≤ w.heap.size) (hx : x.items.length ≤ 100) : Calls Tryd.prog 8 #[.agg #[v]] w (OneR w x) := by
  refine (l13_sections_any [x] v B w h hB (by simp) (fun k hk => ?_)).mono fun e w' hh => ?_
  · have : k = 0 := by simp at hk; omega
    subst this
    simp only [List.getElem_cons_zero]; omega
  · obtain ⟨v', vis, rfl, ho, hb⟩ := hh
    have hl := ho.len
    match vis, hl, ho with
    | [vA], _, ho =>
      obtain ⟨g, cap, rfl, h1, h2, h3, h4, h5⟩ := ho.row.get (by simp)
      refine ⟨g, cap, vA, rfl, ho, h1, h2, fun j u hj => ?_, ?_, hb⟩
      · have ha : (⟨g, 0, none⟩ : Addr).add j = ⟨g, j, none⟩ := by
          unfold Addr.add
          split
          · rename_i e; subst e; rfl
          · simp
        rw [ha]
        exact h4 j u hj
      · obtain ⟨⟨a, c, e⟩, _⟩ := ho.its 0 (by simp) (by simp)
        simp only [List.getElem_cons_zero] at e
        rw [e]
        rfl
theorem sections_joined {w w8 : World} {base base2 gA cA : Nat} {v' vA vB : Value} {a b : Pa.Sec} (hA : SecsOwn w base (.slice (some ⟨gA, 0, none⟩) 1 cA) [vA] [a]) (hB : RowG w base2 58 2 vB b.items.length (itCells b.items)) (hb : base ≤ base2) (hg : gA < base2)
    (hgrow : w.grownBy w8 (Value.slice (some ⟨gA, 0, none⟩) 1 cA).ownBlock) (hat : v'.ownBlock = some gA ∨ v'.ownBlock = some w.heap.size)
    (hrow : w8.ownsRow base 36 3 v' 2 (secCells [vA] [a] ++ [vB, .bool b.grouped, .int .i64 b.scale])) : SecsOwn w8 base v' [vA, vB] [a, b] := by
  have iA := hA.its 0 (by simp) (by simp)
  have aA := hA.apt 0 (by simp)
  simp only [List.getElem_cons_zero] at iA aA
  refine ⟨RowG.of hrow rfl rfl, rfl, fun k h1 h2 => ?_, fun k h1 x hx => ?_⟩
  · match k, h1, h2 with
    | 0, _, _ => exact iA.grown hgrow (fun j hj e => aA j hj e)
    | 1, _, _ => exact (hB.base hb).grown hgrow (fun j hj e => by have := (hB.lt hj).1; simp [Value.ownBlock] at e; omega)
  · match k, h1, hx with
    | 0, _, hx =>
      have l1 := (iA.lt hx).2
      have l2 := aA x hx
      intro e
      rcases hat with e2 | e2
      · rw [e2] at e; exact l2 e
      · rw [e2] at e; have := Option.some.inj e; omega
    | 1, _, hx =>
      have l1 := hB.lt hx
      intro e
      rcases hat with e2 | e2
      · rw [e2] at e; have := Option.some.inj e; omega
      · rw [e2] at e; have := Option.some.inj e; omega
end Go.Proofs.YticodcecillciaaDoor

/- The statement PatternJoins: where it asks. (Printed by gen/mkl84.py.) -/
namespace Go.Proofs.YticodcecillciaaDoor
set_option linter.all false
open Go.RowKit

theorem parse_two {s t : ByteArray} {a b : Pa.Sec} (w : World) (hu : U8 w) (hs : s.size ≤ 490) (ht : t.size ≤ 490) (h1 : Pa.parse s = ([a], 0, 0)) (h2 : Pa.parse t = ([b], 0, 0)) (hn : a.items.length + b.items.length ≤ 100) (ha : Pa.shape a ≠ 6) (hb : Pa.shape b ≠ 6) :
    Calls Tryd.prog 15 #[.string ((s ++ ⟨#[59]⟩) ++ t)] w (fun e w' => ∃ ac cc, e = .returned (.tuple #[.agg #[.slice ac 2 cc], .int .i64 0, .int .i64 0]) ∧
      (∀ W, Below w'.heap.size w' W → ∀ v2, SecsAt W W.heap.size v2 [a, b] → Calls Tryd.prog 16 #[.agg #[.slice ac 2 cc], v2] W (RetB (.bool true) W)) ∧ Below w.heap.size w w') := by
  have h := pa_parse_any ((s ++ ⟨#[59]⟩) ++ t) w hu
  rw [Pa.joins hs ht h1 h2 hn ha hb] at h
  refine h.mono fun e w' hh => ?_
  obtain ⟨v, rfl, hs, hb⟩ := hh
  obtain ⟨ac, cc, rfl, _⟩ := hs.form
  refine ⟨ac, cc, rfl, fun W hW v2 h2 => ?_, hb⟩
  refine l13_same_true [a, b] (.slice ac 2 cc) v2 W.heap.size W ((hs.below hW (Nat.le_refl _)).mono hW.size) h2 (Nat.le_refl _) (by simp) (fun k hk => ?_)
  match k, hk with
  | 0, _ => simp only [List.getElem_cons_zero]; omega
  | 1, _ => simp only [List.getElem_cons_succ, List.getElem_cons_zero]; omega


set_option maxRecDepth 100000 in
set_option maxHeartbeats 16000000 in
theorem l13_joins_main (s t : ByteArray) (a b : Pa.Sec) (w : World) (hu : U8 w) (hm : MaxL w) (hs : s.size ≤ 490) (ht : t.size ≤ 490) (h1 : Pa.parse s = ([a], 0, 0)) (h2 : Pa.parse t = ([b], 0, 0))
    (h : ¬ 100 < a.items.length + b.items.length) (h6 : ¬ Pa.shape a = 6) (h7 : ¬ Pa.shape b = 6) :
    Calls Tryd.prog 5 #[.string s, .string t] w (RetB (.bool true) w) := by
  have hsh := l13_shown_any w hu hm
  obtain ⟨na, hna⟩ : ∃ n, n = a.items.length := ⟨_, rfl⟩
  obtain ⟨nb, hnb⟩ : ∃ n, n = b.items.length := ⟨_, rfl⟩
  obtain ⟨SA, hSA⟩ : ∃ n, n = Pa.shape a := ⟨_, rfl⟩
  obtain ⟨SB, hSB⟩ : ∃ n, n = Pa.shape b := ⟨_, rfl⟩
  have l1 := parse_len (by omega) h1
  have l2 := parse_len (by omega) h2
  have hp1 := fun (W : World) (hW : Below w.heap.size w W) => parse_first1 s W (hu.on hW) a na SA hna hSA (by omega) h1
  have hp2 := fun (W : World) (hW : Below w.heap.size w W) => parse_first1 t W (hu.on hW) b nb SB hnb hSB (by omega) h2
  have i1 : ¬ (490 : Int) < (s.size : Int) := by omega
  have i2 : ¬ (490 : Int) < (t.size : Int) := by omega
  have j1 : (na : Int) ≤ 100 := by omega
  have j2 : (nb : Int) ≤ 100 := by omega
  have j3 : ¬ (100 : Int) < (na : Int) + (nb : Int) := by omega
  have j4 : (SA == 6) = false := beq_eq_false_iff_ne.2 (by rw [hSA]; exact h6)
  have j5 : (SB == 6) = false := beq_eq_false_iff_ne.2 (by rw [hSB]; exact h7)
  have hp3 := fun (W : World) (hW : Below w.heap.size w W) => parse_two W (hu.on hW) hs ht h1 h2 (by omega) h6 h7
  have hla : a.items.length ≤ 100 := by omega
  have hlb : b.items.length ≤ 100 := by omega
  have HLA := Lib.hid hla
  have HLB := Lib.hid hlb
  have HP3 := Lib.hid hp3
  obtain ⟨i0, hI⟩ := info_parts infoRSec
  obtain ⟨hi, hi0, hi1, hi2⟩ := hI
  clear h6 h7 h hp3 hla hlb
  generalize a.grouped = gA at *
  generalize a.scale = sA at *
  generalize b.grouped = gB at *
  generalize b.scale = sB at *
  have HSH := Lib.hid hsh; have HP1 := Lib.hid hp1; have HP2 := Lib.hid hp2
  clear hsh hp1 hp2 hu hm hna hnb hSA hSB h1 h2 l1 l2
  go_enter Tryd.func5, Tryd.ntmps5
  go_wp2_with (first
    | (go_at_call 6; (with_reducible refine (HSH.out).mono ?_); rintro e w1 ⟨rfl, hb_w1⟩)
    | (go_at_call 15; (with_reducible refine (HP1.out _ (by first | assumption | (repeat (first | exact Below.refl _ _ | assumption | refine Below.setCell ?_ (by first | omega | (simp <;> omega)) _ | refine Below.alloc ?_ (by first | omega | (simp <;> omega)) _ | refine Below.drew ?_ | refine below_drewN' ?_ _)))).mono ?_); rintro e w2 ⟨b1, o1, cc1, ai, ci, rfl, hlt1, d0, d1, d2, hsh1, hsec1, hb_w2⟩; have hB2 : Below w.heap.size w w2 := Below.next (by first | assumption | (repeat (first | exact Below.refl _ _ | assumption | refine Below.setCell ?_ (by first | omega | (simp <;> omega)) _ | refine Below.alloc ?_ (by first | omega | (simp <;> omega)) _ | refine Below.drew ?_ | refine below_drewN' ?_ _))) hb_w2; have hz2 := hB2.size; have HSA := Lib.hid hsh1; have HSEA := Lib.hid hsec1; clear hsh1 hsec1)
    | (go_at_call 15; (with_reducible refine (HP2.out _ (by first | (exact hB2.alloc hz2 _) | (repeat (first | exact Below.refl _ _ | assumption | refine Below.setCell ?_ (by first | omega | (simp <;> omega)) _ | refine Below.alloc ?_ (by first | omega | (simp <;> omega)) _ | refine Below.drew ?_ | refine below_drewN' ?_ _)))).mono ?_); rintro e w3 ⟨b2, o2, cc2, aj, cj, rfl, hlt2, g0, g1, g2, hsh2, hsec2, hb_w3⟩; have hB3 : Below w.heap.size w w3 := (hB2.alloc hz2 _).trans (hb_w3.mono (by simp only [World.size_alloc]; omega)); have hz3 := hB3.size; have hz23 := hb_w3.size; (try simp only [World.size_alloc] at hz23); have hb23 : Below w2.heap.size w2 w3 := ((Below.refl _ _).alloc (Nat.le_refl _) _).trans (hb_w3.mono (by simp)); have cx : w3.cell? ⟨w2.heap.size, 0, none⟩ = some (.slice (some ⟨b1, o1, none⟩) 1 cc1) := (hb_w3.cell (p := ⟨w2.heap.size, 0, none⟩) (by simp)).trans (by simp [go_sem]); have lx : w2.heap.size < w3.heap.size := (by omega); have nx : ¬ w2.heap.size = w3.heap.size := (by omega); have x0 := (hb23.cell (p := ⟨b1, o1, none⟩) hlt1).trans d0; have x1 := (hb23.cell (p := ⟨b1, o1 + 1, none⟩) hlt1).trans d1; have x2 := (hb23.cell (p := ⟨b1, o1 + 2, none⟩) hlt1).trans d2; have lb1 : b1 < w3.heap.size := (by omega); have nb1 : ¬ b1 = w3.heap.size := (by omega); have nb2 : ¬ b2 = w3.heap.size := (by omega); have HSB := Lib.hid hsh2; have HSEB := Lib.hid hsec2; have H23 := Lib.hid hb23; clear hsh2 hsec2 hb23 d0 d1 d2))
  have HW : Below w2.heap.size w2 (w3.alloc (.cells #[.slice (some ⟨b2, o2, none⟩) 1 cc2] 24)).drew := (H23.out.alloc (by omega) _).drew
  have HW3 : Below w3.heap.size w3 (w3.alloc (.cells #[.slice (some ⟨b2, o2, none⟩) 1 cc2] 24)).drew := ((Below.refl _ _).alloc (Nat.le_refl _) _).drew
  have y0 : (w3.alloc (.cells #[.slice (some ⟨b2, o2, none⟩) 1 cc2] 24)).drew.cell? ⟨w2.heap.size, 0, none⟩ = some (.slice (some ⟨b1, o1, none⟩) 1 cc1) := (World.cell?_alloc_past _ _ _ lx).trans cx
  have y1 : (w3.alloc (.cells #[.slice (some ⟨b2, o2, none⟩) 1 cc2] 24)).drew.cell? ⟨w3.heap.size, 0, none⟩ = some (.slice (some ⟨b2, o2, none⟩) 1 cc2) := by simp [go_sem]
  have y2 : (w3.alloc (.cells #[.slice (some ⟨b2, o2, none⟩) 1 cc2] 24)).drew.cell? ⟨b1, o1, none⟩ = some (.slice ai na ci) := (World.cell?_alloc_past _ _ _ lb1).trans x0
  have y3 : (w3.alloc (.cells #[.slice (some ⟨b2, o2, none⟩) 1 cc2] 24)).drew.cell? ⟨b1, o1 + 1, none⟩ = some (.bool gA) := (World.cell?_alloc_past _ _ _ lb1).trans x1
  have y4 : (w3.alloc (.cells #[.slice (some ⟨b2, o2, none⟩) 1 cc2] 24)).drew.cell? ⟨b1, o1 + 2, none⟩ = some (.int .i64 sA) := (World.cell?_alloc_past _ _ _ lb1).trans x2
  have y5 : (w3.alloc (.cells #[.slice (some ⟨b2, o2, none⟩) 1 cc2] 24)).drew.cell? ⟨b2, o2, none⟩ = some (.slice aj nb cj) := (World.cell?_alloc_past _ _ _ hlt2).trans g0
  have y6 : (w3.alloc (.cells #[.slice (some ⟨b2, o2, none⟩) 1 cc2] 24)).drew.cell? ⟨b2, o2 + 1, none⟩ = some (.bool gB) := (World.cell?_alloc_past _ _ _ hlt2).trans g1
  have y7 : (w3.alloc (.cells #[.slice (some ⟨b2, o2, none⟩) 1 cc2] 24)).drew.cell? ⟨b2, o2 + 2, none⟩ = some (.int .i64 sB) := (World.cell?_alloc_past _ _ _ hlt2).trans g2
  have k1 : IntKind.i64.wrap ((na : Int) + (nb : Int)) = (na : Int) + (nb : Int) := IntWalk.i64_in _ (by omega)
  have k2 : decide ((100 : Int) < (na : Int) + (nb : Int)) = false := decide_eq_false (by omega)
  have k3 : ∀ o : Nat, o + 0 * 3 = o := fun o => by omega
  refine wp_region_still_tail 19 (by kernel_rfl) (by kernel_rfl) ?_
  simp only [List.take_succ_cons, List.take_zero, List.drop_succ_cons, List.drop_zero]
  change wpStill _ _ (World.drew _) _ _ _
  repeat still_step
  try refine wpStill_nil ?_
  change wpList _ _ _ _ _ (World.drew _)
  go_wp2_with (first
    | (go_at_call 9; (with_reducible refine (HSA.out _ (by first | exact HW | (repeat (first | exact Below.refl _ _ | assumption | refine Below.setCell ?_ (by first | omega | (simp <;> omega)) _ | refine Below.alloc ?_ (by first | omega | (simp <;> omega)) _ | refine Below.drew ?_ | refine below_drewN' ?_ _)))).mono ?_); rintro e w4 ⟨rfl, hb4⟩; have hz4 := hb4.size; (try simp only [size_drew', World.size_alloc] at hz4); have z1 := (hb4.cell (p := ⟨w3.heap.size, 0, none⟩) (by simp)).trans y1; have z5 := (hb4.cell (p := ⟨b2, o2, none⟩) (by simp; omega)).trans y5; have z6 := (hb4.cell (p := ⟨b2, o2 + 1, none⟩) (by simp; omega)).trans y6; have z7 := (hb4.cell (p := ⟨b2, o2 + 2, none⟩) (by simp; omega)).trans y7; have HW4 : Below w3.heap.size w3 w4 := HW3.trans (hb4.mono (by simp)))
    | (go_at_call 9; (with_reducible refine (HSB.out _ (by first | exact HW4 | (repeat (first | exact Below.refl _ _ | assumption | refine Below.setCell ?_ (by first | omega | (simp <;> omega)) _ | refine Below.alloc ?_ (by first | omega | (simp <;> omega)) _ | refine Below.drew ?_ | refine below_drewN' ?_ _)))).mono ?_); rintro e w5 ⟨rfl, hb5⟩; have HW5 : Below w3.heap.size w3 w5 := HW4.trans (hb5.mono (by omega)); have z2 := (hb4.cell (p := ⟨w2.heap.size, 0, none⟩) (by simp; omega)).trans y0; have u2 := (hb5.cell (p := ⟨w2.heap.size, 0, none⟩) (by simp only; omega)).trans z2; have u1 := (hb5.cell (p := ⟨w3.heap.size, 0, none⟩) (by simp only; omega)).trans z1; have hz5 := hb5.size)
    | (go_at_call 15; (with_reducible refine (HP3.out _ (by first | (exact hB3.trans (HW5.mono hz3)) | (repeat (first | exact Below.refl _ _ | assumption | refine Below.setCell ?_ (by first | omega | (simp <;> omega)) _ | refine Below.alloc ?_ (by first | omega | (simp <;> omega)) _ | refine Below.drew ?_ | refine below_drewN' ?_ _)))).mono ?_); rintro e w6 ⟨ac, cc, rfl, hsm, hb6⟩; have hz6 := hb6.size; have v2 := (hb6.cell (p := ⟨w2.heap.size, 0, none⟩) (by simp only; omega)).trans u2; have v1 := (hb6.cell (p := ⟨w3.heap.size, 0, none⟩) (by simp only; omega)).trans u1; have HSM := Lib.hid hsm; clear hsm))
  all_goals first | (exfalso; simp_all; done) | skip
  have hz35 : w3.heap.size < w5.heap.size := by omega
  have hW36 : Below w3.heap.size w3 w6 := HW5.trans (hb6.mono (by omega))
  have hB6 : Below w.heap.size w w6 := hB3.trans (hW36.mono hz3)
  obtain ⟨WR, hWR⟩ : ∃ WR, WR = w6.alloc (.cells #[.slice ac 2 cc] 24) := ⟨_, rfl⟩
  rw [← hWR]
  have hzR : WR.heap.size = w6.heap.size + 1 := by rw [hWR]; simp
  have hBR : Below w6.heap.size w6 WR := by rw [hWR]; exact (Below.refl _ _).alloc (Nat.le_refl _) _
  have hS : ∀ W, Below WR.heap.size WR W → W.cell? ⟨w6.heap.size, 0, none⟩ = some (.slice ac 2 cc) ∧ W.cell? ⟨w2.heap.size, 0, none⟩ = some (.slice (some ⟨b1, o1, none⟩) 1 cc1) ∧ W.cell? ⟨w3.heap.size, 0, none⟩ = some (.slice (some ⟨b2, o2, none⟩) 1 cc2) := fun W hW => by
    refine ⟨(hW.cell (p := ⟨w6.heap.size, 0, none⟩) (by simp only; omega)).trans (by rw [hWR]; simp [go_sem]), (hW.cell (p := ⟨w2.heap.size, 0, none⟩) (by simp only; omega)).trans ((hBR.cell (p := ⟨w2.heap.size, 0, none⟩) (by simp only; omega)).trans v2), (hW.cell (p := ⟨w3.heap.size, 0, none⟩) (by simp only; omega)).trans ((hBR.cell (p := ⟨w3.heap.size, 0, none⟩) (by simp only; omega)).trans v1)⟩
  have hsa : ∀ W, Below WR.heap.size WR W → Calls Tryd.prog 8 #[.agg #[.slice (some ⟨b1, o1, none⟩) 1 cc1]] W (OneR W a) := fun W hW =>
    sections_one a _ w2.heap.size W (HSEA.out.below ((H23.out.trans (hW36.mono (by omega))).trans ((hBR.trans (hW.mono (by omega))).mono (by omega))) (Nat.le_refl _)) (by have := hW.size; omega) HLA.out
  have hsb : ∀ W, Below WR.heap.size WR W → Calls Tryd.prog 8 #[.agg #[.slice (some ⟨b2, o2, none⟩) 1 cc2]] W (OneR W b) := fun W hW =>
    sections_one b _ w3.heap.size W (HSEB.out.below (hW36.trans ((hBR.trans (hW.mono (by omega))).mono (by omega))) (Nat.le_refl _)) (by have := hW.size; omega) HLB.out
  have hsm : ∀ W, Below WR.heap.size WR W → ∀ v2, SecsAt W W.heap.size v2 [a, b] → Calls Tryd.prog 16 #[.agg #[.slice ac 2 cc], v2] W (RetB (.bool true) W) := fun W hW v2 h2 => HSM.out W (hBR.trans (hW.mono (by omega))) v2 h2
  have HS := Lib.hid hS; have HSA2 := Lib.hid hsa; have HSB2 := Lib.hid hsb; have HSM2 := Lib.hid hsm
  have hBW : Below w.heap.size w WR := hB6.trans (hBR.mono (by have := hB6.size; omega))
  have hzW := hBW.size
  clear hS hsa hsb hsm
  clear hWR
  go_region_held3 (fun w' => w'.cell? ⟨w6.heap.size, 0, none⟩ = some (.slice ac 2 cc) ∧ w'.cell? ⟨w2.heap.size, 0, none⟩ = some (.slice (some ⟨b1, o1, none⟩) 1 cc1) ∧ w'.cell? ⟨w3.heap.size, 0, none⟩ = some (.slice (some ⟨b2, o2, none⟩) 1 cc2))
      (first | (exact HS.out _ (by first | assumption | (repeat (first | exact Below.refl _ _ | assumption | refine Below.setCell ?_ (by first | omega | (simp <;> omega)) _ | refine Below.alloc ?_ (by first | omega | (simp <;> omega)) _ | refine Below.drew ?_ | refine below_drewN' ?_ _)))))
      (first
        | (go_at_call 8; (with_reducible refine (HSA2.out _ (by first | assumption | (repeat (first | exact Below.refl _ _ | assumption | refine Below.setCell ?_ (by first | omega | (simp <;> omega)) _ | refine Below.alloc ?_ (by first | omega | (simp <;> omega)) _ | refine Below.drew ?_ | refine below_drewN' ?_ _)))).mono ?_); rintro e w7 ⟨gA, cA, vA, rfl, ho7, hg7a, hg7, hn7, ho1, hb7⟩; have hB7 : Below WR.heap.size WR w7 := Below.next (by first | assumption | (repeat (first | exact Below.refl _ _ | assumption | refine Below.setCell ?_ (by first | omega | (simp <;> omega)) _ | refine Below.alloc ?_ (by first | omega | (simp <;> omega)) _ | refine Below.drew ?_ | refine below_drewN' ?_ _))) hb7; have hz7 := hB7.size; have hgA : WR.heap.size ≤ gA := (by first | exact hg7a | omega | (simp at hg7a; omega)); have H7 := Lib.hid (SecsOwn.base (base' := WR.heap.size) ho7 (by first | exact Nat.le_refl _ | omega | (simp <;> omega))); clear hn7 ho1)
        | (go_at_call 8; (with_reducible refine (HSB2.out _ (by first | assumption | (repeat (first | exact Below.refl _ _ | assumption | refine Below.setCell ?_ (by first | omega | (simp <;> omega)) _ | refine Below.alloc ?_ (by first | omega | (simp <;> omega)) _ | refine Below.drew ?_ | refine below_drewN' ?_ _)))).mono ?_); rintro e w8 ⟨gB, cB, vB, rfl, ho8, hg8a, hg8, hn8, ho1, hb8⟩; have hz8b := hb8.size; have hB8 : Below WR.heap.size WR w8 := Below.next (by first | assumption | (repeat (first | exact Below.refl _ _ | assumption | refine Below.setCell ?_ (by first | omega | (simp <;> omega)) _ | refine Below.alloc ?_ (by first | omega | (simp <;> omega)) _ | refine Below.drew ?_ | refine below_drewN' ?_ _))) hb8; have hz8 := hB8.size; have H8 := Lib.hid ho8; have H78 := Lib.hid hb8; have hown : w8.ownsRow WR.heap.size 36 3 (.slice (some ⟨gA, 0, none⟩) 1 cA) 1 (secCells [vA] [a]) := (H7.out.on hb8).row.2)
        | (refine step_append_lies _ rfl _ _ 27 rfl WR.heap.size 36 i0 (.agg #[.slice none 0 0, .bool false, .int .i64 0]) 3 40 Tryd.underlying27 hi hi0 hi1 hi2 rfl (by decide) _ _ _ rfl hown ⟨gB, 0, none⟩ 1 cB [vB, .bool b.grouped, .int .i64 b.scale] (by rfl) (by rfl) hn8 (fun u hu => by (simp only [List.mem_cons, List.not_mem_nil, or_false] at hu); (rcases hu with rfl | rfl | rfl); (exact ho1); rfl; rfl) (by decide) (by unfold maxLen; omega) (by omega) (by omega) w8.heap.size rfl ?_; intro g9 cap9 w9 hown9 hgrow9 hat9 hlt9; have hj := sections_joined (v' := .slice (some ⟨g9, 0, none⟩) (1 + 1) cap9) (gA := gA) (a := a) (b := b) (vB := vB) (H7.out.on H78.out) (H8.out.its 0 (by simp) (by simp)) (by omega) (by omega) hgrow9 (hat9.elim (fun e => .inl (congrArg some (Option.some.inj e).symm)) (fun e => .inr (congrArg some e))) hown9; have hj2 : SecsAt w9 w9.heap.size (.slice (some ⟨g9, 0, none⟩) 2 cap9) [a, b] := hj.read; have HJ := Lib.hid hj2; have hB9 : Below WR.heap.size WR w9 := hB8.grown hgrow9 (by omega) (fun j e => ((H7.out.on H78.out).row.lt e).1); clear hj hj2)
        | (go_at_call 16; (with_reducible refine (HSM2.out _ (by first | assumption | (repeat (first | exact Below.refl _ _ | assumption | refine Below.setCell ?_ (by first | omega | (simp <;> omega)) _ | refine Below.alloc ?_ (by first | omega | (simp <;> omega)) _ | refine Below.drew ?_ | refine below_drewN' ?_ _))) _ (by first | exact HJ.out | assumption)).mono ?_); rintro e w10 ⟨rfl, hb10⟩; have hB10 : Below WR.heap.size WR w10 := Below.next (by first | assumption | (repeat (first | exact Below.refl _ _ | assumption | refine Below.setCell ?_ (by first | omega | (simp <;> omega)) _ | refine Below.alloc ?_ (by first | omega | (simp <;> omega)) _ | refine Below.drew ?_ | refine below_drewN' ?_ _))) hb10))
  all_goals
    (try go_wp2)
    go_ret
    exact RetB.of (by simp) (hBW.trans (Below.mono (by first | assumption | (repeat (first | exact Below.refl _ _ | assumption | refine Below.setCell ?_ (by first | omega | (simp <;> omega)) _ | refine Below.alloc ?_ (by first | omega | (simp <;> omega)) _ | refine Below.drew ?_ | refine below_drewN' ?_ _))) hzW))


end Go.Proofs.YticodcecillciaaDoor

/- The statement PatternJoins. -/
namespace Go.Proofs.YticodcecillciaaDoor
set_option linter.all false
open Go.RowKit

theorem l13_joins_any (s t : ByteArray) (w : World) (hu : U8 w) (hm : MaxL w) : Calls Tryd.prog 5 #[.string s, .string t] w (RetB (.bool true) w) := by
  by_cases h : 490 < s.size ∨ 490 < t.size
  · exact l13_joins_long s t w hu hm h
  have hs : s.size ≤ 490 := by omega
  have ht : t.size ≤ 490 := by omega
  by_cases h2 : (Pa.parse s).2.1 = 0 ∧ (Pa.parse t).2.1 = 0 ∧ (Pa.parse s).1.length = 1 ∧ (Pa.parse t).1.length = 1
  · obtain ⟨_, _, e1, e2⟩ := h2
    obtain ⟨a, ha⟩ := parse_one (by omega) e1
    obtain ⟨b, hb⟩ := parse_one (by omega) e2
    by_cases h3 : 100 < a.items.length + b.items.length
    · exact l13_joins_many s t a b w hu hm hs ht ha hb h3
    · by_cases h6 : Pa.shape a = 6
      · exact l13_joins_wordsA s t a b w hu hm hs ht ha hb h3 h6
      · by_cases h7 : Pa.shape b = 6
        · exact l13_joins_wordsB s t a b w hu hm hs ht ha hb h3 h6 h7
        · exact l13_joins_main s t a b w hu hm hs ht ha hb h3 h6 h7
  · exact l13_joins_not s t w hu hm hs ht h2
end Go.Proofs.YticodcecillciaaDoor
