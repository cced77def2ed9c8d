/- The law DecimalNears, whole: the walk at every decimal and number. -/
import Derived.Test.YtcbepojookbceaaDoorL6
namespace Go.Proofs.YtcbepojookbceaaDoor
set_option linter.all false
open Go.RowKit
attribute [local go_sem] Dc.Res.val

theorem res_val (r : Dc.Res) (n : Bool) (t : ByteArray) (y : Int) (h1 : r.n = n) (h2 : (⟨r.l.toArray⟩ : ByteArray) = t) (h3 : r.x = y) (h4 : r.e = 0) : r.val = .tuple #[.agg #[.bool n, .string t, .int .i64 y], .int .i64 0] := by
  subst h1 h2 h3
  unfold Dc.Res.val; rw [h4]

theorem place_is (n : Bool) (s : ByteArray) (x k way : Int) (hs : s.size ≤ 1000000) (hx : -1000000 ≤ x ∧ x ≤ 1000000) (hk : -1000000 ≤ k ∧ k ≤ 1000000) (m : Bool) (t : ByteArray) (y : Int)
    (h : Dc.place n s.data.toList x k way = ⟨m, t.data.toList, y, 0⟩) : PlaceIs n s x k way m t y := by
  intro w
  have h1 := d_place_any n s x k way w hs (by omega) (by omega)
  rw [h] at h1
  exact h1

set_option maxRecDepth 100000 in
set_option maxHeartbeats 1000000 in
theorem l7_nears_any (n : Bool) (s : ByteArray) (x k : Int) (w : World) (ht : Tab w) (hs : s.size ≤ 9223372036854775807) (_hx : -9223372036854775808 ≤ x ∧ x ≤ 9223372036854775807) (hk : -9223372036854775808 ≤ k ∧ k ≤ 9223372036854775807) :
    Calls Tryd.prog 11 #[.agg #[.bool n, .string s, .int .i64 x], .int .i64 k] w (RetB (.bool true) w) := by
  have hsh := fun w1 (hb : Below w.heap.size w w1) => l7_shown_any w1 (ht.below hb)
  have hr := fun w => d_right_any n s x w hs
  by_cases hright : Dc.right s.data.toList x = true
  · by_cases hin : -90000 ≤ k ∧ k ≤ 90000
    · have hl := Dc.right_len hright
      have hxx := Dc.right_exp hright
      rw [bs_length] at hl
      rw [hright] at hr
      have hsig := fun w => d_sig_any n s x (1 + (s.size : Int) / 2) 0 w (by omega) (by omega) (by omega)
      have hsg := Dc.sig_half n s.data.toList x hright
      rw [bs_length] at hsg
      by_cases hc : Dc.cutp s.data.toList x k
      · obtain ⟨A, B, hAB, h4, h5, hA, hB⟩ := Dc.place_two n s.data.toList x k hright hin hc
        obtain ⟨P, hP⟩ : ∃ P, P = if n then B else A := ⟨_, rfl⟩
        obtain ⟨Q, hQ⟩ : ∃ P, P = if n then A else B := ⟨_, rfl⟩
        have fP : P.e = 0 ∧ P.n = n ∧ Dc.right P.l P.x = true ∧ (P.l = [] ∨ -k ≤ P.x) := by rw [hP]; cases n; exact hA; exact hB
        have fQ : Q.e = 0 ∧ Q.n = n ∧ Dc.right Q.l Q.x = true ∧ (Q.l = [] ∨ -k ≤ Q.x) := by rw [hQ]; cases n; exact hB; exact hA
        have hPQ : ∀ way, 0 ≤ way → way ≤ 5 → Dc.place n s.data.toList x k way = P ∨ Dc.place n s.data.toList x k way = Q := by
          intro way a b
          rw [hP, hQ]
          rcases hAB way a b with e | e <;> cases n <;> simp [e]
        rw [← hP] at h4
        rw [← hQ] at h5
        have hsides := Dc.place_sides n s.data.toList x k hright hin (by rw [h4]; exact fP.1) (by rw [h5]; exact fQ.1)
        rw [h4, h5, fP.2.1, fQ.2.1] at hsides
        have eP : ∀ r : Dc.Res, r.e = 0 → r.n = n → r = ⟨n, (⟨r.l.toArray⟩ : ByteArray).data.toList, r.x, 0⟩ := by
          intro r e1 e2
          obtain ⟨a, b, c, d⟩ := r
          simp only at e1 e2
          subst e1 e2; rfl
        have lP := Dc.right_len fP.2.2.1
        have lQ := Dc.right_len fQ.2.2.1
        have xP := Dc.right_exp fP.2.2.1
        have xQ := Dc.right_exp fQ.2.2.1
        refine l7_nears_walk n s ⟨P.l.toArray⟩ ⟨Q.l.toArray⟩ x P.x Q.x k _ _ _ w ht hl (by rw [size_mk]; omega) (by rw [size_mk]; omega) hxx (by omega) (by omega) hin hr
          (fun w => ?_) (fun w => ?_) (place_is _ _ _ _ _ (by omega) (by omega) (by omega) _ _ _ (h4.trans (eP P fP.1 fP.2.1))) (place_is _ _ _ _ _ (by omega) (by omega) (by omega) _ _ _ (h5.trans (eP Q fQ.1 fQ.2.1)))
          (fun j a b => ?_) (fun j a b => ?_) (fun j a b => ?_) (fun w => d_cmp_any _ _ _ _ _ _ w (by rw [size_mk]; omega) hs) hsides.1 (fun w => d_cmp_any _ _ _ _ _ _ w hs (by rw [size_mk]; omega)) hsides.2 ?_ ?_ hsig hsg
        · have h := d_right_any n ⟨P.l.toArray⟩ P.x w (by rw [size_mk]; omega)
          rw [show (⟨P.l.toArray⟩ : ByteArray).data.toList = P.l from rfl, fP.2.2.1] at h; exact h
        · have h := d_right_any n ⟨Q.l.toArray⟩ Q.x w (by rw [size_mk]; omega)
          rw [show (⟨Q.l.toArray⟩ : ByteArray).data.toList = Q.l from rfl, fQ.2.2.1] at h; exact h
        · rcases hPQ j a b with e | e
          · exact .inl (place_is _ _ _ _ _ (by omega) (by omega) (by omega) _ _ _ (e.trans (eP P fP.1 fP.2.1)))
          · exact .inr (place_is _ _ _ _ _ (by omega) (by omega) (by omega) _ _ _ (e.trans (eP Q fQ.1 fQ.2.1)))
        · have h := Dc.place_again P k j fP.2.2.1 fP.1 ⟨a, b⟩ (by omega) fP.2.2.2
          rw [fP.2.1] at h
          exact place_is _ _ _ _ _ (by rw [size_mk]; omega) (by omega) (by omega) _ _ _ (h.trans (eP P fP.1 fP.2.1))
        · have h := Dc.place_again Q k j fQ.2.2.1 fQ.1 ⟨a, b⟩ (by omega) fQ.2.2.2
          rw [fQ.2.1] at h
          exact place_is _ _ _ _ _ (by rw [size_mk]; omega) (by omega) (by omega) _ _ _ (h.trans (eP Q fQ.1 fQ.2.1))
        · rcases fP.2.2.2 with e | e
          · exact .inl (by rw [size_mk, e]; rfl)
          · exact .inr (.inl e)
        · rcases fQ.2.2.2 with e | e
          · exact .inl (by rw [size_mk, e]; rfl)
          · exact .inr (.inl e)
      · have hp : ∀ way, 0 ≤ way → way ≤ 5 → PlaceIs n s x k way n s x := fun way a b => place_is _ _ _ _ _ (by omega) (by omega) (by omega) _ _ _ (Dc.place_same' n s.data.toList x k way hright ⟨a, b⟩ (by omega) hc)
        have h0 := Dc.cmp_self' n s.data.toList x hright
        exact l7_nears_walk n s s s x x x k _ _ _ w ht hl hl hl hxx (by omega) (by omega) hin hr hr hr (hp 4 (by omega) (by omega)) (hp 5 (by omega) (by omega)) (fun j a b => .inl (hp j a b)) hp hp
          (fun w => d_cmp_any _ _ _ _ _ _ w hs hs) (by rw [h0]; omega) (fun w => d_cmp_any _ _ _ _ _ _ w hs hs) (by rw [h0]; omega) (.inr (.inr ⟨rfl, rfl⟩)) (.inr (.inr ⟨rfl, rfl⟩)) hsig hsg
    · rw [hright] at hr
      have HS := Lib.hid hsh; have HR := Lib.hid hr; clear hsh hr hright
      by_cases h1 : k < -90000
      · clear hin
        go_enter Tryd.func11, Tryd.ntmps11
        go_wp2_with (first | (go_at_call 30; (with_reducible refine (HS.out _ (by (repeat (first | exact Below.refl _ _ | assumption | refine Below.setCell ?_ (by first | omega | (simp <;> omega)) _ | refine Below.alloc ?_ (by first | omega | (simp <;> omega)) _ | refine Below.drew ?_ | refine below_drewN' ?_ _)))).mono ?_); rintro e w1 ⟨rfl, hb_w1⟩; have hB_w1 : Below (w).heap.size (w) w1 := Below.trans (by (repeat (first | exact Below.refl _ _ | assumption | refine Below.setCell ?_ (by first | omega | (simp <;> omega)) _ | refine Below.alloc ?_ (by first | omega | (simp <;> omega)) _ | refine Below.drew ?_ | refine below_drewN' ?_ _))) (hb_w1.mono (by first | omega | (simp <;> omega))); obtain ⟨hc_w1, hf_w1⟩ := bcell hb_w1; have hz_w1 := hb_w1.size; (try simp only [size_drew', size_drewN', World.size_alloc, World.size_setCell] at hz_w1); have hl0_w1 : w.heap.size < w1.heap.size := (by omega); have hm0_w1 : w.heap.size ≤ w1.heap.size := (by omega); have hn0_w1 : ¬ w.heap.size = w1.heap.size := (by omega); have hq0_w1 : ¬ w1.heap.size = w.heap.size := (by omega); have hr0_w1 := fun o => hc_w1 (w.heap.size) o (by (try simp only [size_drew', size_drewN', World.size_alloc, World.size_setCell]); omega); have hg0_w1 := fun o => hf_w1 (w.heap.size) o (by (try simp only [size_drew', size_drewN', World.size_alloc, World.size_setCell]); omega)) | (go_at_call 39; (with_reducible refine (HR.out _).mono ?_); rintro e w2 ⟨rfl, hb_w2⟩; have hB_w2 : Below (w).heap.size (w) w2 := Below.trans (by (repeat (first | exact Below.refl _ _ | assumption | refine Below.setCell ?_ (by first | omega | (simp <;> omega)) _ | refine Below.alloc ?_ (by first | omega | (simp <;> omega)) _ | refine Below.drew ?_ | refine below_drewN' ?_ _))) (hb_w2.mono (by first | omega | (simp <;> omega))); obtain ⟨hc_w2, hf_w2⟩ := bcell hb_w2; have hz_w2 := hb_w2.size; (try simp only [size_drew', size_drewN', World.size_alloc, World.size_setCell] at hz_w2); have hl0_w2 : w.heap.size < w2.heap.size := (by omega); have hm0_w2 : w.heap.size ≤ w2.heap.size := (by omega); have hn0_w2 : ¬ w.heap.size = w2.heap.size := (by omega); have hq0_w2 : ¬ w2.heap.size = w.heap.size := (by omega); have hr0_w2 := fun o => hc_w2 (w.heap.size) o (by (try simp only [size_drew', size_drewN', World.size_alloc, World.size_setCell]); omega); have hg0_w2 := fun o => hf_w2 (w.heap.size) o (by (try simp only [size_drew', size_drewN', World.size_alloc, World.size_setCell]); omega)))
        go_ret
        exact RetB.of rfl (by (repeat (first | exact Below.refl _ _ | assumption | refine Below.setCell ?_ (by first | omega | (simp <;> omega)) _ | refine Below.alloc ?_ (by first | omega | (simp <;> omega)) _ | refine Below.drew ?_ | refine below_drewN' ?_ _)))
      · have h2 : 90000 < k := by omega
        clear hin
        go_enter Tryd.func11, Tryd.ntmps11
        go_wp2_with (first | (go_at_call 30; (with_reducible refine (HS.out _ (by (repeat (first | exact Below.refl _ _ | assumption | refine Below.setCell ?_ (by first | omega | (simp <;> omega)) _ | refine Below.alloc ?_ (by first | omega | (simp <;> omega)) _ | refine Below.drew ?_ | refine below_drewN' ?_ _)))).mono ?_); rintro e w1 ⟨rfl, hb_w1⟩; have hB_w1 : Below (w).heap.size (w) w1 := Below.trans (by (repeat (first | exact Below.refl _ _ | assumption | refine Below.setCell ?_ (by first | omega | (simp <;> omega)) _ | refine Below.alloc ?_ (by first | omega | (simp <;> omega)) _ | refine Below.drew ?_ | refine below_drewN' ?_ _))) (hb_w1.mono (by first | omega | (simp <;> omega))); obtain ⟨hc_w1, hf_w1⟩ := bcell hb_w1; have hz_w1 := hb_w1.size; (try simp only [size_drew', size_drewN', World.size_alloc, World.size_setCell] at hz_w1); have hl0_w1 : w.heap.size < w1.heap.size := (by omega); have hm0_w1 : w.heap.size ≤ w1.heap.size := (by omega); have hn0_w1 : ¬ w.heap.size = w1.heap.size := (by omega); have hq0_w1 : ¬ w1.heap.size = w.heap.size := (by omega); have hr0_w1 := fun o => hc_w1 (w.heap.size) o (by (try simp only [size_drew', size_drewN', World.size_alloc, World.size_setCell]); omega); have hg0_w1 := fun o => hf_w1 (w.heap.size) o (by (try simp only [size_drew', size_drewN', World.size_alloc, World.size_setCell]); omega)) | (go_at_call 39; (with_reducible refine (HR.out _).mono ?_); rintro e w2 ⟨rfl, hb_w2⟩; have hB_w2 : Below (w).heap.size (w) w2 := Below.trans (by (repeat (first | exact Below.refl _ _ | assumption | refine Below.setCell ?_ (by first | omega | (simp <;> omega)) _ | refine Below.alloc ?_ (by first | omega | (simp <;> omega)) _ | refine Below.drew ?_ | refine below_drewN' ?_ _))) (hb_w2.mono (by first | omega | (simp <;> omega))); obtain ⟨hc_w2, hf_w2⟩ := bcell hb_w2; have hz_w2 := hb_w2.size; (try simp only [size_drew', size_drewN', World.size_alloc, World.size_setCell] at hz_w2); have hl0_w2 : w.heap.size < w2.heap.size := (by omega); have hm0_w2 : w.heap.size ≤ w2.heap.size := (by omega); have hn0_w2 : ¬ w.heap.size = w2.heap.size := (by omega); have hq0_w2 : ¬ w2.heap.size = w.heap.size := (by omega); have hr0_w2 := fun o => hc_w2 (w.heap.size) o (by (try simp only [size_drew', size_drewN', World.size_alloc, World.size_setCell]); omega); have hg0_w2 := fun o => hf_w2 (w.heap.size) o (by (try simp only [size_drew', size_drewN', World.size_alloc, World.size_setCell]); omega)))
        go_ret
        exact RetB.of rfl (by (repeat (first | exact Below.refl _ _ | assumption | refine Below.setCell ?_ (by first | omega | (simp <;> omega)) _ | refine Below.alloc ?_ (by first | omega | (simp <;> omega)) _ | refine Below.drew ?_ | refine below_drewN' ?_ _)))
  · have hf : Dc.right s.data.toList x = false := by simpa using hright
    rw [hf] at hr
    have HS := Lib.hid hsh; have HR := Lib.hid hr; clear hsh hr hright hf
    go_enter Tryd.func11, Tryd.ntmps11
    go_wp2_with (first | (go_at_call 30; (with_reducible refine (HS.out _ (by (repeat (first | exact Below.refl _ _ | assumption | refine Below.setCell ?_ (by first | omega | (simp <;> omega)) _ | refine Below.alloc ?_ (by first | omega | (simp <;> omega)) _ | refine Below.drew ?_ | refine below_drewN' ?_ _)))).mono ?_); rintro e w1 ⟨rfl, hb_w1⟩; have hB_w1 : Below (w).heap.size (w) w1 := Below.trans (by (repeat (first | exact Below.refl _ _ | assumption | refine Below.setCell ?_ (by first | omega | (simp <;> omega)) _ | refine Below.alloc ?_ (by first | omega | (simp <;> omega)) _ | refine Below.drew ?_ | refine below_drewN' ?_ _))) (hb_w1.mono (by first | omega | (simp <;> omega))); obtain ⟨hc_w1, hf_w1⟩ := bcell hb_w1; have hz_w1 := hb_w1.size; (try simp only [size_drew', size_drewN', World.size_alloc, World.size_setCell] at hz_w1); have hl0_w1 : w.heap.size < w1.heap.size := (by omega); have hm0_w1 : w.heap.size ≤ w1.heap.size := (by omega); have hn0_w1 : ¬ w.heap.size = w1.heap.size := (by omega); have hq0_w1 : ¬ w1.heap.size = w.heap.size := (by omega); have hr0_w1 := fun o => hc_w1 (w.heap.size) o (by (try simp only [size_drew', size_drewN', World.size_alloc, World.size_setCell]); omega); have hg0_w1 := fun o => hf_w1 (w.heap.size) o (by (try simp only [size_drew', size_drewN', World.size_alloc, World.size_setCell]); omega)) | (go_at_call 39; (with_reducible refine (HR.out _).mono ?_); rintro e w2 ⟨rfl, hb_w2⟩; have hB_w2 : Below (w).heap.size (w) w2 := Below.trans (by (repeat (first | exact Below.refl _ _ | assumption | refine Below.setCell ?_ (by first | omega | (simp <;> omega)) _ | refine Below.alloc ?_ (by first | omega | (simp <;> omega)) _ | refine Below.drew ?_ | refine below_drewN' ?_ _))) (hb_w2.mono (by first | omega | (simp <;> omega))); obtain ⟨hc_w2, hf_w2⟩ := bcell hb_w2; have hz_w2 := hb_w2.size; (try simp only [size_drew', size_drewN', World.size_alloc, World.size_setCell] at hz_w2); have hl0_w2 : w.heap.size < w2.heap.size := (by omega); have hm0_w2 : w.heap.size ≤ w2.heap.size := (by omega); have hn0_w2 : ¬ w.heap.size = w2.heap.size := (by omega); have hq0_w2 : ¬ w2.heap.size = w.heap.size := (by omega); have hr0_w2 := fun o => hc_w2 (w.heap.size) o (by (try simp only [size_drew', size_drewN', World.size_alloc, World.size_setCell]); omega); have hg0_w2 := fun o => hf_w2 (w.heap.size) o (by (try simp only [size_drew', size_drewN', World.size_alloc, World.size_setCell]); omega)))
    go_ret
    exact RetB.of rfl (by (repeat (first | exact Below.refl _ _ | assumption | refine Below.setCell ?_ (by first | omega | (simp <;> omega)) _ | refine Below.alloc ?_ (by first | omega | (simp <;> omega)) _ | refine Below.drew ?_ | refine below_drewN' ?_ _)))
end Go.Proofs.YtcbepojookbceaaDoor
