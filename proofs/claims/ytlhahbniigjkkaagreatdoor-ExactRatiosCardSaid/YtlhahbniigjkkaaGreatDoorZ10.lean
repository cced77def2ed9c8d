import Derived.Test.YtlhahbniigjkkaaGreatDoorZ9
import Derived.Test.YtlhahbniigjkkaaGreatDoorZ7
namespace Go.Proofs.YtlhahbniigjkkaaGreatDoor
set_option linter.all false
open Go.RowKit

theorem trimL0 (s : ByteArray) (w : World) : Calls Tryz.prog 106 #[.string s, .string ⟨#[48]⟩] w (Ret0 (.string ⟨(Dc.lead s.data.toList).toArray⟩) w) :=
  (Tryz.strings_TrimLeft_one s 48 (by decide) w).mono fun _ _ h => ⟨h.1, h.2.symm⟩
theorem trimR0 (s : ByteArray) (l : Dc.Bs) (w : World) (hl : s.data.toList = Dc.lead l) (hs : l.length ≤ 1000000000) : Calls Tryz.prog 107 #[.string s, .string ⟨#[48]⟩] w (Ret0 (.string ⟨(Dc.core l).toArray⟩) w) :=
  (Tryz.strings_TrimRight_one s 48 (by decide) w (by have h1 := congrArg List.length hl; have h2 := Dc.lead_len l; rw [bs_length] at h1; omega)).mono fun _ _ h => ⟨by rw [h.1, hl]; rfl, h.2.symm⟩

theorem retTuple {v v' : Value} {w w' : World} (h : v' = v) (hb : Below w.heap.size w w') : RetB v w (.returned v') w' := RetB.of h hb

set_option maxHeartbeats 400000 in
theorem d_make_small (n : Bool) (s : ByteArray) (x : Int) (w : World) (hs : s.size ≤ 1000000000) (hx : -1099511627776 ≤ x ∧ x < 1099511627776) :
    Calls Tryz.prog 78 #[.bool n, .string s, .int .i64 x] w (RetB (Dc.mk n s.data.toList x).val w) := by
  have h1 : (Dc.lead s.data.toList).length ≤ 1000000000 := by have := Dc.lead_len s.data.toList; rw [bs_length] at this; omega
  have h2 := Dc.core_len s.data.toList
  have h3 : (⟨(Dc.core s.data.toList).toArray⟩ : ByteArray).size ≤ 9223372036854775807 := by rw [size_mk]; omega
  obtain ⟨hx1, hx2⟩ := hx
  go_enter Tryz.func78, Tryz.ntmps78
  go_wp2_with (first
    | (go_at_call 56; (with_reducible refine (d_plain_any _ _).mono ?_); rintro e w1 ⟨rfl, hb_w1⟩; have hB_w1 : Below (w).heap.size (w) w1 := Below.trans (by (repeat (first | exact Below.refl _ _ | assumption | refine Below.setCell ?_ (by first | omega | (simp <;> omega)) _ | refine Below.alloc ?_ (by first | omega | (simp <;> omega)) _ | refine Below.drew ?_ | refine below_drewN' ?_ _))) (hb_w1.mono (by first | omega | (simp <;> omega))); obtain ⟨hc_w1, hf_w1⟩ := bcell hb_w1; have hz_w1 := hb_w1.size; (try simp only [size_drew', size_drewN', World.size_alloc, World.size_setCell] at hz_w1); have hl0_w1 : w.heap.size < w1.heap.size := (by omega); have hm0_w1 : w.heap.size ≤ w1.heap.size := (by omega); have hn0_w1 : ¬ w.heap.size = w1.heap.size := (by omega); have hq0_w1 : ¬ w1.heap.size = w.heap.size := (by omega); have hr0_w1 := fun o => hc_w1 (w.heap.size) o (by (try simp only [size_drew', size_drewN', World.size_alloc, World.size_setCell]); omega); have hg0_w1 := fun o => hf_w1 (w.heap.size) o (by (try simp only [size_drew', size_drewN', World.size_alloc, World.size_setCell]); omega))
    | (go_at_call 106; (with_reducible refine (trimL0 _ _).mono ?_); rintro e w' ⟨rfl, rfl⟩)
    | (go_at_call 107; (with_reducible refine (trimR0 _ s.data.toList _ (by simp) (by simpa using hs)).mono ?_); rintro e w' ⟨rfl, rfl⟩)
    | (go_at_call 21; (with_reducible refine (d_right_any _ ⟨(Dc.core s.data.toList).toArray⟩ _ _ h3).mono ?_); rintro e w3 ⟨rfl, hb_w3⟩; have hB_w3 : Below (w).heap.size (w) w3 := Below.trans (by (repeat (first | exact Below.refl _ _ | assumption | refine Below.setCell ?_ (by first | omega | (simp <;> omega)) _ | refine Below.alloc ?_ (by first | omega | (simp <;> omega)) _ | refine Below.drew ?_ | refine below_drewN' ?_ _))) (hb_w3.mono (by first | omega | (simp <;> omega))); obtain ⟨hc_w3, hf_w3⟩ := bcell hb_w3; have hz_w3 := hb_w3.size; (try simp only [size_drew', size_drewN', World.size_alloc, World.size_setCell] at hz_w3); have hl0_w3 : w.heap.size < w3.heap.size := (by omega); have hm0_w3 : w.heap.size ≤ w3.heap.size := (by omega); have hn0_w3 : ¬ w.heap.size = w3.heap.size := (by omega); have hq0_w3 : ¬ w3.heap.size = w.heap.size := (by omega); have hr0_w3 := fun o => hc_w3 (w.heap.size) o (by (try simp only [size_drew', size_drewN', World.size_alloc, World.size_setCell]); omega); have hg0_w3 := fun o => hf_w3 (w.heap.size) o (by (try simp only [size_drew', size_drewN', World.size_alloc, World.size_setCell]); omega)))
  · have h : (!Dc.allDig s.data.toList) = true := by assumption
    (refine bodyPost_ret (v := Dc.Res.val ⟨false, [], 0, 3⟩) (by (simp [results, Tryz.results78, go_sem, Dc.Res.val, hr0_w1, hl0_w1, hm0_w1, hn0_w1, hq0_w1]; done)) rfl (RetB.of (by rw [Dc.mk_bad (by simpa using h)]) (by (repeat (first | exact Below.refl _ _ | assumption | refine Below.setCell ?_ (by first | omega | (simp <;> omega)) _ | refine Below.alloc ?_ (by first | omega | (simp <;> omega)) _ | refine Below.drew ?_ | refine below_drewN' ?_ _)))))
  · have h0 : (!Dc.allDig s.data.toList) = false := by assumption
    have h : List.isEmpty (Dc.core s.data.toList) = true := by assumption
    have h' : Dc.core s.data.toList = [] := by simpa using h
    (refine bodyPost_ret (v := Dc.Res.val ⟨n, Dc.core s.data.toList, 0, 0⟩) (by (simp [results, Tryz.results78, go_sem, Dc.Res.val, hr0_w1, hl0_w1, hm0_w1, hn0_w1, hq0_w1]; done)) rfl (RetB.of (by rw [Dc.mk_zero (by simpa using h0) h', h']) (by (repeat (first | exact Below.refl _ _ | assumption | refine Below.setCell ?_ (by first | omega | (simp <;> omega)) _ | refine Below.alloc ?_ (by first | omega | (simp <;> omega)) _ | refine Below.drew ?_ | refine below_drewN' ?_ _)))))
  · have h0 : (!Dc.allDig s.data.toList) = false := by assumption
    have h : List.isEmpty (Dc.core s.data.toList) = false := by assumption
    have h2 : (!Dc.right (Dc.core s.data.toList) (x + (((Dc.lead s.data.toList).length : Int) - (Dc.core s.data.toList).length))) = true := by assumption
    (refine bodyPost_ret (v := Dc.Res.val ⟨false, [], 0, 2⟩) (by (simp [results, Tryz.results78, go_sem, Dc.Res.val, hr0_w1, hl0_w1, hm0_w1, hn0_w1, hq0_w1, hr0_w3, hl0_w3, hm0_w3, hn0_w3, hq0_w3]; done)) rfl (RetB.of (by rw [Dc.mk_over (by simpa using h0) (by simpa using h) (by rw [Dc.tz_int]; simpa using h2)]) (by (repeat (first | exact Below.refl _ _ | assumption | refine Below.setCell ?_ (by first | omega | (simp <;> omega)) _ | refine Below.alloc ?_ (by first | omega | (simp <;> omega)) _ | refine Below.drew ?_ | refine below_drewN' ?_ _)))))
  · have h0 : (!Dc.allDig s.data.toList) = false := by assumption
    have h : List.isEmpty (Dc.core s.data.toList) = false := by assumption
    have h2 : (!Dc.right (Dc.core s.data.toList) (x + (((Dc.lead s.data.toList).length : Int) - (Dc.core s.data.toList).length))) = false := by assumption
    (refine bodyPost_ret (v := Dc.Res.val ⟨n, Dc.core s.data.toList, x + (((Dc.lead s.data.toList).length : Int) - (Dc.core s.data.toList).length), 0⟩) (by (simp [results, Tryz.results78, go_sem, Dc.Res.val, hr0_w1, hl0_w1, hm0_w1, hn0_w1, hq0_w1, hr0_w3, hl0_w3, hm0_w3, hn0_w3, hq0_w3]; done)) rfl (RetB.of (by rw [Dc.mk_ok (by simpa using h0) (by simpa using h) (by rw [Dc.tz_int]; simpa using h2), Dc.tz_int]) (by (repeat (first | exact Below.refl _ _ | assumption | refine Below.setCell ?_ (by first | omega | (simp <;> omega)) _ | refine Below.alloc ?_ (by first | omega | (simp <;> omega)) _ | refine Below.drew ?_ | refine below_drewN' ?_ _)))))
set_option maxHeartbeats 400000 in
theorem d_make_lo (n : Bool) (s : ByteArray) (x : Int) (w : World) (hs : s.size ≤ 1000000000) (hx : -9223372036854775808 ≤ x ∧ x ≤ 9223372036854775807) (hf : x < -1099511627776) :
    Calls Tryz.prog 78 #[.bool n, .string s, .int .i64 x] w (RetB (Dc.mk n s.data.toList x).val w) := by
  have h1 : (Dc.lead s.data.toList).length ≤ 1000000000 := by have := Dc.lead_len s.data.toList; rw [bs_length] at this; omega
  have h2 := Dc.core_len s.data.toList
  have h3 : (⟨(Dc.core s.data.toList).toArray⟩ : ByteArray).size ≤ 9223372036854775807 := by rw [size_mk]; omega
  obtain ⟨hx1, hx2⟩ := hx
  have hn : Dc.core s.data.toList ≠ [] → _ := fun hne => Dc.far_not (by simpa using hs) hne (.inl hf)
  have HN := Lib.hid hn; clear hn
  go_enter Tryz.func78, Tryz.ntmps78
  go_wp2_with (first
    | (go_at_call 56; (with_reducible refine (d_plain_any _ _).mono ?_); rintro e w1 ⟨rfl, hb_w1⟩; have hB_w1 : Below (w).heap.size (w) w1 := Below.trans (by (repeat (first | exact Below.refl _ _ | assumption | refine Below.setCell ?_ (by first | omega | (simp <;> omega)) _ | refine Below.alloc ?_ (by first | omega | (simp <;> omega)) _ | refine Below.drew ?_ | refine below_drewN' ?_ _))) (hb_w1.mono (by first | omega | (simp <;> omega))); obtain ⟨hc_w1, hf_w1⟩ := bcell hb_w1; have hz_w1 := hb_w1.size; (try simp only [size_drew', size_drewN', World.size_alloc, World.size_setCell] at hz_w1); have hl0_w1 : w.heap.size < w1.heap.size := (by omega); have hm0_w1 : w.heap.size ≤ w1.heap.size := (by omega); have hn0_w1 : ¬ w.heap.size = w1.heap.size := (by omega); have hq0_w1 : ¬ w1.heap.size = w.heap.size := (by omega); have hr0_w1 := fun o => hc_w1 (w.heap.size) o (by (try simp only [size_drew', size_drewN', World.size_alloc, World.size_setCell]); omega); have hg0_w1 := fun o => hf_w1 (w.heap.size) o (by (try simp only [size_drew', size_drewN', World.size_alloc, World.size_setCell]); omega))
    | (go_at_call 106; (with_reducible refine (trimL0 _ _).mono ?_); rintro e w' ⟨rfl, rfl⟩)
    | (go_at_call 107; (with_reducible refine (trimR0 _ s.data.toList _ (by simp) (by simpa using hs)).mono ?_); rintro e w' ⟨rfl, rfl⟩)
    | (go_at_call 21; (with_reducible refine (d_right_any _ ⟨(Dc.core s.data.toList).toArray⟩ _ _ h3).mono ?_); rintro e w3 ⟨rfl, hb_w3⟩; have hB_w3 : Below (w).heap.size (w) w3 := Below.trans (by (repeat (first | exact Below.refl _ _ | assumption | refine Below.setCell ?_ (by first | omega | (simp <;> omega)) _ | refine Below.alloc ?_ (by first | omega | (simp <;> omega)) _ | refine Below.drew ?_ | refine below_drewN' ?_ _))) (hb_w3.mono (by first | omega | (simp <;> omega))); obtain ⟨hc_w3, hf_w3⟩ := bcell hb_w3; have hz_w3 := hb_w3.size; (try simp only [size_drew', size_drewN', World.size_alloc, World.size_setCell] at hz_w3); have hl0_w3 : w.heap.size < w3.heap.size := (by omega); have hm0_w3 : w.heap.size ≤ w3.heap.size := (by omega); have hn0_w3 : ¬ w.heap.size = w3.heap.size := (by omega); have hq0_w3 : ¬ w3.heap.size = w.heap.size := (by omega); have hr0_w3 := fun o => hc_w3 (w.heap.size) o (by (try simp only [size_drew', size_drewN', World.size_alloc, World.size_setCell]); omega); have hg0_w3 := fun o => hf_w3 (w.heap.size) o (by (try simp only [size_drew', size_drewN', World.size_alloc, World.size_setCell]); omega)))
  · have h : (!Dc.allDig s.data.toList) = true := by assumption
    (refine bodyPost_ret (v := Dc.Res.val ⟨false, [], 0, 3⟩) (by (simp [results, Tryz.results78, go_sem, Dc.Res.val, hr0_w1, hl0_w1, hm0_w1, hn0_w1, hq0_w1]; done)) rfl (RetB.of (by rw [Dc.mk_bad (by simpa using h)]) (by (repeat (first | exact Below.refl _ _ | assumption | refine Below.setCell ?_ (by first | omega | (simp <;> omega)) _ | refine Below.alloc ?_ (by first | omega | (simp <;> omega)) _ | refine Below.drew ?_ | refine below_drewN' ?_ _)))))
  · have h0 : (!Dc.allDig s.data.toList) = false := by assumption
    have h : List.isEmpty (Dc.core s.data.toList) = true := by assumption
    have h' : Dc.core s.data.toList = [] := by simpa using h
    (refine bodyPost_ret (v := Dc.Res.val ⟨n, Dc.core s.data.toList, 0, 0⟩) (by (simp [results, Tryz.results78, go_sem, Dc.Res.val, hr0_w1, hl0_w1, hm0_w1, hn0_w1, hq0_w1]; done)) rfl (RetB.of (by rw [Dc.mk_zero (by simpa using h0) h', h']) (by (repeat (first | exact Below.refl _ _ | assumption | refine Below.setCell ?_ (by first | omega | (simp <;> omega)) _ | refine Below.alloc ?_ (by first | omega | (simp <;> omega)) _ | refine Below.drew ?_ | refine below_drewN' ?_ _)))))
  · have h0 : (!Dc.allDig s.data.toList) = false := by assumption
    have h : List.isEmpty (Dc.core s.data.toList) = false := by assumption
    have hn := HN.out (by simpa using h)
    (refine bodyPost_ret (v := Dc.Res.val ⟨false, [], 0, 2⟩) (by (simp [results, Tryz.results78, go_sem, Dc.Res.val, hr0_w1, hl0_w1, hm0_w1, hn0_w1, hq0_w1, hr0_w3, hl0_w3, hm0_w3, hn0_w3, hq0_w3]; done)) rfl (RetB.of (by rw [Dc.mk_over (by simpa using h0) (by simpa using h) hn.1]) (by (repeat (first | exact Below.refl _ _ | assumption | refine Below.setCell ?_ (by first | omega | (simp <;> omega)) _ | refine Below.alloc ?_ (by first | omega | (simp <;> omega)) _ | refine Below.drew ?_ | refine below_drewN' ?_ _)))))
  · have h : List.isEmpty (Dc.core s.data.toList) = false := by assumption
    have h2 : (!Dc.right (Dc.core s.data.toList) x) = false := by assumption
    exact absurd (by simpa using h2) (HN.out (by simpa using h)).2

set_option maxHeartbeats 400000 in
theorem d_make_hi (n : Bool) (s : ByteArray) (x : Int) (w : World) (hs : s.size ≤ 1000000000) (hx : -9223372036854775808 ≤ x ∧ x ≤ 9223372036854775807) (hf : 1099511627776 ≤ x) :
    Calls Tryz.prog 78 #[.bool n, .string s, .int .i64 x] w (RetB (Dc.mk n s.data.toList x).val w) := by
  have h1 : (Dc.lead s.data.toList).length ≤ 1000000000 := by have := Dc.lead_len s.data.toList; rw [bs_length] at this; omega
  have h2 := Dc.core_len s.data.toList
  have h3 : (⟨(Dc.core s.data.toList).toArray⟩ : ByteArray).size ≤ 9223372036854775807 := by rw [size_mk]; omega
  obtain ⟨hx1, hx2⟩ := hx
  have hn : Dc.core s.data.toList ≠ [] → _ := fun hne => Dc.far_not (by simpa using hs) hne (.inr hf)
  have HN := Lib.hid hn; clear hn
  go_enter Tryz.func78, Tryz.ntmps78
  go_wp2_with (first
    | (go_at_call 56; (with_reducible refine (d_plain_any _ _).mono ?_); rintro e w1 ⟨rfl, hb_w1⟩; have hB_w1 : Below (w).heap.size (w) w1 := Below.trans (by (repeat (first | exact Below.refl _ _ | assumption | refine Below.setCell ?_ (by first | omega | (simp <;> omega)) _ | refine Below.alloc ?_ (by first | omega | (simp <;> omega)) _ | refine Below.drew ?_ | refine below_drewN' ?_ _))) (hb_w1.mono (by first | omega | (simp <;> omega))); obtain ⟨hc_w1, hf_w1⟩ := bcell hb_w1; have hz_w1 := hb_w1.size; (try simp only [size_drew', size_drewN', World.size_alloc, World.size_setCell] at hz_w1); have hl0_w1 : w.heap.size < w1.heap.size := (by omega); have hm0_w1 : w.heap.size ≤ w1.heap.size := (by omega); have hn0_w1 : ¬ w.heap.size = w1.heap.size := (by omega); have hq0_w1 : ¬ w1.heap.size = w.heap.size := (by omega); have hr0_w1 := fun o => hc_w1 (w.heap.size) o (by (try simp only [size_drew', size_drewN', World.size_alloc, World.size_setCell]); omega); have hg0_w1 := fun o => hf_w1 (w.heap.size) o (by (try simp only [size_drew', size_drewN', World.size_alloc, World.size_setCell]); omega))
    | (go_at_call 106; (with_reducible refine (trimL0 _ _).mono ?_); rintro e w' ⟨rfl, rfl⟩)
    | (go_at_call 107; (with_reducible refine (trimR0 _ s.data.toList _ (by simp) (by simpa using hs)).mono ?_); rintro e w' ⟨rfl, rfl⟩)
    | (go_at_call 21; (with_reducible refine (d_right_any _ ⟨(Dc.core s.data.toList).toArray⟩ _ _ h3).mono ?_); rintro e w3 ⟨rfl, hb_w3⟩; have hB_w3 : Below (w).heap.size (w) w3 := Below.trans (by (repeat (first | exact Below.refl _ _ | assumption | refine Below.setCell ?_ (by first | omega | (simp <;> omega)) _ | refine Below.alloc ?_ (by first | omega | (simp <;> omega)) _ | refine Below.drew ?_ | refine below_drewN' ?_ _))) (hb_w3.mono (by first | omega | (simp <;> omega))); obtain ⟨hc_w3, hf_w3⟩ := bcell hb_w3; have hz_w3 := hb_w3.size; (try simp only [size_drew', size_drewN', World.size_alloc, World.size_setCell] at hz_w3); have hl0_w3 : w.heap.size < w3.heap.size := (by omega); have hm0_w3 : w.heap.size ≤ w3.heap.size := (by omega); have hn0_w3 : ¬ w.heap.size = w3.heap.size := (by omega); have hq0_w3 : ¬ w3.heap.size = w.heap.size := (by omega); have hr0_w3 := fun o => hc_w3 (w.heap.size) o (by (try simp only [size_drew', size_drewN', World.size_alloc, World.size_setCell]); omega); have hg0_w3 := fun o => hf_w3 (w.heap.size) o (by (try simp only [size_drew', size_drewN', World.size_alloc, World.size_setCell]); omega)))
  · have h : (!Dc.allDig s.data.toList) = true := by assumption
    (refine bodyPost_ret (v := Dc.Res.val ⟨false, [], 0, 3⟩) (by (simp [results, Tryz.results78, go_sem, Dc.Res.val, hr0_w1, hl0_w1, hm0_w1, hn0_w1, hq0_w1]; done)) rfl (RetB.of (by rw [Dc.mk_bad (by simpa using h)]) (by (repeat (first | exact Below.refl _ _ | assumption | refine Below.setCell ?_ (by first | omega | (simp <;> omega)) _ | refine Below.alloc ?_ (by first | omega | (simp <;> omega)) _ | refine Below.drew ?_ | refine below_drewN' ?_ _)))))
  · have h0 : (!Dc.allDig s.data.toList) = false := by assumption
    have h : List.isEmpty (Dc.core s.data.toList) = true := by assumption
    have h' : Dc.core s.data.toList = [] := by simpa using h
    (refine bodyPost_ret (v := Dc.Res.val ⟨n, Dc.core s.data.toList, 0, 0⟩) (by (simp [results, Tryz.results78, go_sem, Dc.Res.val, hr0_w1, hl0_w1, hm0_w1, hn0_w1, hq0_w1]; done)) rfl (RetB.of (by rw [Dc.mk_zero (by simpa using h0) h', h']) (by (repeat (first | exact Below.refl _ _ | assumption | refine Below.setCell ?_ (by first | omega | (simp <;> omega)) _ | refine Below.alloc ?_ (by first | omega | (simp <;> omega)) _ | refine Below.drew ?_ | refine below_drewN' ?_ _)))))
  · have h0 : (!Dc.allDig s.data.toList) = false := by assumption
    have h : List.isEmpty (Dc.core s.data.toList) = false := by assumption
    have hn := HN.out (by simpa using h)
    (refine bodyPost_ret (v := Dc.Res.val ⟨false, [], 0, 2⟩) (by (simp [results, Tryz.results78, go_sem, Dc.Res.val, hr0_w1, hl0_w1, hm0_w1, hn0_w1, hq0_w1, hr0_w3, hl0_w3, hm0_w3, hn0_w3, hq0_w3]; done)) rfl (RetB.of (by rw [Dc.mk_over (by simpa using h0) (by simpa using h) hn.1]) (by (repeat (first | exact Below.refl _ _ | assumption | refine Below.setCell ?_ (by first | omega | (simp <;> omega)) _ | refine Below.alloc ?_ (by first | omega | (simp <;> omega)) _ | refine Below.drew ?_ | refine below_drewN' ?_ _)))))
  · have h : List.isEmpty (Dc.core s.data.toList) = false := by assumption
    have h2 : (!Dc.right (Dc.core s.data.toList) x) = false := by assumption
    exact absurd (by simpa using h2) (HN.out (by simpa using h)).2

theorem d_make_any (n : Bool) (s : ByteArray) (x : Int) (w : World) (hs : s.size ≤ 1000000000) (hx : -9223372036854775808 ≤ x ∧ x ≤ 9223372036854775807) :
    Calls Tryz.prog 78 #[.bool n, .string s, .int .i64 x] w (RetB (Dc.mk n s.data.toList x).val w) := by
  by_cases h : x < -1099511627776
  · exact d_make_lo n s x w hs hx h
  · by_cases h' : x < 1099511627776
    · exact d_make_small n s x w hs ⟨by omega, h'⟩
    · exact d_make_hi n s x w hs hx (by omega)

end Go.Proofs.YtlhahbniigjkkaaGreatDoor
