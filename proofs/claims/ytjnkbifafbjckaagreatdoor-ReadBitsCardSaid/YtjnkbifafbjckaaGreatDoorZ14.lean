import Derived.Test.YtjnkbifafbjckaaGreatDoorZ13
import Derived.Test.YtjnkbifafbjckaaGreatDoorZ5
import Derived.Test.YtjnkbifafbjckaaGreatDoorZ10
import Derived.Test.YtjnkbifafbjckaaGreatDoorZ6
import Derived.Test.YtjnkbifafbjckaaGreatDoorZ1
import Derived.Laws.AppendOwn
import Derived.Laws.OwnMore
import Derived.Laws.AppendOwnNone
namespace Go.Proofs.YtjnkbifafbjckaaGreatDoor
set_option linter.all false
open Go.RowKit

theorem trimL0 (s : ByteArray) (w : World) : Calls Tryz.prog 174 #[.string s, .string ⟨#[48]⟩] w (Ret0 (.string ⟨(Dc.lead s.data.toList).toArray⟩) w) :=
  (Tryz.strings_TrimLeft_one s 48 (by decide) w).mono fun _ _ h => ⟨h.1, h.2.symm⟩
theorem trimR0 (s : ByteArray) (l : Dc.Bs) (w : World) (hl : s.data.toList = Dc.lead l) (hs : l.length ≤ 1000000000) : Calls Tryz.prog 175 #[.string s, .string ⟨#[48]⟩] w (Ret0 (.string ⟨(Dc.core l).toArray⟩) w) :=
  (Tryz.strings_TrimRight_one s 48 (by decide) w (by have h1 := congrArg List.length hl; have h2 := Dc.lead_len l; rw [bs_length] at h1; omega)).mono fun _ _ h => ⟨by rw [h.1, hl]; rfl, h.2.symm⟩

set_option maxHeartbeats 400000 in
theorem d_make_small (n : Bool) (s : ByteArray) (x : Int) (w : World) (hs : s.size ≤ 1000000000) (hx : -1099511627776 ≤ x ∧ x < 1099511627776) :
    Calls Tryz.prog 133 #[.bool n, .string s, .int .i64 x] w (RetB (Dc.mk n s.data.toList x).val w) := by
  have h1 : (Dc.lead s.data.toList).length ≤ 1000000000 := by have := Dc.lead_len s.data.toList; rw [bs_length] at this; omega
  have h2 := Dc.core_len s.data.toList
  have h3 : (⟨(Dc.core s.data.toList).toArray⟩ : ByteArray).size ≤ 9223372036854775807 := by rw [size_mk]; omega
  obtain ⟨hx1, hx2⟩ := hx
  go_enter Tryz.func133, Tryz.ntmps133
  go_wp2_with (first
    | (go_at_call 73; (with_reducible refine (d_plain_any _ _).mono ?_); rintro e w1 ⟨rfl, hb_w1⟩; have hB_w1 : Below (w).heap.size (w) w1 := Below.trans (by (repeat (first | exact Below.refl _ _ | assumption | refine Below.setCell ?_ (by first | omega | (simp <;> omega)) _ | refine Below.alloc ?_ (by first | omega | (simp <;> omega)) _ | refine Below.drew ?_ | refine below_drewN' ?_ _))) (hb_w1.mono (by first | omega | (simp <;> omega))); obtain ⟨hc_w1, hf_w1⟩ := bcell hb_w1; have hz_w1 := hb_w1.size; (try simp only [size_drew', size_drewN', World.size_alloc, World.size_setCell] at hz_w1); have hl0_w1 : w.heap.size < w1.heap.size := (by omega); have hm0_w1 : w.heap.size ≤ w1.heap.size := (by omega); have hn0_w1 : ¬ w.heap.size = w1.heap.size := (by omega); have hq0_w1 : ¬ w1.heap.size = w.heap.size := (by omega); have hr0_w1 := fun o => hc_w1 (w.heap.size) o (by (try simp only [size_drew', size_drewN', World.size_alloc, World.size_setCell]); omega); have hg0_w1 := fun o => hf_w1 (w.heap.size) o (by (try simp only [size_drew', size_drewN', World.size_alloc, World.size_setCell]); omega))
    | (go_at_call 174; (with_reducible refine (trimL0 _ _).mono ?_); rintro e w' ⟨rfl, rfl⟩)
    | (go_at_call 175; (with_reducible refine (trimR0 _ s.data.toList _ (by simp) (by simpa using hs)).mono ?_); rintro e w' ⟨rfl, rfl⟩)
    | (go_at_call 20; (with_reducible refine (d_right_any _ ⟨(Dc.core s.data.toList).toArray⟩ _ _ h3).mono ?_); rintro e w3 ⟨rfl, hb_w3⟩; have hB_w3 : Below (w).heap.size (w) w3 := Below.trans (by (repeat (first | exact Below.refl _ _ | assumption | refine Below.setCell ?_ (by first | omega | (simp <;> omega)) _ | refine Below.alloc ?_ (by first | omega | (simp <;> omega)) _ | refine Below.drew ?_ | refine below_drewN' ?_ _))) (hb_w3.mono (by first | omega | (simp <;> omega))); obtain ⟨hc_w3, hf_w3⟩ := bcell hb_w3; have hz_w3 := hb_w3.size; (try simp only [size_drew', size_drewN', World.size_alloc, World.size_setCell] at hz_w3); have hl0_w3 : w.heap.size < w3.heap.size := (by omega); have hm0_w3 : w.heap.size ≤ w3.heap.size := (by omega); have hn0_w3 : ¬ w.heap.size = w3.heap.size := (by omega); have hq0_w3 : ¬ w3.heap.size = w.heap.size := (by omega); have hr0_w3 := fun o => hc_w3 (w.heap.size) o (by (try simp only [size_drew', size_drewN', World.size_alloc, World.size_setCell]); omega); have hg0_w3 := fun o => hf_w3 (w.heap.size) o (by (try simp only [size_drew', size_drewN', World.size_alloc, World.size_setCell]); omega)))
  · have h : (!Dc.allDig s.data.toList) = true := by assumption
    (refine bodyPost_ret (v := Dc.Res.val ⟨false, [], 0, 3⟩) (by (simp [results, Tryz.results133, go_sem, Dc.Res.val, hr0_w1, hl0_w1, hm0_w1, hn0_w1, hq0_w1]; done)) rfl (RetB.of (by rw [Dc.mk_bad (by simpa using h)]) (by (repeat (first | exact Below.refl _ _ | assumption | refine Below.setCell ?_ (by first | omega | (simp <;> omega)) _ | refine Below.alloc ?_ (by first | omega | (simp <;> omega)) _ | refine Below.drew ?_ | refine below_drewN' ?_ _)))))
  · have h0 : (!Dc.allDig s.data.toList) = false := by assumption
    have h : List.isEmpty (Dc.core s.data.toList) = true := by assumption
    have h' : Dc.core s.data.toList = [] := by simpa using h
    (refine bodyPost_ret (v := Dc.Res.val ⟨n, Dc.core s.data.toList, 0, 0⟩) (by (simp [results, Tryz.results133, go_sem, Dc.Res.val, hr0_w1, hl0_w1, hm0_w1, hn0_w1, hq0_w1]; done)) rfl (RetB.of (by rw [Dc.mk_zero (by simpa using h0) h', h']) (by (repeat (first | exact Below.refl _ _ | assumption | refine Below.setCell ?_ (by first | omega | (simp <;> omega)) _ | refine Below.alloc ?_ (by first | omega | (simp <;> omega)) _ | refine Below.drew ?_ | refine below_drewN' ?_ _)))))
  · have h0 : (!Dc.allDig s.data.toList) = false := by assumption
    have h : List.isEmpty (Dc.core s.data.toList) = false := by assumption
    have h2 : (!Dc.right (Dc.core s.data.toList) (x + (((Dc.lead s.data.toList).length : Int) - (Dc.core s.data.toList).length))) = true := by assumption
    (refine bodyPost_ret (v := Dc.Res.val ⟨false, [], 0, 2⟩) (by (simp [results, Tryz.results133, go_sem, Dc.Res.val, hr0_w1, hl0_w1, hm0_w1, hn0_w1, hq0_w1, hr0_w3, hl0_w3, hm0_w3, hn0_w3, hq0_w3]; done)) rfl (RetB.of (by rw [Dc.mk_over (by simpa using h0) (by simpa using h) (by rw [Dc.tz_int]; simpa using h2)]) (by (repeat (first | exact Below.refl _ _ | assumption | refine Below.setCell ?_ (by first | omega | (simp <;> omega)) _ | refine Below.alloc ?_ (by first | omega | (simp <;> omega)) _ | refine Below.drew ?_ | refine below_drewN' ?_ _)))))
  · have h0 : (!Dc.allDig s.data.toList) = false := by assumption
    have h : List.isEmpty (Dc.core s.data.toList) = false := by assumption
    have h2 : (!Dc.right (Dc.core s.data.toList) (x + (((Dc.lead s.data.toList).length : Int) - (Dc.core s.data.toList).length))) = false := by assumption
    (refine bodyPost_ret (v := Dc.Res.val ⟨n, Dc.core s.data.toList, x + (((Dc.lead s.data.toList).length : Int) - (Dc.core s.data.toList).length), 0⟩) (by (simp [results, Tryz.results133, go_sem, Dc.Res.val, hr0_w1, hl0_w1, hm0_w1, hn0_w1, hq0_w1, hr0_w3, hl0_w3, hm0_w3, hn0_w3, hq0_w3]; done)) rfl (RetB.of (by rw [Dc.mk_ok (by simpa using h0) (by simpa using h) (by rw [Dc.tz_int]; simpa using h2), Dc.tz_int]) (by (repeat (first | exact Below.refl _ _ | assumption | refine Below.setCell ?_ (by first | omega | (simp <;> omega)) _ | refine Below.alloc ?_ (by first | omega | (simp <;> omega)) _ | refine Below.drew ?_ | refine below_drewN' ?_ _)))))
set_option maxHeartbeats 400000 in
theorem d_make_lo (n : Bool) (s : ByteArray) (x : Int) (w : World) (hs : s.size ≤ 1000000000) (hx : -9223372036854775808 ≤ x ∧ x ≤ 9223372036854775807) (hf : x < -1099511627776) :
    Calls Tryz.prog 133 #[.bool n, .string s, .int .i64 x] w (RetB (Dc.mk n s.data.toList x).val w) := by
  have h1 : (Dc.lead s.data.toList).length ≤ 1000000000 := by have := Dc.lead_len s.data.toList; rw [bs_length] at this; omega
  have h2 := Dc.core_len s.data.toList
  have h3 : (⟨(Dc.core s.data.toList).toArray⟩ : ByteArray).size ≤ 9223372036854775807 := by rw [size_mk]; omega
  obtain ⟨hx1, hx2⟩ := hx
  have hn : Dc.core s.data.toList ≠ [] → _ := fun hne => Dc.far_not (by simpa using hs) hne (.inl hf)
  have HN := Lib.hid hn; clear hn
  go_enter Tryz.func133, Tryz.ntmps133
  go_wp2_with (first
    | (go_at_call 73; (with_reducible refine (d_plain_any _ _).mono ?_); rintro e w1 ⟨rfl, hb_w1⟩; have hB_w1 : Below (w).heap.size (w) w1 := Below.trans (by (repeat (first | exact Below.refl _ _ | assumption | refine Below.setCell ?_ (by first | omega | (simp <;> omega)) _ | refine Below.alloc ?_ (by first | omega | (simp <;> omega)) _ | refine Below.drew ?_ | refine below_drewN' ?_ _))) (hb_w1.mono (by first | omega | (simp <;> omega))); obtain ⟨hc_w1, hf_w1⟩ := bcell hb_w1; have hz_w1 := hb_w1.size; (try simp only [size_drew', size_drewN', World.size_alloc, World.size_setCell] at hz_w1); have hl0_w1 : w.heap.size < w1.heap.size := (by omega); have hm0_w1 : w.heap.size ≤ w1.heap.size := (by omega); have hn0_w1 : ¬ w.heap.size = w1.heap.size := (by omega); have hq0_w1 : ¬ w1.heap.size = w.heap.size := (by omega); have hr0_w1 := fun o => hc_w1 (w.heap.size) o (by (try simp only [size_drew', size_drewN', World.size_alloc, World.size_setCell]); omega); have hg0_w1 := fun o => hf_w1 (w.heap.size) o (by (try simp only [size_drew', size_drewN', World.size_alloc, World.size_setCell]); omega))
    | (go_at_call 174; (with_reducible refine (trimL0 _ _).mono ?_); rintro e w' ⟨rfl, rfl⟩)
    | (go_at_call 175; (with_reducible refine (trimR0 _ s.data.toList _ (by simp) (by simpa using hs)).mono ?_); rintro e w' ⟨rfl, rfl⟩)
    | (go_at_call 20; (with_reducible refine (d_right_any _ ⟨(Dc.core s.data.toList).toArray⟩ _ _ h3).mono ?_); rintro e w3 ⟨rfl, hb_w3⟩; have hB_w3 : Below (w).heap.size (w) w3 := Below.trans (by (repeat (first | exact Below.refl _ _ | assumption | refine Below.setCell ?_ (by first | omega | (simp <;> omega)) _ | refine Below.alloc ?_ (by first | omega | (simp <;> omega)) _ | refine Below.drew ?_ | refine below_drewN' ?_ _))) (hb_w3.mono (by first | omega | (simp <;> omega))); obtain ⟨hc_w3, hf_w3⟩ := bcell hb_w3; have hz_w3 := hb_w3.size; (try simp only [size_drew', size_drewN', World.size_alloc, World.size_setCell] at hz_w3); have hl0_w3 : w.heap.size < w3.heap.size := (by omega); have hm0_w3 : w.heap.size ≤ w3.heap.size := (by omega); have hn0_w3 : ¬ w.heap.size = w3.heap.size := (by omega); have hq0_w3 : ¬ w3.heap.size = w.heap.size := (by omega); have hr0_w3 := fun o => hc_w3 (w.heap.size) o (by (try simp only [size_drew', size_drewN', World.size_alloc, World.size_setCell]); omega); have hg0_w3 := fun o => hf_w3 (w.heap.size) o (by (try simp only [size_drew', size_drewN', World.size_alloc, World.size_setCell]); omega)))
  · have h : (!Dc.allDig s.data.toList) = true := by assumption
    (refine bodyPost_ret (v := Dc.Res.val ⟨false, [], 0, 3⟩) (by (simp [results, Tryz.results133, go_sem, Dc.Res.val, hr0_w1, hl0_w1, hm0_w1, hn0_w1, hq0_w1]; done)) rfl (RetB.of (by rw [Dc.mk_bad (by simpa using h)]) (by (repeat (first | exact Below.refl _ _ | assumption | refine Below.setCell ?_ (by first | omega | (simp <;> omega)) _ | refine Below.alloc ?_ (by first | omega | (simp <;> omega)) _ | refine Below.drew ?_ | refine below_drewN' ?_ _)))))
  · have h0 : (!Dc.allDig s.data.toList) = false := by assumption
    have h : List.isEmpty (Dc.core s.data.toList) = true := by assumption
    have h' : Dc.core s.data.toList = [] := by simpa using h
    (refine bodyPost_ret (v := Dc.Res.val ⟨n, Dc.core s.data.toList, 0, 0⟩) (by (simp [results, Tryz.results133, go_sem, Dc.Res.val, hr0_w1, hl0_w1, hm0_w1, hn0_w1, hq0_w1]; done)) rfl (RetB.of (by rw [Dc.mk_zero (by simpa using h0) h', h']) (by (repeat (first | exact Below.refl _ _ | assumption | refine Below.setCell ?_ (by first | omega | (simp <;> omega)) _ | refine Below.alloc ?_ (by first | omega | (simp <;> omega)) _ | refine Below.drew ?_ | refine below_drewN' ?_ _)))))
  · have h0 : (!Dc.allDig s.data.toList) = false := by assumption
    have h : List.isEmpty (Dc.core s.data.toList) = false := by assumption
    have hn := HN.out (by simpa using h)
    (refine bodyPost_ret (v := Dc.Res.val ⟨false, [], 0, 2⟩) (by (simp [results, Tryz.results133, go_sem, Dc.Res.val, hr0_w1, hl0_w1, hm0_w1, hn0_w1, hq0_w1, hr0_w3, hl0_w3, hm0_w3, hn0_w3, hq0_w3]; done)) rfl (RetB.of (by rw [Dc.mk_over (by simpa using h0) (by simpa using h) hn.1]) (by (repeat (first | exact Below.refl _ _ | assumption | refine Below.setCell ?_ (by first | omega | (simp <;> omega)) _ | refine Below.alloc ?_ (by first | omega | (simp <;> omega)) _ | refine Below.drew ?_ | refine below_drewN' ?_ _)))))
  · have h : List.isEmpty (Dc.core s.data.toList) = false := by assumption
    have h2 : (!Dc.right (Dc.core s.data.toList) x) = false := by assumption
    exact absurd (by simpa using h2) (HN.out (by simpa using h)).2

set_option maxHeartbeats 400000 in
theorem d_make_hi (n : Bool) (s : ByteArray) (x : Int) (w : World) (hs : s.size ≤ 1000000000) (hx : -9223372036854775808 ≤ x ∧ x ≤ 9223372036854775807) (hf : 1099511627776 ≤ x) :
    Calls Tryz.prog 133 #[.bool n, .string s, .int .i64 x] w (RetB (Dc.mk n s.data.toList x).val w) := by
  have h1 : (Dc.lead s.data.toList).length ≤ 1000000000 := by have := Dc.lead_len s.data.toList; rw [bs_length] at this; omega
  have h2 := Dc.core_len s.data.toList
  have h3 : (⟨(Dc.core s.data.toList).toArray⟩ : ByteArray).size ≤ 9223372036854775807 := by rw [size_mk]; omega
  obtain ⟨hx1, hx2⟩ := hx
  have hn : Dc.core s.data.toList ≠ [] → _ := fun hne => Dc.far_not (by simpa using hs) hne (.inr hf)
  have HN := Lib.hid hn; clear hn
  go_enter Tryz.func133, Tryz.ntmps133
  go_wp2_with (first
    | (go_at_call 73; (with_reducible refine (d_plain_any _ _).mono ?_); rintro e w1 ⟨rfl, hb_w1⟩; have hB_w1 : Below (w).heap.size (w) w1 := Below.trans (by (repeat (first | exact Below.refl _ _ | assumption | refine Below.setCell ?_ (by first | omega | (simp <;> omega)) _ | refine Below.alloc ?_ (by first | omega | (simp <;> omega)) _ | refine Below.drew ?_ | refine below_drewN' ?_ _))) (hb_w1.mono (by first | omega | (simp <;> omega))); obtain ⟨hc_w1, hf_w1⟩ := bcell hb_w1; have hz_w1 := hb_w1.size; (try simp only [size_drew', size_drewN', World.size_alloc, World.size_setCell] at hz_w1); have hl0_w1 : w.heap.size < w1.heap.size := (by omega); have hm0_w1 : w.heap.size ≤ w1.heap.size := (by omega); have hn0_w1 : ¬ w.heap.size = w1.heap.size := (by omega); have hq0_w1 : ¬ w1.heap.size = w.heap.size := (by omega); have hr0_w1 := fun o => hc_w1 (w.heap.size) o (by (try simp only [size_drew', size_drewN', World.size_alloc, World.size_setCell]); omega); have hg0_w1 := fun o => hf_w1 (w.heap.size) o (by (try simp only [size_drew', size_drewN', World.size_alloc, World.size_setCell]); omega))
    | (go_at_call 174; (with_reducible refine (trimL0 _ _).mono ?_); rintro e w' ⟨rfl, rfl⟩)
    | (go_at_call 175; (with_reducible refine (trimR0 _ s.data.toList _ (by simp) (by simpa using hs)).mono ?_); rintro e w' ⟨rfl, rfl⟩)
    | (go_at_call 20; (with_reducible refine (d_right_any _ ⟨(Dc.core s.data.toList).toArray⟩ _ _ h3).mono ?_); rintro e w3 ⟨rfl, hb_w3⟩; have hB_w3 : Below (w).heap.size (w) w3 := Below.trans (by (repeat (first | exact Below.refl _ _ | assumption | refine Below.setCell ?_ (by first | omega | (simp <;> omega)) _ | refine Below.alloc ?_ (by first | omega | (simp <;> omega)) _ | refine Below.drew ?_ | refine below_drewN' ?_ _))) (hb_w3.mono (by first | omega | (simp <;> omega))); obtain ⟨hc_w3, hf_w3⟩ := bcell hb_w3; have hz_w3 := hb_w3.size; (try simp only [size_drew', size_drewN', World.size_alloc, World.size_setCell] at hz_w3); have hl0_w3 : w.heap.size < w3.heap.size := (by omega); have hm0_w3 : w.heap.size ≤ w3.heap.size := (by omega); have hn0_w3 : ¬ w.heap.size = w3.heap.size := (by omega); have hq0_w3 : ¬ w3.heap.size = w.heap.size := (by omega); have hr0_w3 := fun o => hc_w3 (w.heap.size) o (by (try simp only [size_drew', size_drewN', World.size_alloc, World.size_setCell]); omega); have hg0_w3 := fun o => hf_w3 (w.heap.size) o (by (try simp only [size_drew', size_drewN', World.size_alloc, World.size_setCell]); omega)))
  · have h : (!Dc.allDig s.data.toList) = true := by assumption
    (refine bodyPost_ret (v := Dc.Res.val ⟨false, [], 0, 3⟩) (by (simp [results, Tryz.results133, go_sem, Dc.Res.val, hr0_w1, hl0_w1, hm0_w1, hn0_w1, hq0_w1]; done)) rfl (RetB.of (by rw [Dc.mk_bad (by simpa using h)]) (by (repeat (first | exact Below.refl _ _ | assumption | refine Below.setCell ?_ (by first | omega | (simp <;> omega)) _ | refine Below.alloc ?_ (by first | omega | (simp <;> omega)) _ | refine Below.drew ?_ | refine below_drewN' ?_ _)))))
  · have h0 : (!Dc.allDig s.data.toList) = false := by assumption
    have h : List.isEmpty (Dc.core s.data.toList) = true := by assumption
    have h' : Dc.core s.data.toList = [] := by simpa using h
    (refine bodyPost_ret (v := Dc.Res.val ⟨n, Dc.core s.data.toList, 0, 0⟩) (by (simp [results, Tryz.results133, go_sem, Dc.Res.val, hr0_w1, hl0_w1, hm0_w1, hn0_w1, hq0_w1]; done)) rfl (RetB.of (by rw [Dc.mk_zero (by simpa using h0) h', h']) (by (repeat (first | exact Below.refl _ _ | assumption | refine Below.setCell ?_ (by first | omega | (simp <;> omega)) _ | refine Below.alloc ?_ (by first | omega | (simp <;> omega)) _ | refine Below.drew ?_ | refine below_drewN' ?_ _)))))
  · have h0 : (!Dc.allDig s.data.toList) = false := by assumption
    have h : List.isEmpty (Dc.core s.data.toList) = false := by assumption
    have hn := HN.out (by simpa using h)
    (refine bodyPost_ret (v := Dc.Res.val ⟨false, [], 0, 2⟩) (by (simp [results, Tryz.results133, go_sem, Dc.Res.val, hr0_w1, hl0_w1, hm0_w1, hn0_w1, hq0_w1, hr0_w3, hl0_w3, hm0_w3, hn0_w3, hq0_w3]; done)) rfl (RetB.of (by rw [Dc.mk_over (by simpa using h0) (by simpa using h) hn.1]) (by (repeat (first | exact Below.refl _ _ | assumption | refine Below.setCell ?_ (by first | omega | (simp <;> omega)) _ | refine Below.alloc ?_ (by first | omega | (simp <;> omega)) _ | refine Below.drew ?_ | refine below_drewN' ?_ _)))))
  · have h : List.isEmpty (Dc.core s.data.toList) = false := by assumption
    have h2 : (!Dc.right (Dc.core s.data.toList) x) = false := by assumption
    exact absurd (by simpa using h2) (HN.out (by simpa using h)).2

theorem d_make_any (n : Bool) (s : ByteArray) (x : Int) (w : World) (hs : s.size ≤ 1000000000) (hx : -9223372036854775808 ≤ x ∧ x ≤ 9223372036854775807) :
    Calls Tryz.prog 133 #[.bool n, .string s, .int .i64 x] w (RetB (Dc.mk n s.data.toList x).val w) := by
  by_cases h : x < -1099511627776
  · exact d_make_lo n s x w hs hx h
  · by_cases h' : x < 1099511627776
    · exact d_make_small n s x w hs ⟨by omega, h'⟩
    · exact d_make_hi n s x w hs hx (by omega)

end Go.Proofs.YtjnkbifafbjckaaGreatDoor

/- exact.of: a natural times a power of two as a decimal. -/
namespace Go.Proofs.YtjnkbifafbjckaaGreatDoor
set_option linter.all false
open Go.RowKit
attribute [local go_sem] Fl.dv

/-- A result's place for a decimal, as it was made. -/
def Z3 (W : World) (b : Nat) : Prop := W.cell? ⟨b, 0, none⟩ = some (.bool false) ∧ W.cell? ⟨b, 1, none⟩ = some (.string ⟨#[]⟩) ∧ W.cell? ⟨b, 2, none⟩ = some (.int .i64 0) ∧ (∀ o, W.frozen? ⟨b, o, none⟩ = false) ∧ b < W.heap.size
theorem Z3.new (w : World) : Z3 (w.alloc (Obj.cells #[Value.bool false, Value.string ⟨#[]⟩, Value.int IntKind.i64 0] 25)) w.heap.size :=
  ⟨by simp [go_sem], by simp [go_sem], by simp [go_sem], fun o => by
    unfold World.frozen?; simp only []
    rw [show (w.alloc (Obj.cells #[Value.bool false, Value.string ⟨#[]⟩, Value.int IntKind.i64 0] 25)).heap[w.heap.size]? = some _ from heap_alloc_new w _]
    simp, by simp⟩
theorem Z3.on {W W' : World} {b : Nat} (h : Z3 W b) (hb : Below W.heap.size W W') : Z3 W' b := by
  obtain ⟨h0, h1, h2, hf, hl⟩ := h
  exact ⟨(hb.cell (p := ⟨b, 0, none⟩) hl).trans h0, (hb.cell (p := ⟨b, 1, none⟩) hl).trans h1, (hb.cell (p := ⟨b, 2, none⟩) hl).trans h2, fun o => (hb.frozen (p := ⟨b, o, none⟩) hl).trans (hf o), Nat.lt_of_lt_of_le hl hb.size⟩
theorem Z3.alloc {W : World} {b : Nat} (h : Z3 W b) (o : Obj) : Z3 (W.alloc o) b := h.on ((Below.refl _ _).alloc (Nat.le_refl _) o)

/-- .. behind a call from a world with one block more, and that one written. -/
theorem Z3.step {W W1 W' : World} {b : Nat} (h : Z3 W b) (hb : Below W1.heap.size W1 W') (hW : Below W.heap.size W W1 := by first | exact Below.alloc (Below.refl _ _) (Nat.le_refl _) _ | (repeat (first | exact Below.refl _ _ | refine Below.setCell ?_ (by first | exact Nat.le_refl _ | (simp <;> omega)) _ | refine Below.alloc ?_ (by first | exact Nat.le_refl _ | (simp <;> omega)) _ | refine Below.drew ?_))) : Z3 W' b := (h.on hW).on hb

theorem Fl.pow_five (k : Nat) (hk : k ≤ 1200) : Na.pow 5 (k : Int) = (Na.limbs (5 ^ k), 0) := by
  have h := Na.limbs_len_le _ _ (Nat.lt_of_le_of_lt (Fl.pow_le_B 5 k (by decide) hk) (show Na.B ^ 120 < Na.B ^ 121 from Nat.pow_lt_pow_right (by decide) (by decide)))
  rw [Na.pow, if_neg (by omega), if_neg (by omega), Int.toNat_natCast, Na.fits, if_neg (by show ¬ 256 < (Na.limbs (5 ^ k)).length; omega)]; rfl
theorem Na.limbs_head {m : Nat} (h : m ≠ 0) : ∃ h0 : 0 < (Na.limbs m).length, (Na.limbs m)[0] = m % 4294967296 := by
  have e : Na.limbs m = (m % Na.B) :: Na.limbs (m / Na.B) := by rw [Na.limbs, dif_neg h]
  have h0 : 0 < (Na.limbs m).length := by rw [e]; simp
  refine ⟨h0, ?_⟩
  simp only [e, List.getElem_cons_zero]
  first | done | rfl
end Go.Proofs.YtjnkbifafbjckaaGreatDoor

/- append of limbs to a list of the call's own. -/
namespace Go.Proofs.YtjnkbifafbjckaaGreatDoor
set_option linter.all false
open Go.RowKit

/-- A list of the call's own, to which may be appended. -/
def Row (w : World) (B : Nat) (v : Value) (l : List Nat) : Prop := w.ownsRow B 72 1 v l.length (u32s l)
theorem Row.sl {w : World} {B : Nat} {v : Value} {l : List Nat} (h : Row w B v l) (hok : Na.OK l) : ∃ a c, v = .slice a l.length c ∧ Sl w a c l ∧ Own w B a l.length := by
  have h0 := h
  rcases h.2 with ⟨rfl, hn⟩ | ⟨g, cap, cur, rfl, hb, hg, h1, h2, h3, h4⟩
  · obtain rfl : l = [] := List.eq_nil_of_length_eq_zero hn
    exact ⟨none, 0, rfl, Sl.nil _ _ _, Own.nil _ _ _⟩
  · refine ⟨some ⟨g, 0, none⟩, cap, rfl, ⟨fun _ => ⟨g, 0, rfl, (Array.getElem?_eq_some_iff.1 hg).1, fun k hk => ?_⟩, h1, hok⟩, fun _ => ⟨g, 0, rfl, hb, fun k _ => ?_⟩⟩
    · have := World.ownsRow.cellAt h0 k (by omega)
      rw [Nat.zero_add, this, u32s_get l k hk]
    · rw [Nat.zero_add]; exact World.ownsRow.frozenAt h0 k
theorem Row.empty (w : World) {B : Nat} (hB : B ≤ w.heap.size) : Row (w.alloc (.cells #[] 72)) B (.slice (some ⟨w.heap.size, 0, none⟩) 0 0) [] :=
  World.ownsRow_lit w #[] 0 hB (Nat.zero_le _) rfl
theorem Row.nil (w : World) (B : Nat) : Row w B (.slice none 0 0) [] := World.ownsRow_nil _ _ _ _
theorem Row.lt {w : World} {B : Nat} {v : Value} {l : List Nat} (h : Row w B v l) : ∀ k, v.ownBlock = some k → B ≤ k ∧ k < w.heap.size := World.ownsRow.lt h
theorem Row.mono {w : World} {B B' : Nat} {v : Value} {l : List Nat} (h : Row w B v l) (hB : B' ≤ B) : Row w B' v l := by
  refine ⟨h.1, h.2.imp id ?_⟩
  rintro ⟨g, cap, cur, h1, h2, h3⟩
  exact ⟨g, cap, cur, h1, by omega, h3⟩
theorem Row.alloc {w : World} {B : Nat} {v : Value} {l : List Nat} (h : Row w B v l) (o : Obj) : Row (w.alloc o) B v l := World.ownsRow.alloc h o

theorem app_u32 {w : World} {ops : Array Oper} {rest : List Oper} {o : Oper} {act : Act} {Q : Exit → Act → World → Prop} (hgd : o.guard = none) (s x : Operand) (t : TypeId) (ht : Tryz.prog.underlying t = some (.slice 72))
    (hop : o.op = .call { callee := .builtin .append, args := #[s, x], argTypes := #[t, t] }) (B : Nat) (v : Value) (l : List Nat) (hs : act.eval s = v) (hown : Row w B v l) (ad : Option Addr) (n c : Nat) (m : List Nat) (hx : act.eval x = .slice ad n c) (hn : m.length = n) (hm : Sl w ad c m)
    (hnil : ad = none → c = 0) (hlen : l.length + m.length ≤ 1000000) (hB : B ≤ w.heap.size)
    (hK : ∀ v' w', Hid (Row w' B v' (l ++ m)) → Hid (∀ B' w0, Below B' w0 w → B' ≤ B → Below B' w0 w') → wpList Tryz.prog ops Q rest (act.put o.dst v') w') : wpList Tryz.prog ops Q (o :: rest) act w := by
  subst hn
  obtain ⟨ti, hi, hz0, hz1, hz2⟩ := info_parts infoU32
  cases ad with
  | none =>
    have hm0 : m = [] := by
      rcases Nat.eq_zero_or_pos m.length with h | h
      · exact List.eq_nil_of_length_eq_zero h
      · obtain ⟨_, _, e, _⟩ := hm.plain h; cases e
    subst hm0
    obtain rfl := hnil rfl
    exact wpList_append_own_none hgd s x t hop B 72 ti 1 ht hi v l.length (u32s l) hs hown hx (hK v w (Lib.hid (by rw [List.append_nil]; exact hown)) (Lib.hid fun B' w0 hb _ => hb))
  | some a =>
    refine wpList_append_own w hgd s x t hop B 72 ti (.int .u32 0) 1 4 ht hi hz0 hz1 hz2 rfl (by decide) v l.length (u32s l) hs hown a m.length c (u32s m) hx (by rw [u32s_len]; omega) ?_ (u32s_one _) (by unfold maxLen; omega) (by omega) hB ?_
    · intro j u hu
      have hj : j < m.length := by have := (List.getElem?_eq_some_iff.1 hu).1; rwa [u32s_len] at this
      obtain ⟨ad', e, hc⟩ := hm.cells (by omega)
      cases e
      exact hc j u hu
    · intro v' w' h1 h2 _
      refine hK v' w' (Lib.hid ?_) (Lib.hid fun B' w0 hb hB' => hb.grown h2 (by omega) (fun k e => by have := (hown.lt k e).1; omega))
      show w'.ownsRow _ _ _ _ (l ++ m).length _
      rw [List.length_append, u32s, List.map_append]; exact h1
end Go.Proofs.YtjnkbifafbjckaaGreatDoor

/- The reference: Trim, Of. -/
namespace Go.Proofs.YtjnkbifafbjckaaGreatDoor
set_option linter.all false
open Go.RowKit

/-- What a function of the reference answers with: a list of its own. -/
def GivesW (l : List Nat) (w : World) (e : Ending) (w' : World) : Prop := ∃ v, e = .returned v ∧ Row w' w.heap.size v l ∧ Below w.heap.size w w'
theorem Row.slz {w : World} {B : Nat} {v : Value} {l : List Nat} (h : Row w B v l) (hok : Na.OK l) : ∃ a c, v = .slice a l.length c ∧ Sl w a c l ∧ (a = none → c = 0) := by
  have h0 := h
  rcases h.2 with ⟨rfl, hn⟩ | ⟨g, cap, cur, rfl, hb, hg, h1, h2, h3, h4⟩
  · obtain rfl : l = [] := List.eq_nil_of_length_eq_zero hn
    exact ⟨none, 0, rfl, Sl.nil _ _ _, fun _ => rfl⟩
  · obtain ⟨a, c, e, hs, _⟩ := h0.sl hok
    exact ⟨a, c, e, hs, fun e2 => by rw [e2] at e; simp at e⟩
/-- .. as a slice. -/
def GivesZ (l : List Nat) (w : World) (e : Ending) (w' : World) : Prop := ∃ a c, e = .returned (.slice a l.length c) ∧ Sl w' a c l ∧ (a = none → c = 0) ∧ Row w' w.heap.size (.slice a l.length c) l ∧ Below w.heap.size w w'
theorem GivesW.z {l : List Nat} {w w' : World} {e : Ending} (h : GivesW l w e w') (hok : Na.OK l) : GivesZ l w e w' := by
  obtain ⟨v, rfl, hr, hb⟩ := h
  obtain ⟨a, c, rfl, hs, hz⟩ := hr.slz hok
  exact ⟨a, c, rfl, hs, hz, hr, hb⟩

set_option maxHeartbeats 1000000 in
theorem r1_trim_any (a : Option Addr) (c : Nat) (l : List Nat) (w : World) (h : Sl w a c l) (hz : a = none → c = 0) (hn : l.length ≤ 1000000) :
    Calls Tryz.prog 107 #[.slice a l.length c] w (GivesZ (Na.cut l) w) := by
  have HZN := Lib.hid hz
  have hcap := h.cap
  have HFIN := Lib.hid (fun v w' (hr : Row w' w.heap.size v (Na.cut l)) (hb : Below w.heap.size w w') => (GivesW.z ⟨v, rfl, hr, hb⟩ (Na.ok_cut l) : GivesZ (Na.cut l) w (.returned v) w'))
  clear hz
  go_enter Tryz.func107, Tryz.ntmps107
  go_wp2_with fail
  go_loop [3] (fun i => ∃ k : Nat, k ≤ l.length ∧ i = .int .i64 k ∧ ∀ j (hj : j < l.length), k ≤ j → l[j] = 0) (fun i => (intOf i).toNat)
  case atStart => exact ⟨l.length, Nat.le_refl _, rfl, fun j hj hk => by omega⟩
  case round =>
    obtain ⟨k, hk, rfl, hz⟩ := hrel
    have HZ := Lib.hid hz; clear hz
    cases k with
    | zero =>
      have HR := Lib.hid (Na.rt_of h.ok (k := 0) hk HZ.out (fun h0 => absurd h0 (by omega))).2
      go_wp2_with (first | (at_builtin; refine app_u32 rfl _ _ 44 Tryz.underlying44 rfl w.heap.size _ [] rfl (Row.empty w (Nat.le_refl _)) a 0 c (l.take 0) rfl (by simp) ((h.take 0).on ((Below.refl _ _).alloc (Nat.le_refl _) _)) HZN.out (by simp) (by simp) ?_; intro v2 w2 hr2 hg2))
      go_ret
      exact HFIN.out _ _ (by rw [HR.out]; exact hr2.out) (hg2.out _ _ ((Below.refl _ _).alloc (Nat.le_refl _) _) (Nat.le_refl _))
    | succ m =>
      obtain ⟨b, o, rfl, hb, hc⟩ := h.plain (by omega)
      have c1 := hc m (by omega)
      obtain ⟨x, hx⟩ : ∃ x, l[m]'(by omega) = x := ⟨_, rfl⟩
      rw [hx] at c1
      have HX := Lib.hid hx; clear hx hc
      have n0 : decide ((0 : Int) < (m : Int) + 1) = true := decide_eq_true (by omega)
      by_cases hx0 : x = 0
      · subst hx0
        go_wp2_with fail
        go_round
        case rel =>
          refine ⟨m, by omega, by go_num, fun j hj hk => ?_⟩
          by_cases e : j = m
          · subst e; exact HX.out
          · exact HZ.out j hj (by omega)
        case measure => simp [intOf]
      · have HR := Lib.hid (Na.rt_of h.ok (k := m + 1) hk HZ.out (fun _ h2 => by have := HX.out; simpa [this] using hx0)).2
        have e0 : ((x : Int) == 0) = false := by simpa using hx0
        have hm1 : m + 1 ≤ c := by omega
        clear hx0
        go_wp2_with (first | (at_builtin; refine app_u32 rfl _ _ 44 Tryz.underlying44 rfl w.heap.size _ [] rfl (Row.empty w (Nat.le_refl _)) (some ⟨b, o, none⟩) (m + 1) c (l.take (m + 1)) rfl (by rw [List.length_take]; omega) ((h.take (m + 1)).on ((Below.refl _ _).alloc (Nat.le_refl _) _)) HZN.out (by rw [List.length_take]; simp; omega) (by simp) ?_; intro v2 w2 hr2 hg2))
        go_ret
        exact HFIN.out _ _ (by rw [HR.out]; exact hr2.out) (hg2.out _ _ ((Below.refl _ _).alloc (Nat.le_refl _) _) (Nat.le_refl _))

set_option maxHeartbeats 400000 in
theorem r1_of_any (v : Nat) (hv : v < 18446744073709551616) (w : World) :
    Calls Tryz.prog 44 #[.int .u64 v] w (GivesZ (Na.limbs v) w) := by
  have hok : Na.OK [v % 4294967296, v / 4294967296] := fun x hx => by
    simp only [List.mem_cons, List.not_mem_nil, or_false] at hx
    show x < 4294967296
    omega
  have hval : Na.cut [v % 4294967296, v / 4294967296] = Na.limbs v := by
    rw [Na.cut]; congr 1
    simp only [Na.val, Na.B]; omega
  have h0 : Blk (w.alloc (Obj.cells #[Value.int IntKind.u32 ((v : Int) % 4294967296), Value.int IntKind.u32 ((v : Int) / 4294967296)] 72)) w.heap.size [v % 4294967296, v / 4294967296] := by
    show (w.heap.push _)[w.heap.size]? = _; simp [u32s]
  have H1 := Lib.hid (show Calls Tryz.prog 107 #[.slice (some ⟨w.heap.size, 0, none⟩) 2 2] (w.alloc (Obj.cells #[Value.int IntKind.u32 ((v : Int) % 4294967296), Value.int IntKind.u32 ((v : Int) / 4294967296)] 72)) (GivesZ (Na.limbs v) (w.alloc (Obj.cells #[Value.int IntKind.u32 ((v : Int) % 4294967296), Value.int IntKind.u32 ((v : Int) / 4294967296)] 72))) from hval ▸ r1_trim_any _ _ _ _ (h0.sl hok (Nat.le_refl _)) (fun e => by cases e) (by simp))
  have hB : Below w.heap.size w (w.alloc (Obj.cells #[Value.int IntKind.u32 ((v : Int) % 4294967296), Value.int IntKind.u32 ((v : Int) / 4294967296)] 72)) := (Below.refl _ _).alloc (Nat.le_refl _) _
  clear h0 hok hval
  go_enter Tryz.func44, Tryz.ntmps44
  go_wp2_with (first | (go_at_call 107; (with_reducible refine (H1.out).mono ?_); rintro e w1 ⟨a, c, rfl, hs, hz, hr, hb⟩))
  go_ret
  exact ⟨a, c, rfl, hs, hz, hr.mono (by simp), hB.trans (hb.mono hB.size)⟩
end Go.Proofs.YtjnkbifafbjckaaGreatDoor

/- The reference: Value, Len, Cmp. -/
namespace Go.Proofs.YtjnkbifafbjckaaGreatDoor
set_option linter.all false
open Go.RowKit

section
variable (a : Option Addr) (c : Nat) (l : List Nat) (w : World) (h : Sl w a c l) (hz : a = none → c = 0) (hn : l.length ≤ 1000000)
include h hz hn

set_option maxHeartbeats 1000000 in
theorem r1_len_any : Calls Tryz.prog 79 #[.slice a l.length c] w (RetB (.int .i64 (Na.bitLen (Na.val l) : Nat)) w) := by
  have H1 := Lib.hid (r1_trim_any a c l w h hz hn)
  have hle := (Na.rt_le h.ok).1
  obtain ⟨q, hq⟩ : ∃ q, q = Na.cut l := ⟨_, rfl⟩
  have hnil := Na.cut_nil_iff l
  replace hle : q.length ≤ l.length := by rw [hq]; exact hle
  have hok := Na.ok_cut l
  rw [← hq] at H1 hnil hok
  obtain ⟨n, hqn⟩ : ∃ n, n = q.length := ⟨_, rfl⟩
  cases n with
  | zero =>
    have hz0 : Na.val l = 0 := hnil.1 (List.eq_nil_of_length_eq_zero hqn.symm)
    have e1 := Lib.hid (show Na.bitLen (Na.val l) = 0 by rw [hz0]; rfl)
    have hql : q.length = 0 := hqn.symm
    clear hqn hz0 hle hq
    go_enter Tryz.func79, Tryz.ntmps79
    go_wp2_with (first | (go_at_call 107; (with_reducible refine (H1.out).mono ?_); rintro e w1 ⟨a1, c1, rfl, hs1, hz1, hr1, hb1⟩))
    go_ret
    exact RetB.of (by rw [e1.out]; rfl) hb1
  | succ n =>
    have hnq : n < q.length := by omega
    have hb := Na.bitLen_at l q hq n hqn.symm
    have hxl := hok _ (List.getElem_mem hnq)
    have hlast : q[n]'hnq ≠ 0 := by
      have hne : Na.cut l ≠ [] := by rw [← hq]; intro e; rw [e] at hnq; simp at hnq
      have h1 : (Na.cut l).getLast hne ≠ 0 := Na.limbs_last (Na.val l) hne
      rw [List.getLast_eq_getElem] at h1
      simp only [← hq, ← hqn] at h1
      simpa using h1
    rw [Na.libBitLen _ hlast (Nat.lt_trans hxl (by decide))] at hb
    have hbx : Na.bitLen (q[n]'hnq) = Nat.log2 (q[n]'hnq) + 1 := by rw [Na.bitLen, if_neg hlast]
    rw [← hbx] at hb
    have hx32 : q[n]'hnq < 4294967296 := hxl
    obtain ⟨x, hx⟩ : ∃ x, x = q[n]'hnq := ⟨_, rfl⟩
    rw [← hx] at hb hx32
    have HX := Lib.hid hx
    have HB := Lib.hid hb
    have HNQ := Lib.hid hqn
    have hn6 : n ≤ 1000000 := by omega
    clear hx hb hqn hbx hlast hxl hok hnil hle hq
    have hql : q.length = n + 1 := HNQ.out.symm
    go_enter Tryz.func79, Tryz.ntmps79
    go_wp2_with (first | (go_at_call 107; (with_reducible refine (H1.out).mono ?_); rintro e w1 ⟨a1, c1, rfl, hs1, hz1, hr1, hb1⟩; obtain ⟨b, o, rfl, hb, hcell⟩ := hs1.plain (by omega); have cx := hcell n (by omega); rw [← HX.out] at cx; clear hcell))
    go_loop [4, 5] (fun nv xv => ∃ m y : Nat, nv = .int .i64 m ∧ xv = .int .u32 y ∧ y ≤ x ∧ m ≤ 40000000 ∧ Hid (m + Na.bitLen y = Na.bitLen (Na.val l))) (fun _ xv => (intOf xv).toNat)
    case atStart => exact ⟨32 * n, x, by go_num, rfl, Nat.le_refl _, by omega, Lib.hid HB.out.symm⟩
    case round =>
      obtain ⟨m, y, rfl, rfl, hy, hm, HM⟩ := hrel
      by_cases hy0 : y = 0
      · have e := Lib.hid (show Na.bitLen (Na.val l) = m by rw [← HM.out, hy0]; rfl)
        have hy1 : y ≤ 0 := by omega
        clear hy0
        go_wp2_with fail
        go_ret
        exact RetB.of (by rw [e.out]; rfl) hb1
      · have hy1 : 0 < y := by omega
        have hbl := Na.bitLen_half hy0
        have HBL := Lib.hid hbl
        have hm2 : m + 1 ≤ 40000000 := by
          have h1 := HM.out
          have h2 := Na.bitLen_pos' hy0
          have h3 := HB.out
          have h4 : Na.bitLen x ≤ 32 := Na.bitLen_le' (k := 32) (by omega)
          omega
        clear hbl hy0
        go_wp2_with fail
        go_round
        case rel => exact ⟨m + 1, y / 2, by go_num, by congr 1, by omega, hm2, Lib.hid (by rw [← HM.out, HBL.out]; omega)⟩
        case measure => simp [intOf]; omega
end
end Go.Proofs.YtjnkbifafbjckaaGreatDoor

/- The reference: Cmp. -/
namespace Go.Proofs.YtjnkbifafbjckaaGreatDoor
set_option linter.all false
open Go.RowKit

def cmpLoop1 (q r : List Nat) (w : World) (iv : Value) (wr : World) : Prop := ∃ k : Nat, k ≤ q.length ∧ iv = .int .i64 ((k : Int) - 1) ∧ Hid (q.drop k = r.drop k) ∧ Hid (Below w.heap.size w wr)

set_option maxHeartbeats 2000000 in
theorem r1_cmp_any (a : Option Addr) (c : Nat) (l : List Nat) (b : Option Addr) (d : Nat) (m : List Nat) (w : World) (h : Sl w a c l) (hz : a = none → c = 0) (h' : Sl w b d m) (hz' : b = none → d = 0) (hn : l.length ≤ 1000000) (hm : m.length ≤ 1000000) :
    Calls Tryz.prog 106 #[.slice a l.length c, .slice b m.length d] w (RetB (.int .i64 (Na.cmp l m)) w) := by
  have H1 := Lib.hid (r1_trim_any a c l w h hz hn)
  have H2 := Lib.hid (fun w1 (hb : Below w.heap.size w w1) => r1_trim_any b d m w1 (h'.on hb) hz' hm)
  have v1 := Na.val_cut (a := l)
  have v2 := Na.val_cut (a := m)
  have hlt : (Na.cut l).length < (Na.cut m).length → Na.val l < Na.val m := fun e => Na.lt_of_rt h.ok h'.ok e
  have hgt : (Na.cut m).length < (Na.cut l).length → Na.val m < Na.val l := fun e => Na.lt_of_rt h'.ok h.ok e
  have hl1 : (Na.cut l).length ≤ 1000000 := Nat.le_trans (Na.rt_le h.ok).1 hn
  have hl2 : (Na.cut m).length ≤ 1000000 := Nat.le_trans (Na.rt_le h'.ok).1 hm
  obtain ⟨q, hq⟩ : ∃ q, q = Na.cut l := ⟨_, rfl⟩
  obtain ⟨r, hr⟩ : ∃ q, q = Na.cut m := ⟨_, rfl⟩
  rw [← hq] at H1 v1 hlt hgt hl1
  rw [← hr] at H2 v2 hlt hgt hl2
  clear hq hr
  have V1 := Lib.hid v1; have V2 := Lib.hid v2
  by_cases he : q.length = r.length
  · have HE := Lib.hid he
    have hql : q.length = r.length := he
    clear hlt hgt v1 v2 he
    go_enter Tryz.func106, Tryz.ntmps106
    go_wp2_with (first | (go_at_call 107; (with_reducible refine (H1.out).mono ?_); rintro e w1 ⟨a1, c1, rfl, hs1, hz1, hr1, hb1⟩) | (go_at_call 107; (with_reducible refine (H2.out w1 hb1).mono ?_); rintro e w2 ⟨a2, c2, rfl, hs2, hz2, hr2, hb2⟩))
    have hS1 := hs1.on hb2
    have HB2 := Lib.hid (hb1.trans (hb2.mono hb1.size))
    clear hr1 hr2 hs1
    go_loopw [7] (cmpLoop1 q r w2) (fun i _ => (intOf i + 1).toNat)
    case atStart => exact ⟨q.length, Nat.le_refl _, by rw [HE.out], Lib.hid (by rw [List.drop_length, HE.out, List.drop_length]), Lib.hid (Below.refl _ _)⟩
    case round =>
      obtain ⟨k, hk, rfl, HD, HB⟩ := hrel
      cases k with
      | zero =>
        have e := Lib.hid (Na.cmp_eq (a := l) (b := m) (by rw [← V1.out, ← V2.out]; have := HD.out; rw [List.drop_zero, List.drop_zero] at this; rw [this]))
        go_wp2_with fail
        go_ret
        exact RetB.of (by rw [e.out]; rfl) (HB2.out.trans (HB.out.mono HB2.out.size))
      | succ t =>
        have hq1 : t < q.length := by omega
        have hr1 : t < r.length := by rw [← HE.out]; exact hq1
        obtain ⟨b1, o1, rfl, hb1', hc1⟩ := (hS1.on HB.out).plain (by omega)
        obtain ⟨b2, o2, rfl, hb2', hc2⟩ := (hs2.on HB.out).plain (by omega)
        have k1 := hc1 t hq1
        have k2 := hc2 t hr1
        have G1 := Lib.hid (Na.cmp_at hS1.ok hs2.ok HE.out t hq1 hr1 HD.out)
        have G2 := Lib.hid (Na.cmp_at hs2.ok hS1.ok HE.out.symm t hr1 hq1 HD.out.symm)
        have EQ := Lib.hid (show q[t]'hq1 = r[t]'hr1 → q.drop t = r.drop t from fun e => by rw [List.drop_eq_getElem_cons hq1, List.drop_eq_getElem_cons hr1, e, HD.out])
        obtain ⟨x, hx⟩ : ∃ x, q[t]'hq1 = x := ⟨_, rfl⟩
        obtain ⟨y, hy⟩ : ∃ y, r[t]'hr1 = y := ⟨_, rfl⟩
        rw [hx] at k1 G1 G2 EQ; rw [hy] at k2 G1 G2 EQ
        have hti : (((t + 1 : Nat) : Int) - 1) = (t : Int) := by omega
        rw [hti]
        have htr : t < r.length := hr1
        clear hx hy hc1 hc2 HD hti
        by_cases hxy : x < y
        · have e := Lib.hid (Na.cmp_lt (a := l) (b := m) (by rw [← V1.out, ← V2.out]; exact G1.out hxy))
          go_wp2_with fail
          go_quiet (fail)
          go_wp2_with fail
          go_ret
          exact RetB.of (by rw [e.out]; rfl) (HB2.out.trans ((below_drewN' HB.out _).mono HB2.out.size))
        · by_cases hyx : y < x
          · have e := Lib.hid (Na.cmp_gt (a := l) (b := m) (by rw [← V1.out, ← V2.out]; exact G2.out hyx))
            go_wp2_with fail
            go_quiet (fail)
            go_wp2_with fail
            go_quiet (fail)
            go_wp2_with fail
            go_ret
            exact RetB.of (by rw [e.out]; rfl) (HB2.out.trans ((below_drewN' (below_drewN' HB.out _) _).mono HB2.out.size))
          · obtain rfl : x = y := by omega
            have EQ2 := Lib.hid (EQ.out rfl)
            clear EQ G1 G2
            go_wp2_with fail
            go_quiet (fail)
            go_wp2_with fail
            go_quiet (fail)
            go_wp2_with fail
            go_roundw
            case rel => exact ⟨t, by omega, rfl, EQ2, Lib.hid (below_drewN' HB.out _)⟩
            case measure => simp [intOf]
  · by_cases hlk : q.length < r.length
    · have e := Lib.hid (Na.cmp_lt (hlt hlk))
      have b0 : ((q.length : Int) != r.length) = true := by simp; omega
      clear hlt hgt he v1 v2
      go_enter Tryz.func106, Tryz.ntmps106
      go_wp2_with (first | (go_at_call 107; (with_reducible refine (H1.out).mono ?_); rintro e w1 ⟨a1, c1, rfl, hs1, hz1, hr1, hb1⟩) | (go_at_call 107; (with_reducible refine (H2.out w1 hb1).mono ?_); rintro e w2 ⟨a2, c2, rfl, hs2, hz2, hr2, hb2⟩))
      go_ret
      exact RetB.of (by rw [e.out]; rfl) (hb1.trans (hb2.mono hb1.size))
    · have e := Lib.hid (Na.cmp_gt (hgt (by omega)))
      have b0 : ((q.length : Int) != r.length) = true := by simp; omega
      clear hlt hgt he v1 v2
      go_enter Tryz.func106, Tryz.ntmps106
      go_wp2_with (first | (go_at_call 107; (with_reducible refine (H1.out).mono ?_); rintro e w1 ⟨a1, c1, rfl, hs1, hz1, hr1, hb1⟩) | (go_at_call 107; (with_reducible refine (H2.out w1 hb1).mono ?_); rintro e w2 ⟨a2, c2, rfl, hs2, hz2, hr2, hb2⟩))
      go_ret
      exact RetB.of (by rw [e.out]; rfl) (hb1.trans (hb2.mono hb1.size))
end Go.Proofs.YtjnkbifafbjckaaGreatDoor
