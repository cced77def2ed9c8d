/- A column's name of two letters, and a reference is written, by the reference. -/
import Derived.Test.YtbbeeglfgnabmaaDoorT62
import Derived.Test.YtbbeeglfgnabmaaDoorT50
namespace Go.Proofs.YtbbeeglfgnabmaaDoor
set_option linter.all false
open Go.RowKit

set_option maxHeartbeats 1000000 in
theorem r15_letters_two (n : Nat) (hn : 26 ≤ n) (h64 : n < 64) (w : World) : Calls Tryd.prog 40 #[.int .i64 n] w (RetB (.string ⟨(Ce.letters n).toArray⟩) w) := by
  obtain ⟨q, hq⟩ : ∃ q : Nat, q = n / 26 - 1 := ⟨_, rfl⟩
  obtain ⟨r, hr⟩ : ∃ r : Nat, r = n % 26 := ⟨_, rfl⟩
  have h1 : ∀ w, Calls Tryd.prog 40 #[.int .i64 q] w fun e w' => e = .returned (.string ⟨(Ce.letters q).toArray⟩) ∧ w' = w := fun w => (r15_letters_one q (by omega) w).mono fun e w' ⟨a, b⟩ => ⟨a, b.symm⟩
  have hsl := az_slice r (by omega)
  obtain ⟨A1, hA1⟩ : ∃ A : ByteArray, A = ⟨(Ce.letters q).toArray⟩ := ⟨_, rfl⟩
  obtain ⟨A2, hA2⟩ : ∃ A : ByteArray, A = ⟨#[UInt8.ofNat (65 + r)]⟩ := ⟨_, rfl⟩
  obtain ⟨V, hV⟩ : ∃ A : ByteArray, A = ⟨(Ce.letters n).toArray⟩ := ⟨_, rfl⟩
  rw [← hA1] at h1; rw [← hA2] at hsl; rw [← hV]
  have hVV : V = A1 ++ A2 := by
    rw [hV]
    refine (Dc.ba_eq _ _ ?_).symm
    rw [Dc.ba_app, hA1, hA2, Ce.letters, Ce.letters, if_pos (by omega), if_neg (by omega), hq, hr]
    simp only [List.cons_append, List.nil_append]
    congr 2; omega
  have z1 : A1.size = 1 := by rw [hA1, size_mk, Ce.letters, if_pos (by omega)]; rfl
  have z2 : A2.size = 1 := by rw [hA2]; rfl
  have s1 : ¬ 9223372036854775807 < A1.size + A2.size := by omega
  have e1 : (n : Int) / 26 - 1 = (q : Int) := by omega
  have e2 : (n : Int) % 26 = (r : Int) := by omega
  have e3 : IntKind.i64.wrap ((n : Int) / 26 - 1) = (q : Int) := by rw [e1]; exact IntWalk.i64_in _ (by omega)
  have e4 : IntKind.i64.wrap ((r : Int) + 1) = (r : Int) + 1 := IntWalk.i64_in _ (by omega)
  have r0 : (0 : Int) ≤ r := by omega
  have r1 : (r : Int) ≤ 25 := by omega
  have H1 := Lib.hid h1; have HV := Lib.hid hVV
  clear h1 hVV hV hA1 hA2 hq hr z1 z2
  go_enter Tryd.func40, Tryd.ntmps40
  go_wp2_with fail
  go_quiet ((go_at_call 40; exact Calls.quiet_of_same (H1.out _)))
  go_wp2
  go_ret
  exact RetB.of (congrArg Value.string HV.out.symm) (by (repeat (first | exact Below.refl _ _ | assumption | refine Below.setCell ?_ (by first | omega | (simp <;> omega)) _ | refine Below.alloc ?_ (by first | omega | (simp <;> omega)) _ | refine Below.drew ?_ | refine below_drewN' ?_ _)))

theorem r15_letters_any (n : Nat) (h64 : n < 64) (w : World) : Calls Tryd.prog 40 #[.int .i64 n] w (RetB (.string ⟨(Ce.letters n).toArray⟩) w) := by
  by_cases h : n < 26
  · exact (r15_letters_one n h w).mono fun e w' ⟨a, b⟩ => ⟨a, by rw [← b]; exact Below.refl _ _⟩
  · exact r15_letters_two n (by omega) h64 w

theorem app_nil (A : ByteArray) : A ++ (⟨#[]⟩ : ByteArray) = A := by
  have h := Dc.ba_eq (A ++ (⟨#[]⟩ : ByteArray)) A.data.toList (by rw [Dc.ba_app]; simp)
  rw [h]
theorem r15_print_no (c d : Int) (a b : Bool) (w : World) (h : Ce.right ⟨c, d, a, b⟩ = false) : Calls Tryd.prog 15 #[.agg #[.int .i64 c, .int .i64 d, .bool a, .bool b]] w (RetB (.string ⟨#[]⟩) w) := by
  have hr := fun w => r15_right_any c d a b w
  rw [h] at hr
  have HR := Lib.hid hr; clear hr h
  go_enter Tryd.func15, Tryd.ntmps15
  go_wp2_with (go_at_call 13; (with_reducible refine (HR.out _).mono ?_); rintro e w1 ⟨rfl, hb_w1⟩; have hB_w1 : Below (w).heap.size (w) w1 := Below.trans (by (repeat (first | exact Below.refl _ _ | assumption | refine Below.setCell ?_ (by first | omega | (simp <;> omega)) _ | refine Below.alloc ?_ (by first | omega | (simp <;> omega)) _ | refine Below.drew ?_ | refine below_drewN' ?_ _))) (hb_w1.mono (by first | omega | (simp <;> omega))); obtain ⟨hc_w1, hf_w1⟩ := bcell hb_w1; have hz_w1 := hb_w1.size; (try simp only [size_drew', size_drewN', World.size_alloc, World.size_setCell] at hz_w1); have hl0_w1 : w.heap.size < w1.heap.size := (by omega); have hm0_w1 : w.heap.size ≤ w1.heap.size := (by omega); have hn0_w1 : ¬ w.heap.size = w1.heap.size := (by omega); have hq0_w1 : ¬ w1.heap.size = w.heap.size := (by omega); have hr0_w1 := fun o => hc_w1 (w.heap.size) o (by (try simp only [size_drew', size_drewN', World.size_alloc, World.size_setCell]); omega); have hg0_w1 := fun o => hf_w1 (w.heap.size) o (by (try simp only [size_drew', size_drewN', World.size_alloc, World.size_setCell]); omega))
  go_ret
  exact RetB.of rfl (by (repeat (first | exact Below.refl _ _ | assumption | refine Below.setCell ?_ (by first | omega | (simp <;> omega)) _ | refine Below.alloc ?_ (by first | omega | (simp <;> omega)) _ | refine Below.drew ?_ | refine below_drewN' ?_ _)))

set_option maxHeartbeats 1000000 in
theorem r15_print_yes (c d : Nat) (a b : Bool) (w : World) (hc : c < 64) (hd : d < 1000) (h : Ce.right ⟨c, d, a, b⟩ = true) :
    Calls Tryd.prog 15 #[.agg #[.int .i64 c, .int .i64 d, .bool a, .bool b]] w (RetB (.string ⟨(Ce.print ⟨c, d, a, b⟩).toArray⟩) w) := by
  have hr := fun w => r15_right_any c d a b w
  rw [h] at hr
  obtain ⟨L, hL⟩ : ∃ M : ByteArray, M = ⟨(Ce.letters c).toArray⟩ := ⟨_, rfl⟩
  obtain ⟨I, hI⟩ : ∃ M : ByteArray, M = ⟨(Lib.decDigits (d + 1)).toArray⟩ := ⟨_, rfl⟩
  have hn := fun W => r15_letters_any c hc W
  have hi := fun W => r15_digits_any (d + 1) (by omega) W
  rw [← hL] at hn; rw [← hI] at hi
  have z3 : L.size ≤ 3 := by rw [hL, size_mk]; exact (Ce.letters_ok ⟨c, hc⟩).2.2.2.1
  have z4 : I.size ≤ 7 := by rw [hI, size_mk]; exact Ce.dec_len4 _ (by omega)
  have hi2 : ∀ W, Calls Tryd.prog 41 #[.int .i64 ((d : Int) + 1)] W (Ret0 (.string I) W) := fun W => by have := hi W; rwa [show ((d + 1 : Nat) : Int) = (d : Int) + 1 by omega] at this
  clear hi
  have hbase : ∀ (M1 M2 : ByteArray), M1.data.toList = Ce.mark a → M2.data.toList = Ce.mark b → (⟨(Ce.print ⟨c, d, a, b⟩).toArray⟩ : ByteArray) = M1 ++ L ++ M2 ++ I := fun M1 M2 h1 h2 => by
    refine (Dc.ba_eq _ _ ?_).symm
    rw [Ce.print, if_pos h, Dc.ba_app, Dc.ba_app, Dc.ba_app, h1, h2, hL, hI]
    have e1 : (((d : Int) + 1).toNat) = d + 1 := by omega
    simp only [Int.toNat_natCast, e1]
    simp
  obtain ⟨V, hV⟩ : ∃ V : ByteArray, V = ⟨(Ce.print ⟨c, d, a, b⟩).toArray⟩ := ⟨_, rfl⟩
  rw [← hV]
  rw [← hV] at hbase
  have HR := Lib.hid hr; have HN := Lib.hid hn; have HI := Lib.hid hi2; have HV := Lib.hid hbase
  clear hr h hn hi2 hbase hV hL hI
  have d1 : (d : Int) + 1 ≤ 1000 := by omega
  cases a <;> cases b
  · have hvv := HV.out ⟨#[]⟩ ⟨#[]⟩ rfl rfl
    have HVV := Lib.hid hvv; clear hvv
    have s0 : ¬ 9223372036854775807 < 0 + L.size := by omega
    have s1 : ¬ 9223372036854775807 < L.size + 1 := by omega
    have s2 : ¬ 9223372036854775807 < L.size + I.size := by omega
    have s3 : ¬ 9223372036854775807 < L.size + 1 + I.size := by omega
    go_enter Tryd.func15, Tryd.ntmps15
    go_wp2_with (first
      | (go_at_call 13; (with_reducible refine (HR.out _).mono ?_); rintro e w1 ⟨rfl, hb_w1⟩; have hB_w1 : Below (w).heap.size (w) w1 := Below.trans (by (repeat (first | exact Below.refl _ _ | assumption | refine Below.setCell ?_ (by first | omega | (simp <;> omega)) _ | refine Below.alloc ?_ (by first | omega | (simp <;> omega)) _ | refine Below.drew ?_ | refine below_drewN' ?_ _))) (hb_w1.mono (by first | omega | (simp <;> omega))); obtain ⟨hc_w1, hf_w1⟩ := bcell hb_w1; have hz_w1 := hb_w1.size; (try simp only [size_drew', size_drewN', World.size_alloc, World.size_setCell] at hz_w1); have hl0_w1 : w.heap.size < w1.heap.size := (by omega); have hm0_w1 : w.heap.size ≤ w1.heap.size := (by omega); have hn0_w1 : ¬ w.heap.size = w1.heap.size := (by omega); have hq0_w1 : ¬ w1.heap.size = w.heap.size := (by omega); have hr0_w1 := fun o => hc_w1 (w.heap.size) o (by (try simp only [size_drew', size_drewN', World.size_alloc, World.size_setCell]); omega); have hg0_w1 := fun o => hf_w1 (w.heap.size) o (by (try simp only [size_drew', size_drewN', World.size_alloc, World.size_setCell]); omega))
      | (go_at_call 40; (with_reducible refine (HN.out _).mono ?_); rintro e w2 ⟨rfl, hb_w2⟩; have hB_w2 : Below (w).heap.size (w) w2 := Below.trans (by (repeat (first | exact Below.refl _ _ | assumption | refine Below.setCell ?_ (by first | omega | (simp <;> omega)) _ | refine Below.alloc ?_ (by first | omega | (simp <;> omega)) _ | refine Below.drew ?_ | refine below_drewN' ?_ _))) (hb_w2.mono (by first | omega | (simp <;> omega))); obtain ⟨hc_w2, hf_w2⟩ := bcell hb_w2; have hz_w2 := hb_w2.size; (try simp only [size_drew', size_drewN', World.size_alloc, World.size_setCell] at hz_w2); have hl0_w2 : w.heap.size < w2.heap.size := (by omega); have hm0_w2 : w.heap.size ≤ w2.heap.size := (by omega); have hn0_w2 : ¬ w.heap.size = w2.heap.size := (by omega); have hq0_w2 : ¬ w2.heap.size = w.heap.size := (by omega); have hr0_w2 := fun o => hc_w2 (w.heap.size) o (by (try simp only [size_drew', size_drewN', World.size_alloc, World.size_setCell]); omega); have hg0_w2 := fun o => hf_w2 (w.heap.size) o (by (try simp only [size_drew', size_drewN', World.size_alloc, World.size_setCell]); omega))
      | (go_at_call 41; (with_reducible refine (HI.out _).mono ?_); rintro e w' ⟨rfl, rfl⟩))
    go_ret
    exact RetB.of (congrArg Value.string (by rw [HVV.out, app_nil])) (by (repeat (first | exact Below.refl _ _ | assumption | refine Below.setCell ?_ (by first | omega | (simp <;> omega)) _ | refine Below.alloc ?_ (by first | omega | (simp <;> omega)) _ | refine Below.drew ?_ | refine below_drewN' ?_ _)))
  · have hvv := HV.out ⟨#[]⟩ ⟨#[36]⟩ rfl rfl
    have HVV := Lib.hid hvv; clear hvv
    have s0 : ¬ 9223372036854775807 < 0 + L.size := by omega
    have s1 : ¬ 9223372036854775807 < L.size + 1 := by omega
    have s2 : ¬ 9223372036854775807 < L.size + I.size := by omega
    have s3 : ¬ 9223372036854775807 < L.size + 1 + I.size := by omega
    go_enter Tryd.func15, Tryd.ntmps15
    go_wp2_with (first
      | (go_at_call 13; (with_reducible refine (HR.out _).mono ?_); rintro e w1 ⟨rfl, hb_w1⟩; have hB_w1 : Below (w).heap.size (w) w1 := Below.trans (by (repeat (first | exact Below.refl _ _ | assumption | refine Below.setCell ?_ (by first | omega | (simp <;> omega)) _ | refine Below.alloc ?_ (by first | omega | (simp <;> omega)) _ | refine Below.drew ?_ | refine below_drewN' ?_ _))) (hb_w1.mono (by first | omega | (simp <;> omega))); obtain ⟨hc_w1, hf_w1⟩ := bcell hb_w1; have hz_w1 := hb_w1.size; (try simp only [size_drew', size_drewN', World.size_alloc, World.size_setCell] at hz_w1); have hl0_w1 : w.heap.size < w1.heap.size := (by omega); have hm0_w1 : w.heap.size ≤ w1.heap.size := (by omega); have hn0_w1 : ¬ w.heap.size = w1.heap.size := (by omega); have hq0_w1 : ¬ w1.heap.size = w.heap.size := (by omega); have hr0_w1 := fun o => hc_w1 (w.heap.size) o (by (try simp only [size_drew', size_drewN', World.size_alloc, World.size_setCell]); omega); have hg0_w1 := fun o => hf_w1 (w.heap.size) o (by (try simp only [size_drew', size_drewN', World.size_alloc, World.size_setCell]); omega))
      | (go_at_call 40; (with_reducible refine (HN.out _).mono ?_); rintro e w2 ⟨rfl, hb_w2⟩; have hB_w2 : Below (w).heap.size (w) w2 := Below.trans (by (repeat (first | exact Below.refl _ _ | assumption | refine Below.setCell ?_ (by first | omega | (simp <;> omega)) _ | refine Below.alloc ?_ (by first | omega | (simp <;> omega)) _ | refine Below.drew ?_ | refine below_drewN' ?_ _))) (hb_w2.mono (by first | omega | (simp <;> omega))); obtain ⟨hc_w2, hf_w2⟩ := bcell hb_w2; have hz_w2 := hb_w2.size; (try simp only [size_drew', size_drewN', World.size_alloc, World.size_setCell] at hz_w2); have hl0_w2 : w.heap.size < w2.heap.size := (by omega); have hm0_w2 : w.heap.size ≤ w2.heap.size := (by omega); have hn0_w2 : ¬ w.heap.size = w2.heap.size := (by omega); have hq0_w2 : ¬ w2.heap.size = w.heap.size := (by omega); have hr0_w2 := fun o => hc_w2 (w.heap.size) o (by (try simp only [size_drew', size_drewN', World.size_alloc, World.size_setCell]); omega); have hg0_w2 := fun o => hf_w2 (w.heap.size) o (by (try simp only [size_drew', size_drewN', World.size_alloc, World.size_setCell]); omega))
      | (go_at_call 41; (with_reducible refine (HI.out _).mono ?_); rintro e w' ⟨rfl, rfl⟩))
    go_ret
    exact RetB.of (congrArg Value.string (by rw [HVV.out])) (by (repeat (first | exact Below.refl _ _ | assumption | refine Below.setCell ?_ (by first | omega | (simp <;> omega)) _ | refine Below.alloc ?_ (by first | omega | (simp <;> omega)) _ | refine Below.drew ?_ | refine below_drewN' ?_ _)))
  · have hvv := HV.out ⟨#[36]⟩ ⟨#[]⟩ rfl rfl
    have HVV := Lib.hid hvv; clear hvv
    have s0 : ¬ 9223372036854775807 < 1 + L.size := by omega
    have s1 : ¬ 9223372036854775807 < 1 + L.size + 1 := by omega
    have s2 : ¬ 9223372036854775807 < 1 + L.size + I.size := by omega
    have s3 : ¬ 9223372036854775807 < 1 + L.size + 1 + I.size := by omega
    go_enter Tryd.func15, Tryd.ntmps15
    go_wp2_with (first
      | (go_at_call 13; (with_reducible refine (HR.out _).mono ?_); rintro e w1 ⟨rfl, hb_w1⟩; have hB_w1 : Below (w).heap.size (w) w1 := Below.trans (by (repeat (first | exact Below.refl _ _ | assumption | refine Below.setCell ?_ (by first | omega | (simp <;> omega)) _ | refine Below.alloc ?_ (by first | omega | (simp <;> omega)) _ | refine Below.drew ?_ | refine below_drewN' ?_ _))) (hb_w1.mono (by first | omega | (simp <;> omega))); obtain ⟨hc_w1, hf_w1⟩ := bcell hb_w1; have hz_w1 := hb_w1.size; (try simp only [size_drew', size_drewN', World.size_alloc, World.size_setCell] at hz_w1); have hl0_w1 : w.heap.size < w1.heap.size := (by omega); have hm0_w1 : w.heap.size ≤ w1.heap.size := (by omega); have hn0_w1 : ¬ w.heap.size = w1.heap.size := (by omega); have hq0_w1 : ¬ w1.heap.size = w.heap.size := (by omega); have hr0_w1 := fun o => hc_w1 (w.heap.size) o (by (try simp only [size_drew', size_drewN', World.size_alloc, World.size_setCell]); omega); have hg0_w1 := fun o => hf_w1 (w.heap.size) o (by (try simp only [size_drew', size_drewN', World.size_alloc, World.size_setCell]); omega))
      | (go_at_call 40; (with_reducible refine (HN.out _).mono ?_); rintro e w2 ⟨rfl, hb_w2⟩; have hB_w2 : Below (w).heap.size (w) w2 := Below.trans (by (repeat (first | exact Below.refl _ _ | assumption | refine Below.setCell ?_ (by first | omega | (simp <;> omega)) _ | refine Below.alloc ?_ (by first | omega | (simp <;> omega)) _ | refine Below.drew ?_ | refine below_drewN' ?_ _))) (hb_w2.mono (by first | omega | (simp <;> omega))); obtain ⟨hc_w2, hf_w2⟩ := bcell hb_w2; have hz_w2 := hb_w2.size; (try simp only [size_drew', size_drewN', World.size_alloc, World.size_setCell] at hz_w2); have hl0_w2 : w.heap.size < w2.heap.size := (by omega); have hm0_w2 : w.heap.size ≤ w2.heap.size := (by omega); have hn0_w2 : ¬ w.heap.size = w2.heap.size := (by omega); have hq0_w2 : ¬ w2.heap.size = w.heap.size := (by omega); have hr0_w2 := fun o => hc_w2 (w.heap.size) o (by (try simp only [size_drew', size_drewN', World.size_alloc, World.size_setCell]); omega); have hg0_w2 := fun o => hf_w2 (w.heap.size) o (by (try simp only [size_drew', size_drewN', World.size_alloc, World.size_setCell]); omega))
      | (go_at_call 41; (with_reducible refine (HI.out _).mono ?_); rintro e w' ⟨rfl, rfl⟩))
    go_ret
    exact RetB.of (congrArg Value.string (by rw [HVV.out, app_nil])) (by (repeat (first | exact Below.refl _ _ | assumption | refine Below.setCell ?_ (by first | omega | (simp <;> omega)) _ | refine Below.alloc ?_ (by first | omega | (simp <;> omega)) _ | refine Below.drew ?_ | refine below_drewN' ?_ _)))
  · have hvv := HV.out ⟨#[36]⟩ ⟨#[36]⟩ rfl rfl
    have HVV := Lib.hid hvv; clear hvv
    have s0 : ¬ 9223372036854775807 < 1 + L.size := by omega
    have s1 : ¬ 9223372036854775807 < 1 + L.size + 1 := by omega
    have s2 : ¬ 9223372036854775807 < 1 + L.size + I.size := by omega
    have s3 : ¬ 9223372036854775807 < 1 + L.size + 1 + I.size := by omega
    go_enter Tryd.func15, Tryd.ntmps15
    go_wp2_with (first
      | (go_at_call 13; (with_reducible refine (HR.out _).mono ?_); rintro e w1 ⟨rfl, hb_w1⟩; have hB_w1 : Below (w).heap.size (w) w1 := Below.trans (by (repeat (first | exact Below.refl _ _ | assumption | refine Below.setCell ?_ (by first | omega | (simp <;> omega)) _ | refine Below.alloc ?_ (by first | omega | (simp <;> omega)) _ | refine Below.drew ?_ | refine below_drewN' ?_ _))) (hb_w1.mono (by first | omega | (simp <;> omega))); obtain ⟨hc_w1, hf_w1⟩ := bcell hb_w1; have hz_w1 := hb_w1.size; (try simp only [size_drew', size_drewN', World.size_alloc, World.size_setCell] at hz_w1); have hl0_w1 : w.heap.size < w1.heap.size := (by omega); have hm0_w1 : w.heap.size ≤ w1.heap.size := (by omega); have hn0_w1 : ¬ w.heap.size = w1.heap.size := (by omega); have hq0_w1 : ¬ w1.heap.size = w.heap.size := (by omega); have hr0_w1 := fun o => hc_w1 (w.heap.size) o (by (try simp only [size_drew', size_drewN', World.size_alloc, World.size_setCell]); omega); have hg0_w1 := fun o => hf_w1 (w.heap.size) o (by (try simp only [size_drew', size_drewN', World.size_alloc, World.size_setCell]); omega))
      | (go_at_call 40; (with_reducible refine (HN.out _).mono ?_); rintro e w2 ⟨rfl, hb_w2⟩; have hB_w2 : Below (w).heap.size (w) w2 := Below.trans (by (repeat (first | exact Below.refl _ _ | assumption | refine Below.setCell ?_ (by first | omega | (simp <;> omega)) _ | refine Below.alloc ?_ (by first | omega | (simp <;> omega)) _ | refine Below.drew ?_ | refine below_drewN' ?_ _))) (hb_w2.mono (by first | omega | (simp <;> omega))); obtain ⟨hc_w2, hf_w2⟩ := bcell hb_w2; have hz_w2 := hb_w2.size; (try simp only [size_drew', size_drewN', World.size_alloc, World.size_setCell] at hz_w2); have hl0_w2 : w.heap.size < w2.heap.size := (by omega); have hm0_w2 : w.heap.size ≤ w2.heap.size := (by omega); have hn0_w2 : ¬ w.heap.size = w2.heap.size := (by omega); have hq0_w2 : ¬ w2.heap.size = w.heap.size := (by omega); have hr0_w2 := fun o => hc_w2 (w.heap.size) o (by (try simp only [size_drew', size_drewN', World.size_alloc, World.size_setCell]); omega); have hg0_w2 := fun o => hf_w2 (w.heap.size) o (by (try simp only [size_drew', size_drewN', World.size_alloc, World.size_setCell]); omega))
      | (go_at_call 41; (with_reducible refine (HI.out _).mono ?_); rintro e w' ⟨rfl, rfl⟩))
    go_ret
    exact RetB.of (congrArg Value.string (by rw [HVV.out])) (by (repeat (first | exact Below.refl _ _ | assumption | refine Below.setCell ?_ (by first | omega | (simp <;> omega)) _ | refine Below.alloc ?_ (by first | omega | (simp <;> omega)) _ | refine Below.drew ?_ | refine below_drewN' ?_ _)))
end Go.Proofs.YtbbeeglfgnabmaaDoor
