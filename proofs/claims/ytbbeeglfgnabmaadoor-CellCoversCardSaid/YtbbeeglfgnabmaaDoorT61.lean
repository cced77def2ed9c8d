/- A reference is written by the program. -/
import Derived.Test.YtbbeeglfgnabmaaDoorT50
import Derived.Test.YtbbeeglfgnabmaaDoorT60
import Derived.Test.YtbbeeglfgnabmaaDoorShelf
import Derived.Deep.RegionHeld3
import Derived.IntWalk
import Derived.Lib.AppendIntMem
import Derived.Test.YtbbeeglfgnabmaaDoorDec5
namespace Go.Proofs.YtbbeeglfgnabmaaDoor
set_option linter.all false
open Go.RowKit

def Tab (w : World) : Prop := Lib.TabBelow Tryd.prog w.heap.size w "internal/strconv.uint64pow10" .u64 Lib.pow10Tab
theorem Tab.on {w w1 : World} (h : Tab w) (hb : Below w.heap.size w w1) : Lib.TabIs Tryd.prog w1 "internal/strconv.uint64pow10" .u64 Lib.pow10Tab := h w1 hb
theorem Tab.below {w w1 : World} (h : Tab w) (hb : Below w.heap.size w w1) : Tab w1 := fun w' hb' => h w' (hb.trans (hb'.mono hb.size))

theorem itoa_any (n : Int) (w : World) (h0 : -9223372036854775808 ≤ n) (h1 : n ≤ 9223372036854775807) (ht : Lib.TabIs Tryd.prog w "internal/strconv.uint64pow10" .u64 Lib.pow10Tab) :
    Calls Tryd.prog 39 #[.int .i64 n] w (RetB (.string ⟨(Lib.itoa n).toArray⟩) w) :=
  (Tryd.strconv_Itoa n h0 h1 w ht).mono fun e w' he => ⟨he.1, by obtain ⟨k, os, e⟩ := he.2; rw [e]; exact Lib.below_grow _ w (Nat.le_refl _) k os⟩

theorem ce_print_no (c d : Int) (a b : Bool) (w : World) (h : Ce.right ⟨c, d, a, b⟩ = false) : Calls Tryd.prog 14 #[.agg #[.int .i64 c, .int .i64 d, .bool a, .bool b]] w (RetB (.string ⟨#[]⟩) w) := by
  have hr := fun w => ce_right_any c d a b w
  rw [h] at hr
  have HR := Lib.hid hr; clear hr h
  go_enter Tryd.func14, Tryd.ntmps14
  go_wp2_with (go_at_call 12; (with_reducible refine (HR.out _).mono ?_); rintro e w1 ⟨rfl, hb_w1⟩; have hB_w1 : Below (w).heap.size (w) w1 := Below.trans (by (repeat (first | exact Below.refl _ _ | assumption | refine Below.setCell ?_ (by first | omega | (simp <;> omega)) _ | refine Below.alloc ?_ (by first | omega | (simp <;> omega)) _ | refine Below.drew ?_ | refine below_drewN' ?_ _))) (hb_w1.mono (by first | omega | (simp <;> omega))); obtain ⟨hc_w1, hf_w1⟩ := bcell hb_w1; have hz_w1 := hb_w1.size; (try simp only [size_drew', size_drewN', World.size_alloc, World.size_setCell] at hz_w1); have hl0_w1 : w.heap.size < w1.heap.size := (by omega); have hm0_w1 : w.heap.size ≤ w1.heap.size := (by omega); have hn0_w1 : ¬ w.heap.size = w1.heap.size := (by omega); have hq0_w1 : ¬ w1.heap.size = w.heap.size := (by omega); have hr0_w1 := fun o => hc_w1 (w.heap.size) o (by (try simp only [size_drew', size_drewN', World.size_alloc, World.size_setCell]); omega); have hg0_w1 := fun o => hf_w1 (w.heap.size) o (by (try simp only [size_drew', size_drewN', World.size_alloc, World.size_setCell]); omega))
  go_ret
  exact RetB.of rfl (by (repeat (first | exact Below.refl _ _ | assumption | refine Below.setCell ?_ (by first | omega | (simp <;> omega)) _ | refine Below.alloc ?_ (by first | omega | (simp <;> omega)) _ | refine Below.drew ?_ | refine below_drewN' ?_ _)))

set_option maxHeartbeats 2000000 in
theorem ce_print_yes (c d : Nat) (a b : Bool) (w : World) (ht : Tab w) (hc : c < 64) (hd : d < 1000) (h : Ce.right ⟨c, d, a, b⟩ = true) :
    Calls Tryd.prog 14 #[.agg #[.int .i64 c, .int .i64 d, .bool a, .bool b]] w (RetB (.string ⟨(Ce.print ⟨c, d, a, b⟩).toArray⟩) w) := by
  have hr := fun w => ce_right_any c d a b w
  rw [h] at hr
  obtain ⟨M1, hM1⟩ : ∃ M : ByteArray, M = ⟨(Ce.mark a).toArray⟩ := ⟨_, rfl⟩
  obtain ⟨M2, hM2⟩ : ∃ M : ByteArray, M = ⟨(Ce.mark b).toArray⟩ := ⟨_, rfl⟩
  obtain ⟨L, hL⟩ : ∃ M : ByteArray, M = ⟨(Ce.letters c).toArray⟩ := ⟨_, rfl⟩
  obtain ⟨I, hI⟩ : ∃ M : ByteArray, M = ⟨(Lib.itoa ((d : Int) + 1)).toArray⟩ := ⟨_, rfl⟩
  have hm1 := fun W => ce_mark_any a W
  have hm2 := fun W => ce_mark_any b W
  have hn := fun W => ce_name_any c hc W
  have hi := fun W (hb : Below w.heap.size w W) => itoa_any ((d : Int) + 1) W (by omega) (by omega) (ht.on hb)
  rw [← hM1] at hm1; rw [← hM2] at hm2; rw [← hL] at hn; rw [← hI] at hi
  have z1 : M1.size ≤ 1 := by rw [hM1, size_mk]; unfold Ce.mark; split <;> simp
  have z2 : M2.size ≤ 1 := by rw [hM2, size_mk]; unfold Ce.mark; split <;> simp
  have z3 : L.size ≤ 3 := by rw [hL, size_mk]; exact (Ce.letters_ok ⟨c, hc⟩).2.2.2.1
  have z4 : I.size ≤ 30 := by rw [hI, size_mk]; exact Dc.itoa_len _ (by omega)
  obtain ⟨V, hV⟩ : ∃ V : ByteArray, V = ⟨(Ce.print ⟨c, d, a, b⟩).toArray⟩ := ⟨_, rfl⟩
  rw [← hV]
  have hVV : V = M1 ++ L ++ M2 ++ I := by
    rw [hV]
    refine (Dc.ba_eq _ _ ?_).symm
    rw [Ce.print, if_pos h, Dc.ba_app, Dc.ba_app, Dc.ba_app, hM1, hM2, hL, hI]
    have e1 : Lib.itoa ((d : Int) + 1) = Lib.decDigits (((d : Int) + 1).toNat) := by rw [Lib.itoa, if_neg (by omega)]
    simp only [Int.toNat_natCast, e1]
    simp
  have s1 : ¬ 9223372036854775807 < M1.size + L.size := by omega
  have s2 : ¬ 9223372036854775807 < M1.size + L.size + M2.size := by omega
  have s3 : ¬ 9223372036854775807 < M1.size + L.size + M2.size + I.size := by omega
  have HR := Lib.hid hr; have H1 := Lib.hid hm1; have H2 := Lib.hid hm2; have HN := Lib.hid hn; have HI := Lib.hid hi; have HV := Lib.hid hVV
  clear hr h hm1 hm2 hn hi hVV hV hM1 hM2 hL hI ht
  have d1 : (d : Int) + 1 ≤ 1000 := by omega
  go_enter Tryd.func14, Tryd.ntmps14
  go_wp2_with (go_at_call 12; (with_reducible refine (HR.out _).mono ?_); rintro e w1 ⟨rfl, hb_w1⟩; have hB_w1 : Below (w).heap.size (w) w1 := Below.trans (by (repeat (first | exact Below.refl _ _ | assumption | refine Below.setCell ?_ (by first | omega | (simp <;> omega)) _ | refine Below.alloc ?_ (by first | omega | (simp <;> omega)) _ | refine Below.drew ?_ | refine below_drewN' ?_ _))) (hb_w1.mono (by first | omega | (simp <;> omega))); obtain ⟨hc_w1, hf_w1⟩ := bcell hb_w1; have hz_w1 := hb_w1.size; (try simp only [size_drew', size_drewN', World.size_alloc, World.size_setCell] at hz_w1); have hl0_w1 : w.heap.size < w1.heap.size := (by omega); have hm0_w1 : w.heap.size ≤ w1.heap.size := (by omega); have hn0_w1 : ¬ w.heap.size = w1.heap.size := (by omega); have hq0_w1 : ¬ w1.heap.size = w.heap.size := (by omega); have hr0_w1 := fun o => hc_w1 (w.heap.size) o (by (try simp only [size_drew', size_drewN', World.size_alloc, World.size_setCell]); omega); have hg0_w1 := fun o => hf_w1 (w.heap.size) o (by (try simp only [size_drew', size_drewN', World.size_alloc, World.size_setCell]); omega))
  have p0 : w1.cell? ⟨w.heap.size, 0, none⟩ = some (.int .i64 c) := (hr0_w1 0).trans (by simp [go_sem])
  have p1 : w1.cell? ⟨w.heap.size, 1, none⟩ = some (.int .i64 d) := (hr0_w1 1).trans (by simp [go_sem])
  have p2 : w1.cell? ⟨w.heap.size, 2, none⟩ = some (.bool a) := (hr0_w1 2).trans (by simp [go_sem])
  have p3 : w1.cell? ⟨w.heap.size, 3, none⟩ = some (.bool b) := (hr0_w1 3).trans (by simp [go_sem])
  have l1 := hl0_w1
  have HB := Lib.hid hB_w1
  have hz := hB_w1.size
  clear hb_w1 hB_w1 hc_w1 hf_w1 hr0_w1 hg0_w1
  have e1 : IntKind.i64.wrap ((d : Int) + 1) = (d : Int) + 1 := IntWalk.i64_in _ (by omega)
  go_region_held3 (fun w' => w'.cell? ⟨w.heap.size, 0, none⟩ = some (.int .i64 c) ∧ w'.cell? ⟨w.heap.size, 1, none⟩ = some (.int .i64 d) ∧ w'.cell? ⟨w.heap.size, 2, none⟩ = some (.bool a) ∧ w'.cell? ⟨w.heap.size, 3, none⟩ = some (.bool b))
    (first | go_keep | exact ⟨(Below.cell (B := w1.heap.size) (w := w1) (p := ⟨w.heap.size, 0, none⟩) (by (repeat (first | exact Below.refl _ _ | assumption | refine Below.setCell ?_ (by first | omega | (simp <;> omega)) _ | refine Below.alloc ?_ (by first | omega | (simp <;> omega)) _ | refine Below.drew ?_ | refine below_drewN' ?_ _))) l1).trans p0, (Below.cell (B := w1.heap.size) (w := w1) (p := ⟨w.heap.size, 1, none⟩) (by (repeat (first | exact Below.refl _ _ | assumption | refine Below.setCell ?_ (by first | omega | (simp <;> omega)) _ | refine Below.alloc ?_ (by first | omega | (simp <;> omega)) _ | refine Below.drew ?_ | refine below_drewN' ?_ _))) l1).trans p1, (Below.cell (B := w1.heap.size) (w := w1) (p := ⟨w.heap.size, 2, none⟩) (by (repeat (first | exact Below.refl _ _ | assumption | refine Below.setCell ?_ (by first | omega | (simp <;> omega)) _ | refine Below.alloc ?_ (by first | omega | (simp <;> omega)) _ | refine Below.drew ?_ | refine below_drewN' ?_ _))) l1).trans p2, (Below.cell (B := w1.heap.size) (w := w1) (p := ⟨w.heap.size, 3, none⟩) (by (repeat (first | exact Below.refl _ _ | assumption | refine Below.setCell ?_ (by first | omega | (simp <;> omega)) _ | refine Below.alloc ?_ (by first | omega | (simp <;> omega)) _ | refine Below.drew ?_ | refine below_drewN' ?_ _))) l1).trans p3⟩)
    (first
      | (go_at_call 37; (with_reducible refine (H1.out _).mono ?_); rintro e w' ⟨rfl, rfl⟩)
      | (go_at_call 37; (with_reducible refine (H2.out _).mono ?_); rintro e w' ⟨rfl, rfl⟩)
      | (go_at_call 38; (with_reducible refine (HN.out _).mono ?_); rintro e w' ⟨rfl, rfl⟩)
      | (go_at_call 39; (with_reducible refine (HI.out _ (HB.out.trans ((by (repeat (first | exact Below.refl _ _ | assumption | refine Below.setCell ?_ (by first | omega | (simp <;> omega)) _ | refine Below.alloc ?_ (by first | omega | (simp <;> omega)) _ | refine Below.drew ?_ | refine below_drewN' ?_ _)) : Below w1.heap.size w1 _).mono hz))).mono ?_); rintro e w2 ⟨rfl, hb_w2⟩; have hB_w2 : Below w1.heap.size w1 w2 := Below.trans (by (repeat (first | exact Below.refl _ _ | assumption | refine Below.setCell ?_ (by first | omega | (simp <;> omega)) _ | refine Below.alloc ?_ (by first | omega | (simp <;> omega)) _ | refine Below.drew ?_ | refine below_drewN' ?_ _))) (hb_w2.mono (by first | omega | (simp <;> omega)))))
  all_goals go_wp2
  all_goals go_ret
  all_goals exact RetB.of (congrArg Value.string HV.out.symm) (HB.out.trans ((by (repeat (first | exact Below.refl _ _ | assumption | refine Below.setCell ?_ (by first | omega | (simp <;> omega)) _ | refine Below.alloc ?_ (by first | omega | (simp <;> omega)) _ | refine Below.drew ?_ | refine below_drewN' ?_ _)) : Below w1.heap.size w1 _).mono hz))
end Go.Proofs.YtbbeeglfgnabmaaDoor
