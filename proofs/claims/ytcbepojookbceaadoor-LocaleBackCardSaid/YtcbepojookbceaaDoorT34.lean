import Derived.Test.YtcbepojookbceaaDoorT8
import Derived.Test.YtcbepojookbceaaDoorT31
namespace Go.Proofs.YtcbepojookbceaaDoor
set_option linter.all false
open Go.RowKit

/-- A decimal's digits ahead of the point and behind it; no: there are too many. -/
def sidesC (l : Dc.Bs) (x : Int) : Dc.Bs × Dc.Bs × Bool :=
  if l = [] then ([48], [], true)
  else if 400 < Dc.point l x ∨ 400 < (l.length : Int) - Dc.point l x then ([], [], false)
  else if Dc.point l x ≤ 0 then ([48], Lib.repeatL [48] (-Dc.point l x).toNat ++ l, true)
  else if (l.length : Int) ≤ Dc.point l x then (l ++ Lib.repeatL [48] (Dc.point l x - l.length).toNat, [], true)
  else (l.take (Dc.point l x).toNat, l.drop (Dc.point l x).toNat, true)
def sidesV (q : Dc.Bs × Dc.Bs × Bool) : Value := .tuple #[tx q.1, tx q.2.1, .bool q.2.2]

set_option maxRecDepth 100000 in
set_option maxHeartbeats 2000000 in
theorem lo_sides_any (n : Bool) (s : ByteArray) (x : Int) (w : World) (hs : s.size ≤ 100000) :
    Calls Tryd.prog 46 #[.agg #[.bool n, .string s, .int .i64 x]] w (RetB (sidesV (sidesC s.data.toList x)) w) := by
  have hpt := fun w => d_point_any n s x w (by omega)
  have hpb : -1000000 ≤ Dc.point s.data.toList x ∧ Dc.point s.data.toList x ≤ 1000000 := by
    rw [Dc.point_eq]; split
    · rename_i h; have := Dc.right_exp h; omega
    · omega
  obtain ⟨r, hr⟩ : ∃ r, r = sidesV (sidesC s.data.toList x) := ⟨_, rfl⟩
  rw [← hr]
  unfold sidesC at hr
  obtain ⟨p, hp⟩ : ∃ p, p = Dc.point s.data.toList x := ⟨_, rfl⟩
  rw [← hp] at hpt hpb hr
  rw [bs_length] at hr
  obtain ⟨hp1, hp2⟩ := hpb
  have HPT := Lib.hid hpt; have HR := Lib.hid hr; clear hpt hr hp
  have hb0 : Below w.heap.size w (w.alloc (.cells #[.bool n, .string s, .int .i64 x] 36)) := (Below.refl _ _).alloc (Nat.le_refl _) _
  have HB0 := Lib.hid hb0; clear hb0
  go_enter Tryd.func46, Tryd.ntmps46
  go_wp2_with fail
  go_region_held3 (fun w' => w'.cell? ⟨w.heap.size, 0, none⟩ = some (.bool n) ∧ w'.cell? ⟨w.heap.size, 1, none⟩ = some (.string s) ∧ w'.cell? ⟨w.heap.size, 2, none⟩ = some (.int .i64 x)) (first | go_keep | exact box3 hB_w2 (by simp)) (first | (go_at_call 53; (with_reducible refine (HPT.out _).mono ?_); rintro e w2 ⟨rfl, hb_w2⟩; have hB_w2 : Below (w.alloc (.cells #[.bool n, .string s, .int .i64 x] 36)).heap.size (w.alloc (.cells #[.bool n, .string s, .int .i64 x] 36)) w2 := Below.trans (by (repeat (first | exact Below.refl _ _ | assumption | refine Below.setCell ?_ (by first | omega | (simp <;> omega)) _ | refine Below.alloc ?_ (by first | omega | (simp <;> omega)) _ | refine Below.drew ?_ | refine below_drewN' ?_ _))) (hb_w2.mono (by first | omega | (simp <;> omega))); obtain ⟨hc_w2, hf_w2⟩ := bcell hb_w2; have hz_w2 := hb_w2.size; (try simp only [size_drew', size_drewN', World.size_alloc, World.size_setCell] at hz_w2); have hl0_w2 : w.heap.size < w2.heap.size := (by omega); have hm0_w2 : w.heap.size ≤ w2.heap.size := (by omega); have hn0_w2 : ¬ w.heap.size = w2.heap.size := (by omega); have hq0_w2 : ¬ w2.heap.size = w.heap.size := (by omega); have hr0_w2 := fun o => hc_w2 (w.heap.size) o (by (try simp only [size_drew', size_drewN', World.size_alloc, World.size_setCell]); omega); have hg0_w2 := fun o => hf_w2 (w.heap.size) o (by (try simp only [size_drew', size_drewN', World.size_alloc, World.size_setCell]); omega)))
  obtain ⟨m0, m1, m2⟩ := box3 hB_w2 (by simp)
  have hBw := HB0.out.trans (hB_w2.mono (by simp))
  by_cases c0 : s.size = 0
  · have e0 : ((s.size : Int) == 0) = true := beq_iff_eq.2 (by omega)
    have hr := HR.out
    rw [if_pos (List.length_eq_zero_iff.1 (by rw [bs_length]; exact c0))] at hr
    have HR2 := Lib.hid hr; clear hr c0
    go_wp2
    go_ret3
    exact RetB.of HR2.out.symm hBw
  · have e0 : ((s.size : Int) == 0) = false := beq_eq_false_iff_ne.2 (by omega)
    have hr := HR.out
    rw [if_neg (fun e => c0 (by have := congrArg List.length e; rwa [bs_length] at this))] at hr
    have HR2 := Lib.hid hr; clear hr
    by_cases c1 : 400 < p ∨ 400 < (s.size : Int) - p
    · have hr := HR2.out
      rw [if_pos c1] at hr
      have HR3 := Lib.hid hr; clear hr c0
      by_cases c2 : 400 < p
      · clear c1
        go_wp2
        go_ret3
        exact RetB.of HR3.out.symm hBw
      · have c3 : 400 < (s.size : Int) - p := by omega
        clear c1
        go_wp2
        go_ret3
        exact RetB.of HR3.out.symm hBw
    · have hr := HR2.out
      rw [if_neg c1] at hr
      have HR3 := Lib.hid hr; clear hr
      have c2 : p ≤ 400 := by omega
      have c3 : (s.size : Int) - p ≤ 400 := by omega
      have c4 : 0 < s.size := by omega
      clear c1 c0
      by_cases c5 : p ≤ 0
      · obtain ⟨Z, hZ⟩ : ∃ Z : ByteArray, Z = ⟨(Lib.repeatL [48] (-p).toNat).toArray⟩ := ⟨_, rfl⟩
        have hzs : Z.size ≤ 400 := by rw [hZ, size_mk, Lib.repeatL_length]; simp; omega
        have hrep : ∀ w, Calls Tryd.prog 58 #[.string ⟨#[48]⟩, .int .i64 (-p)] w (RetB (.string Z) w) := fun w => by rw [hZ]; exact rep0i _ w (by omega)
        have hr := HR3.out
        rw [if_pos c5] at hr
        have hf : (⟨(Lib.repeatL [48] (-p).toNat ++ s.data.toList).toArray⟩ : ByteArray) = Z ++ s := (Dc.ba_eq _ _ (by rw [Dc.ba_app, hZ])).symm
        have hr2 : r = .tuple #[.string ⟨#[48]⟩, .string (Z ++ s), .bool true] := by rw [hr, sidesV, tx, tx, hf]
        have HR4 := Lib.hid hr2; have HP := Lib.hid hrep; clear hr hrep hZ hf hr2
        have s1 : ¬ 9223372036854775807 < Z.size + s.size := by omega
        have hwr : IntKind.i64.wrap (-p) = -p := IntWalk.i64_in _ (by omega)
        go_wp2_with fail
        go_region_held3 (fun w' => w'.cell? ⟨w.heap.size, 0, none⟩ = some (.bool n) ∧ w'.cell? ⟨w.heap.size, 1, none⟩ = some (.string s) ∧ w'.cell? ⟨w.heap.size, 2, none⟩ = some (.int .i64 x)) (first | go_keep | exact box3 hB_w3 (by simp)) (first | (go_at_call 58; (with_reducible refine (HP.out _).mono ?_); rintro e w3 ⟨rfl, hb_w3⟩; have hB_w3 : Below (w.alloc (.cells #[.bool n, .string s, .int .i64 x] 36)).heap.size (w.alloc (.cells #[.bool n, .string s, .int .i64 x] 36)) w3 := Below.trans (by (repeat (first | exact Below.refl _ _ | assumption | refine Below.setCell ?_ (by first | omega | (simp <;> omega)) _ | refine Below.alloc ?_ (by first | omega | (simp <;> omega)) _ | refine Below.drew ?_ | refine below_drewN' ?_ _))) (hb_w3.mono (by first | omega | (simp <;> omega))); obtain ⟨hc_w3, hf_w3⟩ := bcell hb_w3; have hz_w3 := hb_w3.size; (try simp only [size_drew', size_drewN', World.size_alloc, World.size_setCell] at hz_w3); have hl0_w3 : w.heap.size < w3.heap.size := (by omega); have hm0_w3 : w.heap.size ≤ w3.heap.size := (by omega); have hn0_w3 : ¬ w.heap.size = w3.heap.size := (by omega); have hq0_w3 : ¬ w3.heap.size = w.heap.size := (by omega); have hr0_w3 := fun o => hc_w3 (w.heap.size) o (by (try simp only [size_drew', size_drewN', World.size_alloc, World.size_setCell]); omega); have hg0_w3 := fun o => hf_w3 (w.heap.size) o (by (try simp only [size_drew', size_drewN', World.size_alloc, World.size_setCell]); omega)))
        go_wp2
        go_ret3
        exact RetB.of HR4.out.symm (HB0.out.trans (hB_w3.mono (by simp)))
      · by_cases c6 : (s.size : Int) ≤ p
        · obtain ⟨Z, hZ⟩ : ∃ Z : ByteArray, Z = ⟨(Lib.repeatL [48] (p - s.size).toNat).toArray⟩ := ⟨_, rfl⟩
          have hzs : Z.size ≤ 400 := by rw [hZ, size_mk, Lib.repeatL_length]; simp; omega
          have hrep : ∀ w, Calls Tryd.prog 58 #[.string ⟨#[48]⟩, .int .i64 (p - s.size)] w (RetB (.string Z) w) := fun w => by rw [hZ]; exact rep0i _ w (by omega)
          have hr := HR3.out
          rw [if_neg c5, if_pos c6] at hr
          have hf : (⟨(s.data.toList ++ Lib.repeatL [48] (p - s.size).toNat).toArray⟩ : ByteArray) = s ++ Z := (Dc.ba_eq _ _ (by rw [Dc.ba_app, hZ])).symm
          have hr2 : r = .tuple #[.string (s ++ Z), .string ⟨#[]⟩, .bool true] := by rw [hr, sidesV, tx, tx, hf]
          have HR4 := Lib.hid hr2; have HP := Lib.hid hrep; clear hr hrep hZ hf hr2
          have s1 : ¬ 9223372036854775807 < s.size + Z.size := by omega
          have hwr : IntKind.i64.wrap (p - s.size) = p - s.size := IntWalk.i64_in _ (by omega)
          go_wp2_with fail
          go_region_held3 (fun w' => w'.cell? ⟨w.heap.size, 0, none⟩ = some (.bool n) ∧ w'.cell? ⟨w.heap.size, 1, none⟩ = some (.string s) ∧ w'.cell? ⟨w.heap.size, 2, none⟩ = some (.int .i64 x)) (first | go_keep | exact box3 hB_w4 (by simp)) (first | (go_at_call 58; (with_reducible refine (HP.out _).mono ?_); rintro e w4 ⟨rfl, hb_w4⟩; have hB_w4 : Below (w.alloc (.cells #[.bool n, .string s, .int .i64 x] 36)).heap.size (w.alloc (.cells #[.bool n, .string s, .int .i64 x] 36)) w4 := Below.trans (by (repeat (first | exact Below.refl _ _ | assumption | refine Below.setCell ?_ (by first | omega | (simp <;> omega)) _ | refine Below.alloc ?_ (by first | omega | (simp <;> omega)) _ | refine Below.drew ?_ | refine below_drewN' ?_ _))) (hb_w4.mono (by first | omega | (simp <;> omega))); obtain ⟨hc_w4, hf_w4⟩ := bcell hb_w4; have hz_w4 := hb_w4.size; (try simp only [size_drew', size_drewN', World.size_alloc, World.size_setCell] at hz_w4); have hl0_w4 : w.heap.size < w4.heap.size := (by omega); have hm0_w4 : w.heap.size ≤ w4.heap.size := (by omega); have hn0_w4 : ¬ w.heap.size = w4.heap.size := (by omega); have hq0_w4 : ¬ w4.heap.size = w.heap.size := (by omega); have hr0_w4 := fun o => hc_w4 (w.heap.size) o (by (try simp only [size_drew', size_drewN', World.size_alloc, World.size_setCell]); omega); have hg0_w4 := fun o => hf_w4 (w.heap.size) o (by (try simp only [size_drew', size_drewN', World.size_alloc, World.size_setCell]); omega)))
          go_wp2
          go_ret3
          exact RetB.of HR4.out.symm (HB0.out.trans (hB_w4.mono (by simp)))
        · have hr := HR3.out
          rw [if_neg c5, if_neg c6] at hr
          have hK : (s.extract 0 p.toNat).data.toList = s.data.toList.take p.toNat := by rw [Lib.extract_data, List.drop_zero, Nat.sub_zero]
          have hRR : (s.extract p.toNat s.size).data.toList = s.data.toList.drop p.toNat := Lib.extract_to_end s p.toNat
          obtain ⟨K, hKe⟩ : ∃ K, K = s.extract 0 p.toNat := ⟨_, rfl⟩
          obtain ⟨R, hRe⟩ : ∃ R, R = s.extract p.toNat s.size := ⟨_, rfl⟩
          have hsl : ∀ w : World, (Instr.slice 9 (.string s) none (some (.int .i64 p)) none).run Tryd.prog w = .ok (.string K) w := fun w => by
            rw [hKe, run_slice_string_to_if w _ s .i64 p Tryd.underlying9, if_pos (by omega)]
          have hsr : ∀ w : World, (Instr.slice 9 (.string s) (some (.int .i64 p)) none none).run Tryd.prog w = .ok (.string R) w := fun w => by
            rw [hRe, run_slice_string_from_if w _ s .i64 p Tryd.underlying9, if_pos (by omega)]
          have hr2 : r = .tuple #[.string K, .string R, .bool true] := by
            rw [hr, sidesV, tx, tx, ← hK, ← hRR, ← hKe, ← hRe]
          have HR4 := Lib.hid hr2; clear hr hr2 hKe hRe hK hRR
          go_wp2_with fail
          go_quiet (fail)
          go_wp2
          go_ret3
          exact RetB.of HR4.out.symm (by (repeat (first | exact Below.refl _ _ | assumption | refine Below.setCell ?_ (by first | omega | (simp <;> omega)) _ | refine Below.alloc ?_ (by first | omega | (simp <;> omega)) _ | refine Below.drew ?_ | refine below_drewN' ?_ _)))
end Go.Proofs.YtcbepojookbceaaDoor
