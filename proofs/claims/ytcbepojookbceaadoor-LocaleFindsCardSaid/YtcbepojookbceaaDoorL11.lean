/- The law LocaleFinds, walked: whatever the name, the call returns true and turns nothing that was there. -/
import Derived.Test.YtcbepojookbceaaDoorT47
import Derived.Deep.QuietTactic
import Derived.BigQuiet
namespace Go.Proofs.YtcbepojookbceaaDoor
set_option linter.all false
open Go.RowKit

/-- The k-th of the six, as Names and All lay it. -/
theorem round_facts (w : World) (bn ba k : Nat) (hk : k < 6) (hn : NamesAt w bn) (ha : AllAt w ba) : ∃ l ∈ Lc.six, (w.cell? ⟨bn, k, none⟩ = some (tx l.name) ∧ w.cell? ⟨ba, k * 10, none⟩ = some (tx l.name) ∧ w.cell? ⟨ba, k * 10 + 1, none⟩ = some (tx l.dec) ∧ w.cell? ⟨ba, k * 10 + 2, none⟩ = some (tx l.grp) ∧ w.cell? ⟨ba, k * 10 + 3, none⟩ = some (tx l.list) ∧ w.cell? ⟨ba, k * 10 + 4, none⟩ = some (tx l.minus) ∧ w.cell? ⟨ba, k * 10 + 5, none⟩ = some (.string ⟨#[37]⟩) ∧ w.cell? ⟨ba, k * 10 + 6, none⟩ = some (tx l.cur) ∧ w.cell? ⟨ba, k * 10 + 7, none⟩ = some (.bool l.first) ∧ w.cell? ⟨ba, k * 10 + 8, none⟩ = some (.bool l.space) ∧ w.cell? ⟨ba, k * 10 + 9, none⟩ = some (.int .i64 (l.second : Int))) ∧
    ∀ w1, Vars w1 → Calls Tryd.prog 28 #[tx l.name] w1 (FindIs l w1) := by
  obtain ⟨_, n0, n1, n2, n3, n4, n5⟩ := hn
  obtain ⟨_, a0, a1, a2, a3, a4, a5⟩ := ha
  have hcase : k = 0 ∨ k = 1 ∨ k = 2 ∨ k = 3 ∨ k = 4 ∨ k = 5 := by omega
  rcases hcase with rfl | rfl | rfl | rfl | rfl | rfl
  · exact ⟨Lc.ch, by simp [Lc.six], ⟨n0, a0⟩, fun w1 hv => lo_find_ch w1 hv⟩
  · exact ⟨Lc.de, by simp [Lc.six], ⟨n1, a1⟩, fun w1 hv => lo_find_de w1 hv⟩
  · exact ⟨Lc.en, by simp [Lc.six], ⟨n2, a2⟩, fun w1 hv => lo_find_en w1 hv⟩
  · exact ⟨Lc.fr, by simp [Lc.six], ⟨n3, a3⟩, fun w1 hv => lo_find_fr w1 hv⟩
  · exact ⟨Lc.hi, by simp [Lc.six], ⟨n4, a4⟩, fun w1 hv => lo_find_hi w1 hv⟩
  · exact ⟨Lc.sv, by simp [Lc.six], ⟨n5, a5⟩, fun w1 hv => lo_find_sv w1 hv⟩

/-- The sizes of the groups, as numbers. -/
theorem szs_last {w : World} {b : Nat} {l : Lc.Loc} (h : Szs w b l) : w.cell? ⟨b, 0, none⟩ = some (.int .i64 3) ∧ w.cell? ⟨b, (if l.two = true then 2 else 1) - 1, none⟩ = some (.int .i64 (l.second : Int)) := by
  obtain ⟨h1, h2, h3⟩ := h
  refine ⟨h2, ?_⟩
  unfold Lc.Loc.second
  cases ht : l.two with
  | true => exact h3 ht
  | false => exact h2

set_option maxRecDepth 100000 in
set_option maxHeartbeats 8000000 in
theorem l11_finds_any (s : ByteArray) (w : World) (hv : Vars w) (hm : MaxL w) :
    Calls Tryd.prog 6 #[.string s] w (RetB (.bool true) w) := by
  have hsh := fun w1 (hb : Below w.heap.size w w1) => l11_shown_any w1 (hv.on hb) (hm.on hb)
  have hvx := fun W (h : Below w.heap.size w W) => hv.on h
  have hfc := find_cases s
  have HSH := Lib.hid hsh; have HV := Lib.hid hvx; have HFC := Lib.hid hfc; clear hsh hvx hv hm hfc
  go_enter Tryd.func6, Tryd.ntmps6
  go_wp2_with (first
    | (go_at_call 12; (with_reducible refine (HSH.out _ (by (repeat (first | exact Below.refl _ _ | assumption | refine Below.setCell ?_ (by first | omega | (simp <;> omega)) _ | refine Below.alloc ?_ (by first | omega | (simp <;> omega)) _ | refine Below.drew ?_ | refine below_drewN' ?_ _)))).mono ?_); rintro e w1 ⟨rfl, hb_w1⟩; have hB_w1 : Below (w).heap.size (w) w1 := Below.trans (by (repeat (first | exact Below.refl _ _ | assumption | refine Below.setCell ?_ (by first | omega | (simp <;> omega)) _ | refine Below.alloc ?_ (by first | omega | (simp <;> omega)) _ | refine Below.drew ?_ | refine below_drewN' ?_ _))) (hb_w1.mono (by first | omega | (simp <;> omega))); obtain ⟨hc_w1, hf_w1⟩ := bcell hb_w1; have hz_w1 := hb_w1.size; (try simp only [size_drew', size_drewN', World.size_alloc, World.size_setCell] at hz_w1))
    | (go_at_call 26; (with_reducible refine (lo_names_any _ (HV.out _ (by (repeat (first | exact Below.refl _ _ | assumption | refine Below.setCell ?_ (by first | omega | (simp <;> omega)) _ | refine Below.alloc ?_ (by first | omega | (simp <;> omega)) _ | refine Below.drew ?_ | refine below_drewN' ?_ _))))).mono ?_); rintro e w2 ⟨bn, rfl, hlown, hna, hb_w2⟩; have hB_w2 : Below w.heap.size w w2 := Below.trans (by (repeat (first | exact Below.refl _ _ | assumption | refine Below.setCell ?_ (by first | omega | (simp <;> omega)) _ | refine Below.alloc ?_ (by first | omega | (simp <;> omega)) _ | refine Below.drew ?_ | refine below_drewN' ?_ _))) (hb_w2.mono (by first | omega | (simp <;> omega))); have hz_w2 := hB_w2.size)
    | (go_at_call 27; (with_reducible refine (r11_all_any _).mono ?_); rintro e w3 ⟨ba, rfl, hlowa, haa, hb_w3⟩; have hB_w3 : Below w.heap.size w w3 := Below.trans (by (repeat (first | exact Below.refl _ _ | assumption | refine Below.setCell ?_ (by first | omega | (simp <;> omega)) _ | refine Below.alloc ?_ (by first | omega | (simp <;> omega)) _ | refine Below.drew ?_ | refine below_drewN' ?_ _))) (hb_w3.mono (by first | omega | (simp <;> omega)))))
  have hn3 := hna.on hb_w3
  have HB3 := Lib.hid hB_w3
  clear hna hb_w1 hb_w2 hb_w3 hB_w1 hB_w2 hB_w3 hc_w1 hf_w1
  have HNA := Lib.hid hn3; have HAA := Lib.hid haa
  clear hn3 haa
  go_loopw [6] (fun i wr => ∃ k : Nat, k ≤ 6 ∧ i = .int .i64 k ∧ Below w3.heap.size w3 wr) (fun i _ => 6 - (intOf i).toNat)
  case atStart => exact ⟨0, by omega, rfl, Below.refl _ _⟩
  case round =>
    obtain ⟨k, hk, rfl, hbr⟩ := hrel
    have hBr : Below w.heap.size w wr := HB3.out.trans (hbr.mono HB3.out.size)
    have HBR := Lib.hid hbr; have HBr := Lib.hid hBr
    have hbn := (HNA.out.on hbr).1
    have hba := (HAA.out.on hbr).1
    by_cases hlt : k < 6
    · obtain ⟨l, hl, hfa, f1⟩ := round_facts wr bn ba k hlt (HNA.out.on hbr) (HAA.out.on hbr)
      have f2 : ∀ w1, Vars w1 → Calls Tryd.prog 28 #[tx l.name] w1 (fun e w' => ∃ b, e = .returned (.tuple #[LV b l, .int .i64 0]) ∧ w1.heap.size ≤ b ∧ (b < w'.heap.size ∧ w'.cell? ⟨b, 0, none⟩ = some (.int .i64 3) ∧ w'.cell? ⟨b, (if l.two = true then 2 else 1) - 1, none⟩ = some (.int .i64 (l.second : Int))) ∧ Below w1.heap.size w1 w') :=
        fun w1 h => (f1 w1 h).mono fun e w' ⟨b, e1, e2, e3, e4⟩ => ⟨b, e1, e2, ⟨e3.1, szs_last e3⟩, e4⟩
      have hk12 : (if l.two = true then 2 else 1 : Nat) = 1 ∨ (if l.two = true then 2 else 1 : Nat) = 2 := by split <;> simp
      unfold LV tx at f2
      unfold tx at hfa
      obtain ⟨v0, hv0⟩ : ∃ v : ByteArray, v = ⟨l.name.toArray⟩ := ⟨_, rfl⟩
      obtain ⟨v1, hv1⟩ : ∃ v : ByteArray, v = ⟨l.dec.toArray⟩ := ⟨_, rfl⟩
      obtain ⟨v2, hv2⟩ : ∃ v : ByteArray, v = ⟨l.grp.toArray⟩ := ⟨_, rfl⟩
      obtain ⟨v3, hv3⟩ : ∃ v : ByteArray, v = ⟨l.list.toArray⟩ := ⟨_, rfl⟩
      obtain ⟨v4, hv4⟩ : ∃ v : ByteArray, v = ⟨l.minus.toArray⟩ := ⟨_, rfl⟩
      obtain ⟨v6, hv6⟩ : ∃ v : ByteArray, v = ⟨l.cur.toArray⟩ := ⟨_, rfl⟩
      obtain ⟨f7, hf7⟩ : ∃ v, v = l.first := ⟨_, rfl⟩
      obtain ⟨f8, hf8⟩ : ∃ v, v = l.space := ⟨_, rfl⟩
      obtain ⟨kk, hk⟩ : ∃ v : Nat, v = (if l.two = true then 2 else 1) := ⟨_, rfl⟩
      obtain ⟨z, hz⟩ : ∃ v : Nat, v = l.second := ⟨_, rfl⟩
      simp only [← hv0, ← hv1, ← hv2, ← hv3, ← hv4, ← hv6, ← hf7, ← hf8, ← hk, ← hz] at f2 hfa hk12
      obtain ⟨n0, c0, c1, c2, c3, c4, c5, c6, c7, c8, c9⟩ := hfa
      have F2 := Lib.hid f2
      clear f1 f2 hl hv0 hv1 hv2 hv3 hv4 hv6 hf7 hf8 hk hz hbr hBr
      have hk1 : 1 ≤ kk := by omega
      have hk2 : kk ≤ 2 := by omega
      have hkg : (kk : Int) - 1 = ((kk - 1 : Nat) : Int) := by omega
      have HK12 := Lib.hid hk12; clear hk12
      have HKG := Lib.hid hkg; clear hkg
      go_wp2_with (go_at_call 28; (with_reducible refine (F2.out _ (HV.out _ HBr.out)).mono ?_); rintro e w4 ⟨b, rfl, hlow, ⟨sz0, sz1, sz2⟩, hb_w4⟩; have y0 : w4.cell? ⟨bn, k, none⟩ = some (.string v0) := (hb_w4.cell (p := ⟨bn, k, none⟩) hbn).trans n0; have x0 : w4.cell? ⟨ba, k * 10, none⟩ = some (.string v0) := (hb_w4.cell (p := ⟨ba, k * 10, none⟩) hba).trans c0; have x1 : w4.cell? ⟨ba, k * 10 + 1, none⟩ = some (.string v1) := (hb_w4.cell (p := ⟨ba, k * 10 + 1, none⟩) hba).trans c1; have x2 : w4.cell? ⟨ba, k * 10 + 2, none⟩ = some (.string v2) := (hb_w4.cell (p := ⟨ba, k * 10 + 2, none⟩) hba).trans c2; have x3 : w4.cell? ⟨ba, k * 10 + 3, none⟩ = some (.string v3) := (hb_w4.cell (p := ⟨ba, k * 10 + 3, none⟩) hba).trans c3; have x4 : w4.cell? ⟨ba, k * 10 + 4, none⟩ = some (.string v4) := (hb_w4.cell (p := ⟨ba, k * 10 + 4, none⟩) hba).trans c4; have x5 : w4.cell? ⟨ba, k * 10 + 5, none⟩ = some (.string ⟨#[37]⟩) := (hb_w4.cell (p := ⟨ba, k * 10 + 5, none⟩) hba).trans c5; have x6 : w4.cell? ⟨ba, k * 10 + 6, none⟩ = some (.string v6) := (hb_w4.cell (p := ⟨ba, k * 10 + 6, none⟩) hba).trans c6; have x7 : w4.cell? ⟨ba, k * 10 + 7, none⟩ = some (.bool f7) := (hb_w4.cell (p := ⟨ba, k * 10 + 7, none⟩) hba).trans c7; have x8 : w4.cell? ⟨ba, k * 10 + 8, none⟩ = some (.bool f8) := (hb_w4.cell (p := ⟨ba, k * 10 + 8, none⟩) hba).trans c8; have x9 : w4.cell? ⟨ba, k * 10 + 9, none⟩ = some (.int .i64 (z : Int)) := (hb_w4.cell (p := ⟨ba, k * 10 + 9, none⟩) hba).trans c9; have q0 : ¬ b = w4.heap.size := (by omega); have q1 : ¬ b = w4.heap.size + 1 := (by omega); have q2 : ¬ w4.heap.size = b := (by omega); have q3 : ¬ w4.heap.size + 1 = b := (by omega); have q6 : bn < w4.heap.size := (by have := hb_w4.size; omega); have q7 : ba < w4.heap.size := (by have := hb_w4.size; omega); have q4 : ¬ bn = w4.heap.size := (by omega); have q5 : ¬ ba = w4.heap.size := (by omega); have q8 : ¬ w4.heap.size = bn := (by omega); have q9 : ¬ w4.heap.size = ba := (by omega); have qa : ¬ bn = w4.heap.size + 1 := (by omega); have qb : ¬ ba = w4.heap.size + 1 := (by omega))
      obtain ⟨W, hW⟩ : ∃ W, W = (w4.alloc (.cells #[.string v0, .string v1, .string v2, .string v3, .string v4, .string ⟨#[37]⟩, .string v6, .bool f7, .bool f8, .slice (some ⟨b, 0, none⟩) kk kk] 25)).alloc (.cells #[.string v0, .string v1, .string v2, .string v3, .string v4, .string ⟨#[37]⟩, .string v6, .bool f7, .bool f8, .int .i64 (z : Int)] 27) := ⟨_, rfl⟩
      have e0 : W.cell? ⟨w4.heap.size, 0, none⟩ = some (.string v0) := by rw [hW, cell_alloc_old (by simp)]; simp [go_sem]
      have f0 : W.cell? ⟨w4.heap.size + 1, 0, none⟩ = some (.string v0) := by rw [hW]; simp [go_sem]
      have e1 : W.cell? ⟨w4.heap.size, 1, none⟩ = some (.string v1) := by rw [hW, cell_alloc_old (by simp)]; simp [go_sem]
      have f1 : W.cell? ⟨w4.heap.size + 1, 1, none⟩ = some (.string v1) := by rw [hW]; simp [go_sem]
      have e2 : W.cell? ⟨w4.heap.size, 2, none⟩ = some (.string v2) := by rw [hW, cell_alloc_old (by simp)]; simp [go_sem]
      have f2 : W.cell? ⟨w4.heap.size + 1, 2, none⟩ = some (.string v2) := by rw [hW]; simp [go_sem]
      have e3 : W.cell? ⟨w4.heap.size, 3, none⟩ = some (.string v3) := by rw [hW, cell_alloc_old (by simp)]; simp [go_sem]
      have f3 : W.cell? ⟨w4.heap.size + 1, 3, none⟩ = some (.string v3) := by rw [hW]; simp [go_sem]
      have e4 : W.cell? ⟨w4.heap.size, 4, none⟩ = some (.string v4) := by rw [hW, cell_alloc_old (by simp)]; simp [go_sem]
      have f4 : W.cell? ⟨w4.heap.size + 1, 4, none⟩ = some (.string v4) := by rw [hW]; simp [go_sem]
      have e5 : W.cell? ⟨w4.heap.size, 5, none⟩ = some (.string ⟨#[37]⟩) := by rw [hW, cell_alloc_old (by simp)]; simp [go_sem]
      have f5 : W.cell? ⟨w4.heap.size + 1, 5, none⟩ = some (.string ⟨#[37]⟩) := by rw [hW]; simp [go_sem]
      have e6 : W.cell? ⟨w4.heap.size, 6, none⟩ = some (.string v6) := by rw [hW, cell_alloc_old (by simp)]; simp [go_sem]
      have f6 : W.cell? ⟨w4.heap.size + 1, 6, none⟩ = some (.string v6) := by rw [hW]; simp [go_sem]
      have e7 : W.cell? ⟨w4.heap.size, 7, none⟩ = some (.bool f7) := by rw [hW, cell_alloc_old (by simp)]; simp [go_sem]
      have f7 : W.cell? ⟨w4.heap.size + 1, 7, none⟩ = some (.bool f7) := by rw [hW]; simp [go_sem]
      have e8 : W.cell? ⟨w4.heap.size, 8, none⟩ = some (.bool f8) := by rw [hW, cell_alloc_old (by simp)]; simp [go_sem]
      have f8 : W.cell? ⟨w4.heap.size + 1, 8, none⟩ = some (.bool f8) := by rw [hW]; simp [go_sem]
      have e9 : W.cell? ⟨w4.heap.size, 9, none⟩ = some (.slice (some ⟨b, 0, none⟩) kk kk) := by rw [hW, cell_alloc_old (by simp)]; simp [go_sem]
      have f9 : W.cell? ⟨w4.heap.size + 1, 9, none⟩ = some (.int .i64 (z : Int)) := by rw [hW]; simp [go_sem]
      have y1 : W.cell? ⟨bn, k, none⟩ = some (.string v0) := by rw [hW, cell_alloc_old (by simp; omega), cell_alloc_old (by omega)]; exact y0
      have s0 : W.cell? ⟨b, 0, none⟩ = some (.int .i64 3) := by rw [hW, cell_alloc_old (by simp; omega), cell_alloc_old (by omega)]; exact sz1
      have s1 : W.cell? ⟨b, kk - 1, none⟩ = some (.int .i64 (z : Int)) := by rw [hW, cell_alloc_old (by simp; omega), cell_alloc_old (by omega)]; exact sz2
      have hBW : Below wr.heap.size wr W := by rw [hW]; exact (hb_w4.alloc hb_w4.size _).alloc (by have := hb_w4.size; simp; omega) _
      rw [← hW]
      have HBW := Lib.hid hBW
      have S1 := Lib.hid s1
      clear hW hBW sz1 sz2 hb_w4 y0 n0 s1 c0 x0 c1 x1 c2 x2 c3 x3 c4 x4 c5 x5 c6 x6 c7 x7 c8 x8 c9 x9
      go_quiet (fail)
      go_wp2
      clear e0 f0 e1 f1 e2 f2 e3 f3 e4 f4 e5 f5 e6 f6 e7 f7 e8 f8 y1
      rcases HK12.out with e | e
      · subst e
        have h1 := S1.out
        rw [Nat.sub_self, s0] at h1
        have hz3 : (z : Int) = 3 := by simpa using h1.symm
        obtain rfl : z = 3 := by omega
        clear h1 hz3
        go_quiet (fail)
        go_wp2
        go_roundw
        case rel => exact ⟨k + 1, by omega, by go_num, HBR.out.trans ((HBW.out.trans ((by (repeat (first | exact Below.refl _ _ | assumption | refine Below.setCell ?_ (by first | omega | (simp <;> omega)) _ | refine Below.alloc ?_ (by first | omega | (simp <;> omega)) _ | refine Below.drew ?_ | refine below_drewN' ?_ _)) : Below wr.heap.size W _))).mono HBR.out.size)⟩
        case measure => simp [intOf]; omega
      · subst e
        have h1 := S1.out
        rw [show 2 - 1 = 1 from rfl] at h1
        go_quiet (fail)
        go_wp2
        go_roundw
        case rel => exact ⟨k + 1, by omega, by go_num, HBR.out.trans ((HBW.out.trans ((by (repeat (first | exact Below.refl _ _ | assumption | refine Below.setCell ?_ (by first | omega | (simp <;> omega)) _ | refine Below.alloc ?_ (by first | omega | (simp <;> omega)) _ | refine Below.drew ?_ | refine below_drewN' ?_ _)) : Below wr.heap.size W _))).mono HBR.out.size)⟩
        case measure => simp [intOf]; omega
    · obtain rfl : k = 6 := by omega
      clear hbr hBr hlt hk
      rcases HFC.out with ⟨l, hl, f1, f2⟩ | ⟨f1, f2⟩
      · unfold FindIs LV tx at f1
        unfold RV tx at f2
        obtain ⟨v0, hv0⟩ : ∃ v : ByteArray, v = ⟨l.name.toArray⟩ := ⟨_, rfl⟩
        obtain ⟨v1, hv1⟩ : ∃ v : ByteArray, v = ⟨l.dec.toArray⟩ := ⟨_, rfl⟩
        obtain ⟨v2, hv2⟩ : ∃ v : ByteArray, v = ⟨l.grp.toArray⟩ := ⟨_, rfl⟩
        obtain ⟨v3, hv3⟩ : ∃ v : ByteArray, v = ⟨l.list.toArray⟩ := ⟨_, rfl⟩
        obtain ⟨v4, hv4⟩ : ∃ v : ByteArray, v = ⟨l.minus.toArray⟩ := ⟨_, rfl⟩
        obtain ⟨v6, hv6⟩ : ∃ v : ByteArray, v = ⟨l.cur.toArray⟩ := ⟨_, rfl⟩
        obtain ⟨f7, hf7⟩ : ∃ v, v = l.first := ⟨_, rfl⟩
        obtain ⟨f8, hf8⟩ : ∃ v, v = l.space := ⟨_, rfl⟩
        obtain ⟨kk, hk⟩ : ∃ v : Nat, v = (if l.two = true then 2 else 1) := ⟨_, rfl⟩
        obtain ⟨z, hz⟩ : ∃ v : Nat, v = l.second := ⟨_, rfl⟩
        simp only [← hv0, ← hv1, ← hv2, ← hv3, ← hv4, ← hv6, ← hf7, ← hf8, ← hk, ← hz] at f1 f2
        have F1 := Lib.hid f1; have F2 := Lib.hid f2
        clear f1 f2 hv0 hv1 hv2 hv3 hv4 hv6 hf7 hf8 hk hz
        go_wp2_with (first
          | (go_at_call 28; (with_reducible refine (F1.out _ (HV.out _ HBr.out)).mono ?_); rintro e w4 ⟨b, rfl, hlow, hszs, hb_w4⟩; have hB_w4 : Below wr.heap.size wr w4 := hb_w4; have hz_w4 := hb_w4.size; clear hszs)
          | (go_at_call 29; (with_reducible refine (F2.out _).mono ?_); rintro e w5 ⟨rfl, hb_w5⟩; have hB_w5 : Below (wr).heap.size (wr) w5 := Below.trans (by (repeat (first | exact Below.refl _ _ | assumption | refine Below.setCell ?_ (by first | omega | (simp <;> omega)) _ | refine Below.alloc ?_ (by first | omega | (simp <;> omega)) _ | refine Below.drew ?_ | refine below_drewN' ?_ _))) (hb_w5.mono (by first | omega | (simp <;> omega))); obtain ⟨hc_w5, hf_w5⟩ := bcell hb_w5; have hz_w5 := hb_w5.size; (try simp only [size_drew', size_drewN', World.size_alloc, World.size_setCell] at hz_w5); have hl0_w5 : w4.heap.size < w5.heap.size := (by omega); have hm0_w5 : w4.heap.size ≤ w5.heap.size := (by omega); have hn0_w5 : ¬ w4.heap.size = w5.heap.size := (by omega); have hq0_w5 : ¬ w5.heap.size = w4.heap.size := (by omega); have hr0_w5 := fun o => hc_w5 (w4.heap.size) o (by (try simp only [size_drew', size_drewN', World.size_alloc, World.size_setCell]); omega); have hg0_w5 := fun o => hf_w5 (w4.heap.size) o (by (try simp only [size_drew', size_drewN', World.size_alloc, World.size_setCell]); omega)))
        go_ret
        exact RetB.of rfl (HBr.out.trans ((by (repeat (first | exact Below.refl _ _ | assumption | refine Below.setCell ?_ (by first | omega | (simp <;> omega)) _ | refine Below.alloc ?_ (by first | omega | (simp <;> omega)) _ | refine Below.drew ?_ | refine below_drewN' ?_ _)) : Below wr.heap.size wr _).mono HBr.out.size))
      · unfold LZ at f1
        unfold RZ at f2
        have F1 := Lib.hid f1; have F2 := Lib.hid f2
        clear f1 f2
        go_wp2_with (first
          | (go_at_call 28; (with_reducible refine (F1.out _ (HV.out _ HBr.out)).mono ?_); rintro e w4 ⟨rfl, hb_w4⟩; have hB_w4 : Below (wr).heap.size (wr) w4 := Below.trans (by (repeat (first | exact Below.refl _ _ | assumption | refine Below.setCell ?_ (by first | omega | (simp <;> omega)) _ | refine Below.alloc ?_ (by first | omega | (simp <;> omega)) _ | refine Below.drew ?_ | refine below_drewN' ?_ _))) (hb_w4.mono (by first | omega | (simp <;> omega))); obtain ⟨hc_w4, hf_w4⟩ := bcell hb_w4; have hz_w4 := hb_w4.size; (try simp only [size_drew', size_drewN', World.size_alloc, World.size_setCell] at hz_w4))
          | (go_at_call 29; (with_reducible refine (F2.out _).mono ?_); rintro e w5 ⟨rfl, hb_w5⟩; have hB_w5 : Below (wr).heap.size (wr) w5 := Below.trans (by (repeat (first | exact Below.refl _ _ | assumption | refine Below.setCell ?_ (by first | omega | (simp <;> omega)) _ | refine Below.alloc ?_ (by first | omega | (simp <;> omega)) _ | refine Below.drew ?_ | refine below_drewN' ?_ _))) (hb_w5.mono (by first | omega | (simp <;> omega))); obtain ⟨hc_w5, hf_w5⟩ := bcell hb_w5; have hz_w5 := hb_w5.size; (try simp only [size_drew', size_drewN', World.size_alloc, World.size_setCell] at hz_w5); have hl0_w5 : w4.heap.size < w5.heap.size := (by omega); have hm0_w5 : w4.heap.size ≤ w5.heap.size := (by omega); have hn0_w5 : ¬ w4.heap.size = w5.heap.size := (by omega); have hq0_w5 : ¬ w5.heap.size = w4.heap.size := (by omega); have hr0_w5 := fun o => hc_w5 (w4.heap.size) o (by (try simp only [size_drew', size_drewN', World.size_alloc, World.size_setCell]); omega); have hg0_w5 := fun o => hf_w5 (w4.heap.size) o (by (try simp only [size_drew', size_drewN', World.size_alloc, World.size_setCell]); omega)))
        go_ret
        exact RetB.of rfl (HBr.out.trans ((by (repeat (first | exact Below.refl _ _ | assumption | refine Below.setCell ?_ (by first | omega | (simp <;> omega)) _ | refine Below.alloc ?_ (by first | omega | (simp <;> omega)) _ | refine Below.drew ?_ | refine below_drewN' ?_ _)) : Below wr.heap.size wr _).mono HBr.out.size))
end Go.Proofs.YtcbepojookbceaaDoor
