import Derived.Test.YtcbepojookbceaaDoorT30
import Derived.Deep.QuietTactic
import Derived.BigQuiet
namespace Go.Proofs.YtcbepojookbceaaDoor
set_option linter.all false
open Go.RowKit

def strLen : Value → Nat
  | .string s => s.size
  | _ => 0

theorem out_len (z : Nat) (g d : Dc.Bs) (a : Nat) : ∀ k, (Lc.out z g d a k).length ≤ k * (g.length + 1) := by
  intro k
  induction k with
  | zero => simp [Lc.out]
  | succ k ih =>
    rw [Lc.out, List.length_append, List.length_append, Nat.succ_mul]
    split <;> simp <;> omega

theorem box10 {w wr : World} {a0 a1 a2 a3 a4 a5 a6 a7 a8 a9 : Value} {t : TypeId} (hb : Below (w.heap.size + 1) (w.alloc (.cells #[a0, a1, a2, a3, a4, a5, a6, a7, a8, a9] t)) wr) :
    wr.cell? ⟨w.heap.size, 0, none⟩ = some a0 ∧ wr.cell? ⟨w.heap.size, 1, none⟩ = some a1 ∧ wr.cell? ⟨w.heap.size, 2, none⟩ = some a2 ∧ wr.cell? ⟨w.heap.size, 3, none⟩ = some a3 ∧ wr.cell? ⟨w.heap.size, 4, none⟩ = some a4 ∧ wr.cell? ⟨w.heap.size, 5, none⟩ = some a5 ∧ wr.cell? ⟨w.heap.size, 6, none⟩ = some a6 ∧ wr.cell? ⟨w.heap.size, 7, none⟩ = some a7 ∧ wr.cell? ⟨w.heap.size, 8, none⟩ = some a8 ∧ wr.cell? ⟨w.heap.size, 9, none⟩ = some a9 := by
  refine ⟨?_, ?_, ?_, ?_, ?_, ?_, ?_, ?_, ?_, ?_⟩ <;> (rw [hb.cell (p := ⟨w.heap.size, _, none⟩) (by show w.heap.size < _; omega)]; simp [go_sem])

set_option maxRecDepth 100000 in
set_option maxHeartbeats 2000000 in
theorem lo_grouped_any (b : Nat) (l : Lc.Loc) (s : ByteArray) (w : World) (h : Szs w b l) (hs : s.size ≤ 100000) (hg : l.grp.length ≤ 10) :
    Calls Tryd.prog 17 #[LV b l, .string s] w (RetB (tx (Lc.grouped l.second l.grp s.data.toList)) w) := by
  obtain ⟨z, hz⟩ : ∃ z, z = l.second := ⟨_, rfl⟩
  have hz23 := Lc.second_pos l
  rw [← hz] at hz23 ⊢
  obtain ⟨d, hd⟩ : ∃ d, d = s.data.toList := ⟨_, rfl⟩
  have hdl : d.length = s.size := by rw [hd, bs_length]
  rw [← hd]
  obtain ⟨r, hr⟩ : ∃ r : ByteArray, r = ⟨(Lc.grouped z l.grp d).toArray⟩ := ⟨_, rfl⟩
  show Calls _ _ _ _ (RetB (.string ⟨(Lc.grouped z l.grp d).toArray⟩) w)
  rw [← hr]
  have hsize : ∀ (i : Nat) (W : World), Szs W b l → i ≤ 1000000 → Calls Tryd.prog 45 #[LV b l, .int .i64 i] W (RetB (.int .i64 (Lc.nxt z i)) W) := fun i W h1 h2 => by rw [hz]; exact lo_size_any b l i W h1 h2
  obtain ⟨G, hG⟩ : ∃ G : ByteArray, G = ⟨l.grp.toArray⟩ := ⟨_, rfl⟩
  have hGs : G.size ≤ 10 := by rw [hG, size_mk]; exact hg
  obtain ⟨n, hn⟩ : ∃ n, n = s.size := ⟨_, rfl⟩
  rw [← hn] at hdl hs
  unfold LV at hsize ⊢
  unfold tx at hsize ⊢
  rw [← hG] at hsize ⊢
  have hb0 : b < w.heap.size := h.1
  have HS := Lib.hid h; have HSZ := Lib.hid hsize; have HR := Lib.hid hr; have HD := Lib.hid hd; have HDL := Lib.hid hdl; have HN := Lib.hid hn; have HGG := Lib.hid hG; have HZ := Lib.hid hz
  clear h hsize hr hd hdl hn hG hz
  obtain ⟨v0, hv0⟩ : ∃ v : ByteArray, v = ⟨l.name.toArray⟩ := ⟨_, rfl⟩
  obtain ⟨v1, hv1⟩ : ∃ v : ByteArray, v = ⟨l.dec.toArray⟩ := ⟨_, rfl⟩
  obtain ⟨v3, hv3⟩ : ∃ v : ByteArray, v = ⟨l.list.toArray⟩ := ⟨_, rfl⟩
  obtain ⟨v4, hv4⟩ : ∃ v : ByteArray, v = ⟨l.minus.toArray⟩ := ⟨_, rfl⟩
  obtain ⟨v6, hv6⟩ : ∃ v : ByteArray, v = ⟨l.cur.toArray⟩ := ⟨_, rfl⟩
  obtain ⟨k, hk⟩ : ∃ v : Nat, v = (if l.two = true then 2 else 1) := ⟨_, rfl⟩
  rw [← hv0, ← hv1, ← hv3, ← hv4, ← hv6, ← hk] at HSZ ⊢
  obtain ⟨f7, hf7⟩ : ∃ v, v = l.first := ⟨_, rfl⟩
  obtain ⟨f8, hf8⟩ : ∃ v, v = l.space := ⟨_, rfl⟩
  rw [← hf7, ← hf8] at HSZ ⊢
  clear hv0 hv1 hv3 hv4 hv6 hk hf7 hf8
  have hne : ¬ b = w.heap.size := by omega
  go_enter Tryd.func17, Tryd.ntmps17
  go_wp2_with fail
  go_loopw [1, 5, 6, 7] (fun dd ss i _ wr => ∃ (j : Nat) (D S : ByteArray), Lc.cuts z j ≤ n ∧ j ≤ n ∧ i = .int .i64 j ∧ dd = .string D ∧ ss = .string S ∧ D = ⟨(d.take (n - Lc.cuts z j)).toArray⟩ ∧ S = ⟨(Lc.out z l.grp d (n - Lc.cuts z j) (Lc.cuts z j)).toArray⟩ ∧ Below (w.heap.size + 1) (w.alloc (.cells #[.string v0, .string v1, .string G, .string v3, .string v4, .string ⟨#[37]⟩, .string v6, .bool f7, .bool f8, .slice (some ⟨b, 0, none⟩) k k] 25)) wr) (fun dd _ _ _ _ => strLen dd)
  case atStart => exact ⟨0, s, ⟨#[]⟩, by simp [Lc.cuts], by omega, rfl, rfl, rfl, by
    have h1 : Lc.cuts z 0 = 0 := by simp [Lc.cuts]
    rw [h1, Nat.sub_zero, List.take_of_length_le (by rw [HDL.out]; omega), HD.out], by
    have h1 : Lc.cuts z 0 = 0 := by simp [Lc.cuts]
    rw [h1]; rfl, Below.refl _ _⟩
  case round =>
    obtain ⟨j, D, S, hj, hjn, rfl, rfl, rfl, hD, hS, hbw⟩ := hrel
    obtain ⟨q0, q1, q2, q3, q4, q5, q6, q7, q8, q9⟩ := box10 hbw
    have hbz := hbw.size
    simp only [World.size_alloc] at hbz
    have hbl : Below w.heap.size w wr := ((Below.refl _ _).alloc (Nat.le_refl _) _).trans (hbw.mono (by omega))
    have hszs : Szs wr b l := HS.out.on hbl
    have hDs : D.size = n - Lc.cuts z j := by rw [hD, size_mk, List.length_take, HDL.out]; omega
    have hDb : D.size ≤ 100000 := by omega
    have hSs : S.size ≤ 2000000 := by
      rw [hS, size_mk]
      have h1 := out_len z l.grp d (n - Lc.cuts z j) (Lc.cuts z j)
      have h2 : Lc.cuts z j * (l.grp.length + 1) ≤ 100000 * 11 := Nat.mul_le_mul (by omega) (by omega)
      omega
    obtain ⟨x, hx⟩ : ∃ x, x = Lc.nxt z j := ⟨_, rfl⟩
    have hx23 : 2 ≤ x ∧ x ≤ 3 := by rw [hx]; unfold Lc.nxt; split <;> omega
    obtain ⟨hx2, hx3⟩ := hx23
    have hcall := fun W (hb : Below wr.heap.size wr W) => HSZ.out j W (hszs.on hb) (by omega)
    rw [← hx] at hcall
    have hcs := Lc.cuts_succ z j
    rw [← hx] at hcs
    have HCALL := Lib.hid hcall; have HDD := Lib.hid hD; have HSS := Lib.hid hS; have HX := Lib.hid hx; have HCS := Lib.hid hcs; have HBL := Lib.hid hbl; have HBW := Lib.hid hbw; have HDs := Lib.hid hDs
    clear hcall hD hS hx hcs hbl hszs hbw hDs
    by_cases hgo : x < D.size
    · have hc1 : Lc.cuts z (j + 1) < n := by have := HDs.out; have := HCS.out; omega
      obtain ⟨E, hE⟩ : ∃ E, E = D.extract 0 (D.size - x) := ⟨_, rfl⟩
      obtain ⟨T, hT⟩ : ∃ E, E = D.extract (D.size - x) D.size := ⟨_, rfl⟩
      have hEs : E.size = D.size - x := by rw [hE, ByteArray.size_extract]; omega
      have hTs : T.size = x := by rw [hT, ByteArray.size_extract]; omega
      have hsl : ∀ w : World, (Instr.slice 9 (.string D) none (some (.int .i64 ((D.size : Int) - x))) none).run Tryd.prog w = .ok (.string E) w := fun w => by
        rw [hE, run_slice_string_to_if w _ D .i64 _ Tryd.underlying9, if_pos (by omega)]
        congr 3; omega
      have hsr : ∀ w : World, (Instr.slice 9 (.string D) (some (.int .i64 ((D.size : Int) - x))) none none).run Tryd.prog w = .ok (.string T) w := fun w => by
        rw [hT, run_slice_string_from_if w _ D .i64 _ Tryd.underlying9, if_pos (by omega)]
        congr 3; omega
      have s1 : ¬ 9223372036854775807 < G.size + T.size := by omega
      have s2 : ¬ 9223372036854775807 < G.size + T.size + S.size := by omega
      have HE := Lib.hid hE; have HT := Lib.hid hT; have HEs := Lib.hid hEs; have HTs := Lib.hid hTs; clear hE hT hEs hTs
      have tok1 : True := trivial
      go_wp2_with (first
        | (clear tok1; (go_at_call 45; (with_reducible refine (HCALL.out _ (by (repeat (first | exact Below.refl _ _ | assumption | refine Below.setCell ?_ (by first | omega | (simp <;> omega)) _ | refine Below.alloc ?_ (by first | omega | (simp <;> omega)) _ | refine Below.drew ?_ | refine below_drewN' ?_ _)))).mono ?_); rintro e w5 ⟨rfl, hb_w5⟩; have hB_w5 : Below (wr).heap.size (wr) w5 := Below.trans (by (repeat (first | exact Below.refl _ _ | assumption | refine Below.setCell ?_ (by first | omega | (simp <;> omega)) _ | refine Below.alloc ?_ (by first | omega | (simp <;> omega)) _ | refine Below.drew ?_ | refine below_drewN' ?_ _))) (hb_w5.mono (by first | omega | (simp <;> omega))); obtain ⟨hc_w5, hf_w5⟩ := bcell hb_w5; have hz_w5 := hb_w5.size; (try simp only [size_drew', size_drewN', World.size_alloc, World.size_setCell] at hz_w5); have hl0_w5 : w.heap.size < w5.heap.size := (by omega); have hm0_w5 : w.heap.size ≤ w5.heap.size := (by omega); have hn0_w5 : ¬ w.heap.size = w5.heap.size := (by omega); have hq0_w5 : ¬ w5.heap.size = w.heap.size := (by omega); have hr0_w5 := fun o => hc_w5 (w.heap.size) o (by (try simp only [size_drew', size_drewN', World.size_alloc, World.size_setCell]); omega); have hg0_w5 := fun o => hf_w5 (w.heap.size) o (by (try simp only [size_drew', size_drewN', World.size_alloc, World.size_setCell]); omega)))
        | (go_at_call 45; (with_reducible refine (HCALL.out _ (by (repeat (first | exact Below.refl _ _ | assumption | refine Below.setCell ?_ (by first | omega | (simp <;> omega)) _ | refine Below.alloc ?_ (by first | omega | (simp <;> omega)) _ | refine Below.drew ?_ | refine below_drewN' ?_ _)))).mono ?_); rintro e w6 ⟨rfl, hb_w6⟩; have hB_w6 : Below (wr).heap.size (wr) w6 := Below.trans (by (repeat (first | exact Below.refl _ _ | assumption | refine Below.setCell ?_ (by first | omega | (simp <;> omega)) _ | refine Below.alloc ?_ (by first | omega | (simp <;> omega)) _ | refine Below.drew ?_ | refine below_drewN' ?_ _))) (hb_w6.mono (by first | omega | (simp <;> omega))); obtain ⟨hc_w6, hf_w6⟩ := bcell hb_w6; have hz_w6 := hb_w6.size; (try simp only [size_drew', size_drewN', World.size_alloc, World.size_setCell] at hz_w6); have hl0_w6 : w.heap.size < w6.heap.size := (by omega); have hm0_w6 : w.heap.size ≤ w6.heap.size := (by omega); have hn0_w6 : ¬ w.heap.size = w6.heap.size := (by omega); have hq0_w6 : ¬ w6.heap.size = w.heap.size := (by omega); have hr0_w6 := fun o => hc_w6 (w.heap.size) o (by (try simp only [size_drew', size_drewN', World.size_alloc, World.size_setCell]); omega); have hg0_w6 := fun o => hf_w6 (w.heap.size) o (by (try simp only [size_drew', size_drewN', World.size_alloc, World.size_setCell]); omega)))
      have p2 : w6.cell? ⟨w.heap.size, 2, none⟩ = some (.string G) := (hr0_w6 2).trans ((hr0_w5 2).trans q2)
      go_quiet (fail)
      go_wp2
      go_roundw
      case rel =>
        have hd0 := HDs.out
        have hcs := HCS.out
        have hdl := HDL.out
        have hDD : D.data.toList = d.take (n - Lc.cuts z j) := by rw [HDD.out]
        have hED : E.data.toList = d.take (n - Lc.cuts z (j + 1)) := by
          rw [HE.out, Lib.extract_data, List.drop_zero, hDD, List.take_take]; congr 1; omega
        have hTD : T.data.toList = (d.take (n - Lc.cuts z j)).drop (n - Lc.cuts z (j + 1)) := by
          rw [HT.out, Lib.extract_to_end, hDD]; congr 1; omega
        have hst := Lc.group_step z l.grp d j hz23.1 hz23.2 (by rw [hdl]; exact hc1)
        rw [hdl] at hst
        have hjc := Lc.le_cuts z (j + 1) hz23.1
        exact ⟨j + 1, E, G ++ T ++ S, by omega, by omega, by go_num, rfl, rfl, Dc.ba_eq _ _ hED, Dc.ba_eq _ _ (by rw [Dc.ba_app, Dc.ba_app, hst, hTD, HGG.out, HSS.out, List.append_assoc]), HBW.out.trans ((by (repeat (first | exact Below.refl _ _ | assumption | refine Below.setCell ?_ (by first | omega | (simp <;> omega)) _ | refine Below.alloc ?_ (by first | omega | (simp <;> omega)) _ | refine Below.drew ?_ | refine below_drewN' ?_ _)) : Below wr.heap.size wr _).mono (by omega))⟩
      case measure => simp [strLen]; have := HEs.out; omega
    · have tok1 : True := trivial
      have hf : D ++ S = r := by
        rw [HR.out]
        have h1 := Lc.group_end z l.grp d j hz23.1 hz23.2 (by rw [HDL.out]; exact hj) (by rw [HDL.out]; have := HDs.out; rw [← HX.out]; omega)
        rw [HDL.out] at h1
        refine Dc.ba_eq _ _ ?_
        rw [Dc.ba_app, h1, HDD.out, HSS.out]
      have HF := Lib.hid hf; clear hf
      have s1 : ¬ 9223372036854775807 < D.size + S.size := by omega
      go_wp2_with (go_at_call 45; (with_reducible refine (HCALL.out _ (by (repeat (first | exact Below.refl _ _ | assumption | refine Below.setCell ?_ (by first | omega | (simp <;> omega)) _ | refine Below.alloc ?_ (by first | omega | (simp <;> omega)) _ | refine Below.drew ?_ | refine below_drewN' ?_ _)))).mono ?_); rintro e w7 ⟨rfl, hb_w7⟩; have hB_w7 : Below (wr).heap.size (wr) w7 := Below.trans (by (repeat (first | exact Below.refl _ _ | assumption | refine Below.setCell ?_ (by first | omega | (simp <;> omega)) _ | refine Below.alloc ?_ (by first | omega | (simp <;> omega)) _ | refine Below.drew ?_ | refine below_drewN' ?_ _))) (hb_w7.mono (by first | omega | (simp <;> omega))); obtain ⟨hc_w7, hf_w7⟩ := bcell hb_w7; have hz_w7 := hb_w7.size; (try simp only [size_drew', size_drewN', World.size_alloc, World.size_setCell] at hz_w7); have hl0_w7 : w.heap.size < w7.heap.size := (by omega); have hm0_w7 : w.heap.size ≤ w7.heap.size := (by omega); have hn0_w7 : ¬ w.heap.size = w7.heap.size := (by omega); have hq0_w7 : ¬ w7.heap.size = w.heap.size := (by omega); have hr0_w7 := fun o => hc_w7 (w.heap.size) o (by (try simp only [size_drew', size_drewN', World.size_alloc, World.size_setCell]); omega); have hg0_w7 := fun o => hf_w7 (w.heap.size) o (by (try simp only [size_drew', size_drewN', World.size_alloc, World.size_setCell]); omega))
      go_ret
      exact RetB.of (congrArg Value.string HF.out) (HBL.out.trans (hB_w7.mono (by omega)))
end Go.Proofs.YtcbepojookbceaaDoor
