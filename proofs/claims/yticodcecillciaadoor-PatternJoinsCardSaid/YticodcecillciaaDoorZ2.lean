/- Patterns in the program: the first item of some kinds is found; items are cut there; a section's head. -/
import Derived.Test.YticodcecillciaaDoorZ1
import Derived.Laws.IdiomCopy
import Derived.OwnWalk
namespace Go.Proofs.YticodcecillciaaDoor
set_option linter.all false
open Go.RowKit

def cutI (ks : List Int) (l : List Pa.It) : Int := if Pa.cutAt ks l < l.length then (Pa.cutAt ks l : Nat) else -1
theorem cutAt_of (ks : List Int) (l : List Pa.It) (k : Nat) (hk : k < l.length) (h : ∀ i (hi : i < l.length), i < k → ks.contains l[i].kind = false) (hit : ks.contains l[k].kind = true) : Pa.cutAt ks l = k := by
  unfold Pa.cutAt
  rw [List.findIdx_eq hk]
  exact ⟨hit, fun j hj => h j (by omega) hj⟩
theorem cutAt_none (ks : List Int) (l : List Pa.It) (h : ∀ i (hi : i < l.length), ks.contains l[i].kind = false) : Pa.cutAt ks l = l.length := by
  unfold Pa.cutAt
  apply List.findIdx_eq_length_of_false
  intro x hx
  obtain ⟨i, hi, rfl⟩ := List.getElem_of_mem hx
  exact h i hi
theorem cutAt_le (ks : List Int) (l : List Pa.It) : Pa.cutAt ks l ≤ l.length := List.findIdx_le_length

set_option maxRecDepth 100000 in
set_option maxHeartbeats 2000000 in
theorem indexItems_any (v : Value) (l : List Pa.It) (B p b c : Nat) (ks : List Int) (w : World) (h : ItsAt w B v l) (hB : B ≤ w.heap.size) (hl : l.length ≤ 1000000) (hks : ks.length ≤ 100)
    (hp : w.cell? ⟨p, 0, none⟩ = some (.slice (some ⟨b, 0, none⟩) ks.length c)) (hpl : p < w.heap.size) (hbl : b < w.heap.size) (hk : ∀ j, j < ks.length → w.cell? ⟨b, j, none⟩ = some (.int .i64 (ks.getD j 0))) :
    Calls Tryd.prog 59 #[v, .func (.func 60) #[] #[.pointer (some ⟨p, 0, none⟩)]] w (RetB (.int .i64 (cutI ks l)) w) := by
  obtain ⟨r, hr⟩ : ∃ r, r = cutI ks l := ⟨_, rfl⟩
  rw [← hr]
  by_cases h0 : 0 < l.length
  · obtain ⟨b1, o, c1, rfl, hc, hb1, hh⟩ := h.get h0
    have hcall : ∀ x (W : World), Below w.heap.size w W → Calls Tryd.prog 60 #[itV x, .pointer (some ⟨p, 0, none⟩)] W (RetB (.bool (ks.contains x.kind)) W) := fun x W hW =>
      pa_cut1_any x p b c ks W hks ((hW.cell (p := ⟨p, 0, none⟩) hpl).trans hp) (Nat.lt_of_lt_of_le hpl hW.size) (Nat.lt_of_lt_of_le hbl hW.size) (fun j hj => (hW.cell (p := ⟨b, j, none⟩) hbl).trans (hk j hj))
    obtain ⟨n, hn⟩ : ∃ n, n = l.length := ⟨_, rfl⟩
    rw [← hn] at hl ⊢
    have hbw : b1 < w.heap.size := by omega
    have HH := Lib.hid hh; have HN := Lib.hid hn; have HR := Lib.hid hr; have HC := Lib.hid hcall
    clear hh hn hr h h0 hc hb1 hcall hp hk hpl hbl
    go_enter Tryd.func59, Tryd.ntmps59
    go_wp2_with fail
    go_loopw [5, 8] (fun _ i wr => ∃ k : Nat, k ≤ n ∧ i = .int .i64 k ∧ Hid (∀ i (hi : i < l.length), i < k → ks.contains l[i].kind = false) ∧ Below w.heap.size w wr) (fun _ i _ => n - (intOf i).toNat)
    case atStart => exact ⟨0, Nat.zero_le _, rfl, Lib.hid (fun i hi h => absurd h (Nat.not_lt_zero _)), Below.refl _ _⟩
    case round =>
      obtain ⟨k, hk, rfl, HP, hbr⟩ := hrel
      have hzr := hbr.size
      by_cases hlt : k < n
      · have hkl : k < l.length := by rw [← HN.out]; exact hlt
        obtain ⟨c0, c1⟩ := HH.out k hkl
        replace c0 := (hbr.cell (p := ⟨b1, o + k * 2, none⟩) hbw).trans c0
        replace c1 := (hbr.cell (p := ⟨b1, o + k * 2 + 1, none⟩) hbw).trans c1
        have hcl := HC.out l[k] wr hbr
        unfold itV at hcl
        obtain ⟨q, hq⟩ : ∃ q, q = l[k].kind := ⟨_, rfl⟩
        obtain ⟨t, ht⟩ : ∃ t, t = l[k].text := ⟨_, rfl⟩
        rw [← hq, ← ht] at hcl
        rw [← hq] at c0
        rw [← ht] at c1
        have i1 : (k : Int) < (n : Int) := by omega
        cases hit : ks.contains q with
        | true =>
          rw [hit] at hcl
          have hrk : .int .i64 (k : Int) = Value.int .i64 r := by
            rw [HR.out]; unfold cutI
            rw [cutAt_of ks l k hkl (fun i hi h => HP.out i hi h) (by rw [← hq]; exact hit), if_pos hkl]
          have HK := Lib.hid hrk; have HCL := Lib.hid hcl
          clear hq ht hit hrk hcl
          go_wp2_with (go_at_call 60; (with_reducible refine (HCL.out).mono ?_); rintro e w1 ⟨rfl, hb_w1⟩; have hB_w1 : Below (wr).heap.size (wr) w1 := Below.trans (by (repeat (first | exact Below.refl _ _ | assumption | refine Below.setCell ?_ (by first | omega | (simp <;> omega)) _ | refine Below.alloc ?_ (by first | omega | (simp <;> omega)) _ | refine Below.drew ?_ | refine below_drewN' ?_ _))) (hb_w1.mono (by first | omega | (simp <;> omega))); obtain ⟨hc_w1, hf_w1⟩ := bcell hb_w1; have hz_w1 := hb_w1.size; (try simp only [size_drew', size_drewN', World.size_alloc, World.size_setCell] at hz_w1))
          go_ret
          exact RetB.of HK.out (hbr.trans (hb_w1.mono (by omega)))
        | false =>
          rw [hit] at hcl
          have hnx : Hid (∀ i (hi : i < l.length), i < k + 1 → ks.contains l[i].kind = false) := Lib.hid fun i hi h => by
            by_cases e : i = k
            · subst e; rw [← hq]; exact hit
            · exact HP.out i hi (by omega)
          have HCL := Lib.hid hcl
          clear hq ht hit hcl
          go_wp2_with (go_at_call 60; (with_reducible refine (HCL.out).mono ?_); rintro e w1 ⟨rfl, hb_w1⟩; have hB_w1 : Below (wr).heap.size (wr) w1 := Below.trans (by (repeat (first | exact Below.refl _ _ | assumption | refine Below.setCell ?_ (by first | omega | (simp <;> omega)) _ | refine Below.alloc ?_ (by first | omega | (simp <;> omega)) _ | refine Below.drew ?_ | refine below_drewN' ?_ _))) (hb_w1.mono (by first | omega | (simp <;> omega))); obtain ⟨hc_w1, hf_w1⟩ := bcell hb_w1; have hz_w1 := hb_w1.size; (try simp only [size_drew', size_drewN', World.size_alloc, World.size_setCell] at hz_w1))
          go_roundw
          case rel => exact ⟨k + 1, by omega, by go_num, hnx, hbr.trans (hb_w1.mono (by omega))⟩
          case measure => simp [intOf]; omega
      · have hkk : k = n := by omega
        have hrk : .int .i64 (-1) = Value.int .i64 r := by
          rw [HR.out]; unfold cutI
          rw [cutAt_none ks l (fun i hi => HP.out i hi (by rw [hkk, HN.out]; exact hi)), if_neg (Nat.lt_irrefl _)]
        have HK := Lib.hid hrk; clear hrk
        go_wp2
        go_ret
        exact RetB.of HK.out hbr
  · have e1 : l = [] := List.length_eq_zero_iff.1 (by omega)
    subst e1
    obtain ⟨a, c, rfl, _⟩ := h.form
    obtain rfl : r = -1 := hr
    clear h h0 hp hk hpl hbl
    simp only [List.length_nil]
    go_enter Tryd.func59, Tryd.ntmps59
    go_wp2_with fail
    go_loopw [5, 8] (fun _ i wr => i = .int .i64 0 ∧ Below w.heap.size w wr) (fun _ i _ => 0)
    case atStart => exact ⟨rfl, Below.refl _ _⟩
    case round =>
      obtain ⟨rfl, hbw⟩ := hrel
      go_wp2
      go_ret
      exact RetB.of rfl hbw
end Go.Proofs.YticodcecillciaaDoor

/- Patterns in the program: items are cut; a section's head. -/
namespace Go.Proofs.YticodcecillciaaDoor
set_option linter.all false
open Go.RowKit

theorem sliced_head {w : World} {B : Nat} {a : Option Addr} {n c k : Nat} {l : List Pa.It} (h : ItsAt w B (.slice a n c) l) (hk : k ≤ l.length) : ItsAt w B (sliced a 0 k c 2) (l.take k) := by
  have : sliced a 0 k c 2 = .slice a k c := by
    unfold sliced
    rw [Nat.zero_mul, Nat.sub_zero, Nat.sub_zero]
    congr 1
    split
    · rfl
    · cases a with
      | none => rfl
      | some x =>
        show some (x.add 0) = _
        congr 1
  rw [this]
  exact h.take hk

theorem itemsU : Tryd.prog.underlying 30 = some (.slice (Tryd.prog.elem 30)) := by kernel_rfl
theorem itemsZ (W : World) : (Go.sizeOf (Tryd.prog.elem 30)).run Tryd.prog W = .ok 2 W := by kernel_rfl

def CutR (w : World) (B : Nat) (l : List Pa.It) (k : Nat) (e : Ending) (w' : World) : Prop :=
  ∃ v1 v2, e = .returned (.tuple #[v1, v2]) ∧ ItsAt w' B v1 (l.take k) ∧ ItsAt w' B v2 (l.drop k) ∧ Below w.heap.size w w'

set_option maxRecDepth 100000 in
set_option maxHeartbeats 2000000 in
theorem pa_cut_any (v : Value) (l : List Pa.It) (B b c : Nat) (ks : List Int) (w : World) (h : ItsAt w B v l) (hB : B ≤ w.heap.size) (hl : l.length ≤ 1000000) (hks : ks.length ≤ 100)
    (hbl : b < w.heap.size) (hk : ∀ j, j < ks.length → w.cell? ⟨b, j, none⟩ = some (.int .i64 (ks.getD j 0))) :
    Calls Tryd.prog 39 #[v, .slice (some ⟨b, 0, none⟩) ks.length c] w (CutR w B l (Pa.cutAt ks l)) := by
  obtain ⟨a, c1, rfl, hc1⟩ := h.form
  obtain ⟨n, hn⟩ : ∃ n, n = l.length := ⟨_, rfl⟩
  have hle := cutAt_le ks l
  obtain ⟨k, hkk⟩ : ∃ k, k = Pa.cutAt ks l := ⟨_, rfl⟩
  have hcall : ∀ (W : World), Below w.heap.size w W → w.heap.size < W.heap.size → W.cell? ⟨w.heap.size, 0, none⟩ = some (.slice (some ⟨b, 0, none⟩) ks.length c) →
      Calls Tryd.prog 59 #[.slice a l.length c1, .func (.func 60) #[] #[.pointer (some ⟨w.heap.size, 0, none⟩)]] W (RetB (.int .i64 (cutI ks l)) W) := fun W hW h1 h2 =>
    indexItems_any _ l B w.heap.size b c ks W (h.below hW hB) (Nat.le_trans hB hW.size) hl hks h2 h1 (Nat.lt_of_lt_of_le hbl hW.size) (fun j hj => (hW.cell (p := ⟨b, j, none⟩) hbl).trans (hk j hj))
  have h1 := fun w' (hb : Below w.heap.size w w') => sliced_head (k := Pa.cutAt ks l) (h.below hb hB) hle
  have h2 := fun w' (hb : Below w.heap.size w w') => (h.below hb hB).drop (k := Pa.cutAt ks l) hle
  have hI : cutI ks l = if k < n then (k : Int) else -1 := by rw [hkk, hn]; rfl
  rw [hI] at hcall
  rw [← hkk] at hle h1 h2 ⊢
  rw [← hn] at hle hcall h2 hl hc1 ⊢
  obtain ⟨m, hm⟩ : ∃ m, m = ks.length := ⟨_, rfl⟩
  rw [← hm] at hcall ⊢
  have hs1 : ∀ W : World, (Instr.slice 30 (.slice a n c1) none (some (.int .i64 (k : Int))) none).run Tryd.prog W = .ok (sliced a 0 k c1 2) W := fun W => by
    rw [run_slice_h _ _ _ _ _ itemsU _ _ (by omega) (by omega), itemsZ]; rfl
  have hs2 : ∀ W : World, (Instr.slice 30 (.slice a n c1) (some (.int .i64 (k : Int))) none none).run Tryd.prog W = .ok (sliced a k n c1 2) W := fun W => by
    rw [run_slice_l _ _ _ _ _ itemsU _ _ (by omega) (by omega), itemsZ]; rfl
  obtain ⟨v1, hv1⟩ : ∃ v1, v1 = sliced a 0 k c1 2 := ⟨_, rfl⟩
  obtain ⟨v2, hv2⟩ : ∃ v2, v2 = sliced a k n c1 2 := ⟨_, rfl⟩
  rw [← hv1] at h1 hs1
  rw [← hv2] at h2 hs2
  have HC := Lib.hid hcall; have H1 := Lib.hid h1; have H2 := Lib.hid h2
  clear hcall h1 h2 hI hkk hn hm h hk hv1 hv2
  by_cases hkn : k < n
  · have hC := HC.out
    rw [if_pos hkn] at hC
    have HK := Lib.hid hC; clear HC hC
    have i1 : decide ((k : Int) < 0) = false := decide_eq_false (by omega)
    go_enter Tryd.func39, Tryd.ntmps39
    go_wp2_with (go_at_call 59; (with_reducible refine (HK.out _ (by (repeat (first | exact Below.refl _ _ | assumption | refine Below.setCell ?_ (by first | omega | (simp <;> omega)) _ | refine Below.alloc ?_ (by first | omega | (simp <;> omega)) _ | refine Below.drew ?_ | refine below_drewN' ?_ _))) (by simp) (by simp [go_sem])).mono ?_); rintro e w1 ⟨rfl, hb_w1⟩; have hB_w1 : Below (w).heap.size (w) w1 := Below.trans (by (repeat (first | exact Below.refl _ _ | assumption | refine Below.setCell ?_ (by first | omega | (simp <;> omega)) _ | refine Below.alloc ?_ (by first | omega | (simp <;> omega)) _ | refine Below.drew ?_ | refine below_drewN' ?_ _))) (hb_w1.mono (by first | omega | (simp <;> omega))); obtain ⟨hc_w1, hf_w1⟩ := bcell hb_w1; have hz_w1 := hb_w1.size; (try simp only [size_drew', size_drewN', World.size_alloc, World.size_setCell] at hz_w1); have hl0_w1 : w.heap.size < w1.heap.size := (by omega); have hm0_w1 : w.heap.size ≤ w1.heap.size := (by omega); have hn0_w1 : ¬ w.heap.size = w1.heap.size := (by omega); have hq0_w1 : ¬ w1.heap.size = w.heap.size := (by omega); have hr0_w1 := fun o => hc_w1 (w.heap.size) o (by (try simp only [size_drew', size_drewN', World.size_alloc, World.size_setCell]); omega); have hg0_w1 := fun o => hf_w1 (w.heap.size) o (by (try simp only [size_drew', size_drewN', World.size_alloc, World.size_setCell]); omega))
    go_quiet (fail)
    go_wp2
    refine bodyPost_ret (v := .tuple #[v1, v2]) (by (simp [results, Tryd.results39, go_sem]; done)) rfl ?_
    exact ⟨v1, v2, rfl, H1.out _ (by (repeat (first | exact Below.refl _ _ | assumption | refine Below.setCell ?_ (by first | omega | (simp <;> omega)) _ | refine Below.alloc ?_ (by first | omega | (simp <;> omega)) _ | refine Below.drew ?_ | refine below_drewN' ?_ _))), H2.out _ (by (repeat (first | exact Below.refl _ _ | assumption | refine Below.setCell ?_ (by first | omega | (simp <;> omega)) _ | refine Below.alloc ?_ (by first | omega | (simp <;> omega)) _ | refine Below.drew ?_ | refine below_drewN' ?_ _))), by (repeat (first | exact Below.refl _ _ | assumption | refine Below.setCell ?_ (by first | omega | (simp <;> omega)) _ | refine Below.alloc ?_ (by first | omega | (simp <;> omega)) _ | refine Below.drew ?_ | refine below_drewN' ?_ _))⟩
  · obtain rfl : k = n := by omega
    have hC := HC.out
    rw [if_neg hkn] at hC
    have HK := Lib.hid hC; clear HC hC
    go_enter Tryd.func39, Tryd.ntmps39
    go_wp2_with (go_at_call 59; (with_reducible refine (HK.out _ (by (repeat (first | exact Below.refl _ _ | assumption | refine Below.setCell ?_ (by first | omega | (simp <;> omega)) _ | refine Below.alloc ?_ (by first | omega | (simp <;> omega)) _ | refine Below.drew ?_ | refine below_drewN' ?_ _))) (by simp) (by simp [go_sem])).mono ?_); rintro e w1 ⟨rfl, hb_w1⟩; have hB_w1 : Below (w).heap.size (w) w1 := Below.trans (by (repeat (first | exact Below.refl _ _ | assumption | refine Below.setCell ?_ (by first | omega | (simp <;> omega)) _ | refine Below.alloc ?_ (by first | omega | (simp <;> omega)) _ | refine Below.drew ?_ | refine below_drewN' ?_ _))) (hb_w1.mono (by first | omega | (simp <;> omega))); obtain ⟨hc_w1, hf_w1⟩ := bcell hb_w1; have hz_w1 := hb_w1.size; (try simp only [size_drew', size_drewN', World.size_alloc, World.size_setCell] at hz_w1); have hl0_w1 : w.heap.size < w1.heap.size := (by omega); have hm0_w1 : w.heap.size ≤ w1.heap.size := (by omega); have hn0_w1 : ¬ w.heap.size = w1.heap.size := (by omega); have hq0_w1 : ¬ w1.heap.size = w.heap.size := (by omega); have hr0_w1 := fun o => hc_w1 (w.heap.size) o (by (try simp only [size_drew', size_drewN', World.size_alloc, World.size_setCell]); omega); have hg0_w1 := fun o => hf_w1 (w.heap.size) o (by (try simp only [size_drew', size_drewN', World.size_alloc, World.size_setCell]); omega))
    go_quiet (fail)
    go_wp2
    refine bodyPost_ret (v := .tuple #[v1, v2]) (by (simp [results, Tryd.results39, go_sem]; done)) rfl ?_
    exact ⟨v1, v2, rfl, H1.out _ (by (repeat (first | exact Below.refl _ _ | assumption | refine Below.setCell ?_ (by first | omega | (simp <;> omega)) _ | refine Below.alloc ?_ (by first | omega | (simp <;> omega)) _ | refine Below.drew ?_ | refine below_drewN' ?_ _))), H2.out _ (by (repeat (first | exact Below.refl _ _ | assumption | refine Below.setCell ?_ (by first | omega | (simp <;> omega)) _ | refine Below.alloc ?_ (by first | omega | (simp <;> omega)) _ | refine Below.drew ?_ | refine below_drewN' ?_ _))), by (repeat (first | exact Below.refl _ _ | assumption | refine Below.setCell ?_ (by first | omega | (simp <;> omega)) _ | refine Below.alloc ?_ (by first | omega | (simp <;> omega)) _ | refine Below.drew ?_ | refine below_drewN' ?_ _))⟩

/-- A section's head: what stands ahead of the point, the exponent, the stroke. -/
def HeadR (w : World) (B : Nat) (l : List Pa.It) (e : Ending) (w' : World) : Prop :=
  ∃ v1, e = .returned v1 ∧ ItsAt w' B v1 (l.take (Pa.headN l)) ∧ Below w.heap.size w w'

set_option maxRecDepth 100000 in
set_option maxHeartbeats 2000000 in
theorem pa_head_any (vi : Value) (s : Pa.Sec) (B : Nat) (w : World) (h : ItsAt w B vi s.items) (hB : B ≤ w.heap.size) (hl : s.items.length ≤ 1000000) :
    Calls Tryd.prog 23 #[secV vi s] w (HeadR w B s.items) := by
  obtain ⟨l, g, sc⟩ := s
  unfold secV
  show Calls _ _ _ _ (HeadR w B l)
  have hcall : ∀ (W : World) (b c : Nat), Below w.heap.size w W → b < W.heap.size → (W.cell? ⟨b, 0, none⟩ = some (.int .i64 3) ∧ W.cell? ⟨b, 1, none⟩ = some (.int .i64 5) ∧ W.cell? ⟨b, 2, none⟩ = some (.int .i64 6)) →
      Calls Tryd.prog 39 #[vi, .slice (some ⟨b, 0, none⟩) 3 c] W (CutR W B l (Pa.headN l)) := fun W b c hW hb hc =>
    pa_cut_any vi l B b c [3, 5, 6] W (h.below hW hB) (Nat.le_trans hB hW.size) hl (by simp) hb (fun j hj => by
      match j, hj with
      | 0, _ => exact hc.1
      | 1, _ => exact hc.2.1
      | 2, _ => exact hc.2.2)
  have HC := Lib.hid hcall
  clear hcall h hl
  go_enter Tryd.func23, Tryd.ntmps23
  go_wp2_with (go_at_call 39; (with_reducible refine (HC.out _ _ _ (by (repeat (first | exact Below.refl _ _ | assumption | refine Below.setCell ?_ (by first | omega | (simp <;> omega)) _ | refine Below.alloc ?_ (by first | omega | (simp <;> omega)) _ | refine Below.drew ?_ | refine below_drewN' ?_ _))) (by simp) ⟨(by simp [go_sem]), (by simp [go_sem]), (by simp [go_sem])⟩).mono ?_); rintro e w1 ⟨v1, v2, rfl, h1, h2, hb_w1⟩; have hB_w1 : Below (w).heap.size (w) w1 := Below.trans (by (repeat (first | exact Below.refl _ _ | assumption | refine Below.setCell ?_ (by first | omega | (simp <;> omega)) _ | refine Below.alloc ?_ (by first | omega | (simp <;> omega)) _ | refine Below.drew ?_ | refine below_drewN' ?_ _))) (hb_w1.mono (by first | omega | (simp <;> omega))); obtain ⟨hc_w1, hf_w1⟩ := bcell hb_w1; have hz_w1 := hb_w1.size; (try simp only [size_drew', size_drewN', World.size_alloc, World.size_setCell] at hz_w1); (have H1 := Lib.hid h1); clear h1 h2)
  go_ret
  exact ⟨v1, rfl, H1.out, by (repeat (first | exact Below.refl _ _ | assumption | refine Below.setCell ?_ (by first | omega | (simp <;> omega)) _ | refine Below.alloc ?_ (by first | omega | (simp <;> omega)) _ | refine Below.drew ?_ | refine below_drewN' ?_ _))⟩
end Go.Proofs.YticodcecillciaaDoor

/- Patterns in the program: the first two whole digits side by side. -/
namespace Go.Proofs.YticodcecillciaaDoor
set_option linter.all false
open Go.RowKit

theorem find_range {p : Nat → Bool} {n k : Nat} (hk : k < n) (hp : p k = true) (h : ∀ i, i < k → p i = false) : (List.range n).find? p = some k := by
  rw [List.find?_eq_some_iff_append]
  refine ⟨hp, List.range k, (List.range (n - k - 1)).map (fun i => i + (k + 1)), ?_, fun a ha => by simp [h a (List.mem_range.1 ha)]⟩
  have e : n = k + 1 + (n - k - 1) := by omega
  conv => lhs; rw [e]
  rw [List.range_add, List.range_succ, List.append_assoc]
  congr 1
  rw [List.singleton_append]
  congr 1
  apply List.map_congr_left
  intro a _
  omega
theorem find_range_none {p : Nat → Bool} {n : Nat} (h : ∀ i, i < n → p i = false) : (List.range n).find? p = none := by
  rw [List.find?_eq_none]
  intro x hx
  simp [h x (List.mem_range.1 hx)]
theorem pair_hit {l : List Pa.It} {k : Nat} (h : Pa.twoAt l k = true) (hn : ∀ i, i < k → Pa.twoAt l i = false) : Pa.pair l = k := by
  have hl : k < l.length := by
    unfold Pa.twoAt at h
    rw [Bool.and_eq_true, decide_eq_true_iff] at h
    have := cutAt_le [3, 5, 6] l
    have := h.1
    unfold Pa.headN at this
    omega
  unfold Pa.pair
  rw [find_range hl h hn]
theorem pair_none {l : List Pa.It} (hn : ∀ i, i + 1 < Pa.headN l → Pa.twoAt l i = false) : Pa.pair l = -1 := by
  unfold Pa.pair
  rw [find_range_none]
  intro i _
  by_cases h : i + 1 < Pa.headN l
  · exact hn i h
  · unfold Pa.twoAt; rw [decide_eq_false h]; rfl

theorem ItsAt.taken {w : World} {B n : Nat} {v : Value} {l : List Pa.It} (h : ItsAt w B v (l.take n)) (hn : n ≤ l.length) : ∃ a c, v = .slice a n c ∧ n ≤ c ∧ (0 < n → ∃ b o, a = some ⟨b, o, none⟩ ∧ b < B ∧
    ∀ k (h : k < n), w.cell? ⟨b, o + k * 2, none⟩ = some (.int .i64 (l[k]'(Nat.lt_of_lt_of_le h hn)).kind) ∧ w.cell? ⟨b, o + k * 2 + 1, none⟩ = some (.string (l[k]'(Nat.lt_of_lt_of_le h hn)).text)) := by
  obtain ⟨a, c, e, hc, hh⟩ := h
  have hlen : (l.take n).length = n := by rw [List.length_take]; omega
  refine ⟨a, c, by rw [e, hlen], by omega, fun h0 => ?_⟩
  obtain ⟨b, o, e2, hb, hk⟩ := hh (by omega)
  refine ⟨b, o, e2, hb, fun k hkn => ?_⟩
  have := hk k (by omega)
  rwa [List.getElem_take] at this

set_option maxRecDepth 100000 in
set_option maxHeartbeats 2000000 in
theorem pa_pair_any (vi : Value) (s : Pa.Sec) (B : Nat) (w : World) (h : ItsAt w B vi s.items) (hB : B ≤ w.heap.size) (hl : s.items.length ≤ 1000000) :
    Calls Tryd.prog 24 #[secV vi s] w (RetB (.int .i64 (Pa.pair s.items)) w) := by
  have hcall : ∀ (W : World), Below w.heap.size w W → Calls Tryd.prog 23 #[secV vi s] W (HeadR W B s.items) := fun W hW => pa_head_any vi s B W (h.below hW hB) (Nat.le_trans hB hW.size) hl
  obtain ⟨l, g, sc⟩ := s
  unfold secV at hcall ⊢
  replace hcall : ∀ (W : World), Below w.heap.size w W → Calls Tryd.prog 23 #[.agg #[vi, .bool g, .int .i64 sc]] W (HeadR W B l) := hcall
  replace hl : l.length ≤ 1000000 := hl
  show Calls _ _ #[.agg #[vi, .bool g, .int .i64 sc]] _ (RetB (.int .i64 (Pa.pair l)) w)
  obtain ⟨r, hr⟩ : ∃ r, r = Pa.pair l := ⟨_, rfl⟩
  rw [← hr]
  have HC := Lib.hid hcall; have HR := Lib.hid hr
  clear hcall hr h
  have hhl := cutAt_le [3, 5, 6] l
  obtain ⟨n, hn⟩ : ∃ n, n = Pa.headN l := ⟨_, rfl⟩
  replace hhl : n ≤ l.length := by rw [hn]; exact hhl
  unfold HeadR at HC
  rw [← hn] at HC
  have HN := Lib.hid hn; clear hn
  go_enter Tryd.func24, Tryd.ntmps24
  go_wp2_with (go_at_call 23; (with_reducible refine (HC.out _ (by (repeat (first | exact Below.refl _ _ | assumption | refine Below.setCell ?_ (by first | omega | (simp <;> omega)) _ | refine Below.alloc ?_ (by first | omega | (simp <;> omega)) _ | refine Below.drew ?_ | refine below_drewN' ?_ _)))).mono ?_); rintro e w1 ⟨v1, rfl, h1, hb_w1⟩; have hB_w1 : Below (w).heap.size (w) w1 := Below.trans (by (repeat (first | exact Below.refl _ _ | assumption | refine Below.setCell ?_ (by first | omega | (simp <;> omega)) _ | refine Below.alloc ?_ (by first | omega | (simp <;> omega)) _ | refine Below.drew ?_ | refine below_drewN' ?_ _))) (hb_w1.mono (by first | omega | (simp <;> omega))); obtain ⟨hc_w1, hf_w1⟩ := bcell hb_w1; have hz_w1 := hb_w1.size; (try simp only [size_drew', size_drewN', World.size_alloc, World.size_setCell] at hz_w1); (have H1 := Lib.hid h1); clear h1)
  obtain ⟨a, c, rfl, hc, hh⟩ := H1.out.taken hhl
  clear H1
  have hbB : ∀ b, b < B → b < w1.heap.size := fun b hb => by have := hB_w1.size; omega
  have HH := Lib.hid hh
  clear hh
  go_loopw [4] (fun i wr => ∃ k : Nat, i = .int .i64 ((k : Int) + 1) ∧ (k < n ∨ k = 0) ∧ Hid (∀ i, i < k → Pa.twoAt l i = false) ∧ Below w1.heap.size w1 wr) (fun i _ => n + 1 - (intOf i).toNat)
  case atStart => exact ⟨0, rfl, .inr rfl, Lib.hid (fun i h => absurd h (Nat.not_lt_zero _)), Below.refl _ _⟩
  case round =>
    obtain ⟨k, rfl, hk, HP, hbr⟩ := hrel
    have hzr := hbr.size
    have hbw2 : Below w.heap.size w wr := hB_w1.trans (hbr.mono hB_w1.size)
    by_cases hlt : k + 1 < n
    · obtain ⟨b, o, rfl, hb, hcl⟩ := HH.out (by omega)
      have d0 := hcl k (by omega)
      have d1 := hcl (k + 1) (by omega)
      have hbw := hbB b hb
      have e0 := (hbr.cell (p := ⟨b, o + k * 2, none⟩) hbw).trans d0.1
      have e1 := (hbr.cell (p := ⟨b, o + (k + 1) * 2, none⟩) hbw).trans d1.1
      have hT : Pa.twoAt l k = (decide (l[k].kind = 2) && decide (l[k + 1].kind = 2)) := by
        unfold Pa.twoAt
        rw [decide_eq_true (show k + 1 < Pa.headN l by rw [← HN.out]; exact hlt), Bool.true_and, getElem!_pos l k (by omega), getElem!_pos l (k + 1) (by omega)]
      obtain ⟨p, hp⟩ : ∃ p, p = l[k].kind := ⟨_, rfl⟩
      obtain ⟨q, hq⟩ : ∃ q, q = l[k + 1].kind := ⟨_, rfl⟩
      rw [← hp] at e0 hT
      rw [← hq] at e1 hT
      clear hp hq d0 d1 hcl hk
      have i1 : (k : Int) + 1 < (n : Int) := by omega
      have i2 : (n : Int) ≤ 1000000 := by omega
      have i3 : (0 : Int) ≤ (k : Int) := by omega
      have HT := Lib.hid hT; clear hT
      by_cases hpq : p = 2 ∧ q = 2
      · obtain ⟨rfl, rfl⟩ := hpq
        have hrk : .int .i64 (k : Int) = Value.int .i64 r := by
          rw [HR.out, pair_hit (by rw [HT.out]; rfl) HP.out]
        have HK := Lib.hid hrk; clear hrk
        go_wp2_with fail
        go_ret
        exact RetB.of HK.out (by (repeat (first | exact Below.refl _ _ | assumption | refine Below.setCell ?_ (by first | omega | (simp <;> omega)) _ | refine Below.alloc ?_ (by first | omega | (simp <;> omega)) _ | refine Below.drew ?_ | refine below_drewN' ?_ _)))
      · have hF : Pa.twoAt l k = false := by
          rw [HT.out, Bool.and_eq_false_iff, decide_eq_false_iff_not, decide_eq_false_iff_not]; omega
        have hnx : Hid (∀ i, i < k + 1 → Pa.twoAt l i = false) := Lib.hid fun i hi => by
          by_cases e : i = k
          · subst e; exact hF
          · exact HP.out i (by omega)
        clear hF
        by_cases hp : p = 2
        · subst hp
          have hq : (q == 2) = false := beq_eq_false_iff_ne.2 (fun e => hpq ⟨rfl, e⟩)
          clear hpq
          go_wp2_with fail
          go_roundw
          case rel => exact ⟨k + 1, by go_num, by omega, hnx, by (repeat (first | exact Below.refl _ _ | assumption | refine Below.setCell ?_ (by first | omega | (simp <;> omega)) _ | refine Below.alloc ?_ (by first | omega | (simp <;> omega)) _ | refine Below.drew ?_ | refine below_drewN' ?_ _))⟩
          case measure => simp [intOf]; omega
        · have hp' : (p == 2) = false := beq_eq_false_iff_ne.2 hp
          clear hpq hp
          go_wp2_with fail
          go_roundw
          case rel => exact ⟨k + 1, by go_num, by omega, hnx, by (repeat (first | exact Below.refl _ _ | assumption | refine Below.setCell ?_ (by first | omega | (simp <;> omega)) _ | refine Below.alloc ?_ (by first | omega | (simp <;> omega)) _ | refine Below.drew ?_ | refine below_drewN' ?_ _))⟩
          case measure => simp [intOf]; omega
    · have hrk : .int .i64 (-1) = Value.int .i64 r := by
        rw [HR.out, pair_none (fun i hi => HP.out i (by have := HN.out; omega))]
      have HK := Lib.hid hrk
      have i1 : ¬ (k : Int) + 1 < (n : Int) := by omega
      clear hrk hk
      go_wp2_with fail
      go_ret
      exact RetB.of HK.out (by (repeat (first | exact Below.refl _ _ | assumption | refine Below.setCell ?_ (by first | omega | (simp <;> omega)) _ | refine Below.alloc ?_ (by first | omega | (simp <;> omega)) _ | refine Below.drew ?_ | refine below_drewN' ?_ _)))
end Go.Proofs.YticodcecillciaaDoor

/- A block whose cells are known from the first one on. -/
namespace Go.Proofs.YticodcecillciaaDoor
set_option linter.all false
open Go.RowKit

def Cs (w : World) (b : Nat) (vs : List Value) : Prop := b < w.heap.size ∧ ∀ k (h : k < vs.length), w.cell? ⟨b, k, none⟩ = some vs[k]
theorem Cs.get {w : World} {b : Nat} {vs : List Value} (h : Cs w b vs) (k : Nat) {v : Value} (hk : vs[k]? = some v) : w.cell? ⟨b, k, none⟩ = some v := by
  obtain ⟨h1, h2⟩ := List.getElem?_eq_some_iff.1 hk
  rw [h.2 k h1, h2]
theorem Cs.new (w : World) (vs : List Value) (t : TypeId) : Cs (w.alloc (.cells vs.toArray t)) w.heap.size vs :=
  ⟨by simp, fun k h => by
    simp only [World.cell?, World.alloc]
    simp [List.getElem?_eq_getElem h]⟩
theorem Cs.on {w w1 : World} {b : Nat} {vs : List Value} (h : Cs w b vs) (hb : Below w.heap.size w w1) : Cs w1 b vs :=
  ⟨Nat.lt_of_lt_of_le h.1 hb.size, fun k hk => (hb.cell (p := ⟨b, k, none⟩) h.1).trans (h.2 k hk)⟩
theorem Cs.alloc {w : World} {b : Nat} {vs : List Value} (h : Cs w b vs) (o : Obj) : Cs (w.alloc o) b vs := h.on ((Below.refl _ _).alloc (Nat.le_refl _) o)
theorem cell_drew1 (W : World) (a : Addr) : W.drew.cell? a = W.cell? a := rfl
theorem size_setCells (b : Nat) : ∀ (vs : List Value) (o : Nat) (w : World), (w.setCells b o vs).heap.size = w.heap.size
  | [], _, _ => rfl
  | v :: r, o, w => by rw [World.setCells, size_setCells b r]; exact World.size_setCell _ _ _
theorem below_setCells {B b : Nat} {w : World} (hb : B ≤ b) : ∀ (vs : List Value) (o : Nat) {W : World}, Below B w W → Below B w (W.setCells b o vs)
  | [], _, _, h => h
  | v :: r, o, W, h => below_setCells hb r (o + 1) (h.setCell (p := ⟨b, o, none⟩) hb v)
theorem cell_alloc_old {w : World} {o : Obj} {b k : Nat} (h : b < w.heap.size) : (w.alloc o).cell? ⟨b, k, none⟩ = w.cell? ⟨b, k, none⟩ := ((Below.refl _ w).alloc (Nat.le_refl _) o).cell (p := ⟨b, k, none⟩) h
theorem frozen_alloc_old {w : World} {o : Obj} {b k : Nat} (h : b < w.heap.size) : (w.alloc o).frozen? ⟨b, k, none⟩ = w.frozen? ⟨b, k, none⟩ := ((Below.refl _ w).alloc (Nat.le_refl _) o).frozen (p := ⟨b, k, none⟩) h
/-- A row stored into a known block is known. -/
theorem Cs.stored {w : World} {b : Nat} {vs : List Value} (us : List Value) (h : Cs w b vs) (hl : us.length = vs.length) : Cs (w.setCells b 0 us) b us :=
  ⟨by rw [size_setCells]; exact h.1, fun k hk => by
    have := World.cell?_setCells_in b us 0 w (fun j hj => by rw [Nat.zero_add, h.2 j (by omega)]; rfl) k hk
    rwa [Nat.zero_add] at this⟩
theorem Cs.other {w : World} {b b' : Nat} {vs : List Value} (us : List Value) (h : Cs w b vs) (hne : b ≠ b') : Cs (w.setCells b' 0 us) b vs :=
  ⟨by rw [size_setCells]; exact h.1, fun k hk => by
    rw [World.cell?_setCells_out _ _ _ _ _ (fun e => absurd e hne)]; exact h.2 k hk⟩
theorem Cs.drew {w : World} {b : Nat} {vs : List Value} (h : Cs w b vs) : Cs w.drew b vs := h
end Go.Proofs.YticodcecillciaaDoor

/- A block of the call's own, whole: what it holds, what a store and a call make of it. -/
namespace Go.Proofs.YticodcecillciaaDoor
set_option linter.all false
open Go.RowKit

def Mem (w : World) (b : Nat) (vs : List Value) (t : TypeId) : Prop := w.heap[b]? = some (.cells vs.toArray t (0, 0))
theorem Mem.lt {w : World} {b : Nat} {vs : List Value} {t : TypeId} (h : Mem w b vs t) : b < w.heap.size := (Array.getElem?_eq_some_iff.1 h).1
theorem Mem.get {w : World} {b : Nat} {vs : List Value} {t : TypeId} (h : Mem w b vs t) (k : Nat) {v : Value} (hk : vs[k]? = some v) : w.cell? ⟨b, k, none⟩ = some v := by
  unfold World.cell?
  simp only []
  rw [show w.heap[b]? = _ from h]
  show vs.toArray[k]? = _
  rw [List.getElem?_toArray, hk]
theorem Mem.frozen {w : World} {b : Nat} {vs : List Value} {t : TypeId} (h : Mem w b vs t) (o : Nat) : w.frozen? ⟨b, o, none⟩ = false := by
  unfold World.frozen?
  simp only []
  rw [show w.heap[b]? = _ from h]
  simp
theorem Mem.below {w w' : World} {b B : Nat} {vs : List Value} {t : TypeId} (h : Mem w b vs t) (hb : Below B w w') (hB : b < B) : Mem w' b vs t := (hb.block b hB).trans h
theorem Mem.on {w w' : World} {b : Nat} {vs : List Value} {t : TypeId} (h : Mem w b vs t) (hb : Below w.heap.size w w') : Mem w' b vs t := h.below hb h.lt
theorem Mem.new (w : World) (vs : List Value) (t : TypeId) : Mem (w.alloc (.cells vs.toArray t)) w.heap.size vs t := heap_alloc_new w _
theorem Mem.alloc {w : World} {b : Nat} {vs : List Value} {t : TypeId} (h : Mem w b vs t) (o : Obj) : Mem (w.alloc o) b vs t := h.on ((Below.refl _ _).alloc (Nat.le_refl _) o)
theorem Mem.drew {w : World} {b : Nat} {vs : List Value} {t : TypeId} (h : Mem w b vs t) : Mem w.drew b vs t := h
theorem Mem.set {w : World} {b : Nat} {vs : List Value} {t : TypeId} (h : Mem w b vs t) (i : Nat) (v : Value) : Mem (w.setCell ⟨b, i, none⟩ v) b (vs.set i v) t := by
  have := heap_setCell_same w b i vs.toArray t v h
  unfold Mem
  rw [this]
  congr 2
  apply Array.ext'
  simp
theorem Mem.other {w : World} {b : Nat} {vs : List Value} {t : TypeId} (h : Mem w b vs t) {a : Addr} (hne : b ≠ a.block) (v : Value) : Mem (w.setCell a v) b vs t := (Below.heap_setCell w a v b hne).trans h
theorem Mem.grown {w w' : World} {b : Nat} {vs : List Value} {t : TypeId} {row : Option Nat} (h : Mem w b vs t) (hg : w.grownBy w' row) (hne : row ≠ some b) : Mem w' b vs t := (hg.block b h.lt (fun e => hne e.symm)).trans h
theorem Mem.setCells {w : World} {b : Nat} {vs us : List Value} {t : TypeId} (h : Mem w b vs t) (hl : us.length = vs.length) : Mem (w.setCells b 0 us) b us t := by
  have key : ∀ (us : List Value) (o : Nat) (w : World) (vs : List Value), Mem w b vs t → o + us.length ≤ vs.length → Mem (w.setCells b o us) b (vs.take o ++ us ++ vs.drop (o + us.length)) t := by
    intro us
    induction us with
    | nil => intro o w vs h _; show Mem w b _ t; simpa using h
    | cons u us ih =>
      intro o w vs h hl
      rw [List.length_cons] at hl
      have h1 := ih (o + 1) _ _ (h.set o u) (by rw [List.length_set]; omega)
      have e : (vs.set o u).take (o + 1) ++ us ++ (vs.set o u).drop (o + 1 + us.length) = vs.take o ++ u :: us ++ vs.drop (o + (u :: us).length) := by
        rw [List.drop_set_of_lt (by omega), List.take_succ_eq_append_getElem (by rw [List.length_set]; omega), List.take_set_of_le (Nat.le_refl _)]
        simp only [List.getElem_set_self, List.append_assoc, List.cons_append, List.nil_append, List.length_cons]
        rw [show o + 1 + us.length = o + (us.length + 1) by omega]
      rw [e] at h1
      exact h1
  have := key us 0 w vs h (by omega)
  rw [List.take_zero, List.nil_append, Nat.zero_add, hl, List.drop_length, List.append_nil] at this
  exact this
theorem Mem.cell_other {w : World} {a b : Addr} (hne : b.block ≠ a.block) (v : Value) : (w.setCell a v).cell? b = w.cell? b := World.cell?_of_block (a := b) (Below.heap_setCell w a v b.block hne)
end Go.Proofs.YticodcecillciaaDoor

/- Patterns in the program: a section's items of each kind are counted, if all are right. -/
namespace Go.Proofs.YticodcecillciaaDoor
set_option linter.all false
open Go.RowKit

/-- How many items of each kind are among the first ones. -/
def cv (l : List Pa.It) (k : Nat) : List Value := (List.range 10).map fun (i : Nat) => Value.int .i64 (Pa.cnt (i : Int) (l.take k) : Nat)
theorem cv_len (l : List Pa.It) (k : Nat) : (cv l k).length = 10 := by simp [cv]
theorem cv_get (l : List Pa.It) (k i : Nat) (h : i < 10) : (cv l k)[i]? = some (.int .i64 (Pa.cnt (i : Int) (l.take k) : Nat)) := by
  unfold cv
  rw [List.getElem?_map, List.getElem?_range h]; rfl
theorem cv_zero (l : List Pa.It) : cv l 0 = [.int .i64 0, .int .i64 0, .int .i64 0, .int .i64 0, .int .i64 0, .int .i64 0, .int .i64 0, .int .i64 0, .int .i64 0, .int .i64 0] := rfl
theorem cv_next (l : List Pa.It) (k q : Nat) (h : k < l.length) (hq : l[k].kind = (q : Int)) (hq10 : q < 10) : (cv l k).set q (.int .i64 ((Pa.cnt (q : Int) (l.take k) : Nat) + 1)) = cv l (k + 1) := by
  apply List.ext_getElem?
  intro i
  rw [List.getElem?_set, cv_len]
  by_cases hi : i < 10
  · rw [cv_get l k i hi, cv_get l (k + 1) i hi, cnt_take _ _ _ h]
    by_cases e : q = i
    · subst e; rw [if_pos rfl, if_pos (by omega), if_pos hq]; rfl
    · rw [if_neg e, if_neg (by rw [hq]; omega)]; rfl
  · rw [if_neg (by omega), List.getElem?_eq_none (by rw [cv_len]; omega), List.getElem?_eq_none (by rw [cv_len]; omega)]
/-- The ten numbers as a value. -/
def cvA (l : List Pa.It) : Value := .agg #[.int .i64 (Pa.cnt 0 l : Nat), .int .i64 (Pa.cnt 1 l : Nat), .int .i64 (Pa.cnt 2 l : Nat), .int .i64 (Pa.cnt 3 l : Nat), .int .i64 (Pa.cnt 4 l : Nat), .int .i64 (Pa.cnt 5 l : Nat), .int .i64 (Pa.cnt 6 l : Nat), .int .i64 (Pa.cnt 7 l : Nat), .int .i64 (Pa.cnt 8 l : Nat), .int .i64 (Pa.cnt 9 l : Nat)]
def ManyR (w : World) (l : List Pa.It) (e : Ending) (w' : World) : Prop :=
  (∃ k, e = .returned (.tuple #[cvA (l.take k), .bool (l.all Pa.rightI)]) ∧ (l.all Pa.rightI = true → l.take k = l)) ∧ Below w.heap.size w w'
theorem right_kind {x : Pa.It} (h : Pa.rightI x = true) : 1 ≤ x.kind ∧ x.kind ≤ 9 := by
  unfold Pa.rightI at h
  split at h
  · omega
  · split at h
    · omega
    · split at h
      · omega
      · simp at h; omega
theorem all_taken {l : List Pa.It} {k : Nat} (h : ∀ i (hi : i < l.length), i < k → Pa.rightI l[i] = true) (hk : k = l.length) : l.all Pa.rightI = true := by
  rw [List.all_eq_true]
  intro x hx
  obtain ⟨i, hi, rfl⟩ := List.getElem_of_mem hx
  exact h i hi (by omega)

set_option maxRecDepth 100000 in
set_option maxHeartbeats 4000000 in
theorem pa_many_any (vi : Value) (s : Pa.Sec) (B : Nat) (w : World) (h : ItsAt w B vi s.items) (hB : B ≤ w.heap.size) (hl : s.items.length ≤ 1000000) (hu : U8 w) :
    Calls Tryd.prog 20 #[secV vi s] w (ManyR w s.items) := by
  obtain ⟨l, g, sc⟩ := s
  unfold secV
  replace h : ItsAt w B vi l := h
  replace hl : l.length ≤ 1000000 := hl
  show Calls _ _ #[.agg #[vi, .bool g, .int .i64 sc]] _ (ManyR w l)
  have hr := fun x W (hW : Below w.heap.size w W) => pa_right_any x W (hu.on hW)
  obtain ⟨a, c, rfl, hc, hh⟩ := h
  obtain ⟨n, hn⟩ : ∃ n, n = l.length := ⟨_, rfl⟩
  rw [← hn] at hl hc ⊢
  have HH := Lib.hid hh; have HN := Lib.hid hn; have HR := Lib.hid hr
  clear hh hn hr hu
  go_enter Tryd.func20, Tryd.ntmps20
  go_wp2_with fail
  have hT : Mem (((w.alloc (Obj.cells #[Value.slice a n c, Value.bool g, Value.int IntKind.i64 sc] 32)).alloc (Obj.cells #[.int .i64 0, .int .i64 0, .int .i64 0, .int .i64 0, .int .i64 0, .int .i64 0, .int .i64 0, .int .i64 0, .int .i64 0, .int .i64 0] 50)).alloc (Obj.cells #[.int .i64 0, .int .i64 0, .int .i64 0, .int .i64 0, .int .i64 0, .int .i64 0, .int .i64 0, .int .i64 0, .int .i64 0, .int .i64 0] 50)) (w.heap.size + 1) [.int .i64 0, .int .i64 0, .int .i64 0, .int .i64 0, .int .i64 0, .int .i64 0, .int .i64 0, .int .i64 0, .int .i64 0, .int .i64 0] 50 := by
    have := (Mem.new (w.alloc (Obj.cells #[Value.slice a n c, Value.bool g, Value.int IntKind.i64 sc] 32)) [.int .i64 0, .int .i64 0, .int .i64 0, .int .i64 0, .int .i64 0, .int .i64 0, .int .i64 0, .int .i64 0, .int .i64 0, .int .i64 0] 50).alloc (Obj.cells #[.int .i64 0, .int .i64 0, .int .i64 0, .int .i64 0, .int .i64 0, .int .i64 0, .int .i64 0, .int .i64 0, .int .i64 0, .int .i64 0] 50)
    rwa [World.size_alloc] at this
  have hG : Mem (((w.alloc (Obj.cells #[Value.slice a n c, Value.bool g, Value.int IntKind.i64 sc] 32)).alloc (Obj.cells #[.int .i64 0, .int .i64 0, .int .i64 0, .int .i64 0, .int .i64 0, .int .i64 0, .int .i64 0, .int .i64 0, .int .i64 0, .int .i64 0] 50)).alloc (Obj.cells #[.int .i64 0, .int .i64 0, .int .i64 0, .int .i64 0, .int .i64 0, .int .i64 0, .int .i64 0, .int .i64 0, .int .i64 0, .int .i64 0] 50)) (w.heap.size + 1 + 1) (cv l 0) 50 := by
    rw [cv_zero]
    have := Mem.new ((w.alloc (Obj.cells #[Value.slice a n c, Value.bool g, Value.int IntKind.i64 sc] 32)).alloc (Obj.cells #[.int .i64 0, .int .i64 0, .int .i64 0, .int .i64 0, .int .i64 0, .int .i64 0, .int .i64 0, .int .i64 0, .int .i64 0, .int .i64 0] 50)) [.int .i64 0, .int .i64 0, .int .i64 0, .int .i64 0, .int .i64 0, .int .i64 0, .int .i64 0, .int .i64 0, .int .i64 0, .int .i64 0] 50
    rwa [World.size_alloc, World.size_alloc] at this
  have hBe : Below w.heap.size w (((w.alloc (Obj.cells #[Value.slice a n c, Value.bool g, Value.int IntKind.i64 sc] 32)).alloc (Obj.cells #[.int .i64 0, .int .i64 0, .int .i64 0, .int .i64 0, .int .i64 0, .int .i64 0, .int .i64 0, .int .i64 0, .int .i64 0, .int .i64 0] 50)).alloc (Obj.cells #[.int .i64 0, .int .i64 0, .int .i64 0, .int .i64 0, .int .i64 0, .int .i64 0, .int .i64 0, .int .i64 0, .int .i64 0, .int .i64 0] 50)) := by (repeat (first | exact Below.refl _ _ | assumption | refine Below.setCell ?_ (by first | omega | (simp <;> omega)) _ | refine Below.alloc ?_ (by first | omega | (simp <;> omega)) _ | refine Below.drew ?_ | refine below_drewN' ?_ _))
  obtain ⟨W0, hW0⟩ : ∃ W0, W0 = (((w.alloc (Obj.cells #[Value.slice a n c, Value.bool g, Value.int IntKind.i64 sc] 32)).alloc (Obj.cells #[.int .i64 0, .int .i64 0, .int .i64 0, .int .i64 0, .int .i64 0, .int .i64 0, .int .i64 0, .int .i64 0, .int .i64 0, .int .i64 0] 50)).alloc (Obj.cells #[.int .i64 0, .int .i64 0, .int .i64 0, .int .i64 0, .int .i64 0, .int .i64 0, .int .i64 0, .int .i64 0, .int .i64 0, .int .i64 0] 50)) := ⟨_, rfl⟩
  rw [← hW0] at hT hG hBe ⊢
  clear hW0
  have HT0 := Lib.hid hT; have HG0 := Lib.hid hG
  clear hT hG
  obtain ⟨T, hTT⟩ : ∃ T, T = w.heap.size + 1 := ⟨_, rfl⟩
  obtain ⟨G, hGG⟩ : ∃ G, G = w.heap.size + 1 + 1 := ⟨_, rfl⟩
  rw [← hGG] at HG0 ⊢
  rw [← hTT] at HT0 ⊢
  have nTG : ¬ T = G := by omega
  have nGT : ¬ G = T := by omega
  have hTw : w.heap.size ≤ T := by omega
  have hGw : w.heap.size ≤ G := by omega
  clear hTT hGG
  go_loopw [10] (fun i wr => ∃ k : Nat, k ≤ n ∧ i = .int .i64 k ∧ Hid (∀ i (hi : i < l.length), i < k → Pa.rightI l[i] = true) ∧ Hid (Mem wr T [.int .i64 0, .int .i64 0, .int .i64 0, .int .i64 0, .int .i64 0, .int .i64 0, .int .i64 0, .int .i64 0, .int .i64 0, .int .i64 0] 50) ∧ Hid (Mem wr G (cv l k) 50) ∧ Below w.heap.size w wr) (fun i _ => n - (intOf i).toNat)
  case atStart => exact ⟨0, Nat.zero_le _, rfl, Lib.hid (fun i hi h => absurd h (Nat.not_lt_zero _)), HT0, HG0, hBe⟩
  case round =>
    clear HT0 HG0
    obtain ⟨k, hk, rfl, HP, HT, HG, hbr⟩ := hrel
    have hzr := hbr.size
    have lT := HT.out.lt
    have lG := HG.out.lt
    by_cases hlt : k < n
    · have hkl : k < l.length := by rw [← HN.out]; exact hlt
      obtain ⟨b, o, rfl, hb, hcl⟩ := HH.out (by omega)
      have hbw : b < w.heap.size := by omega
      obtain ⟨c0, c1⟩ := hcl k hkl
      replace c0 := (hbr.cell (p := ⟨b, o + k * 2, none⟩) hbw).trans c0
      replace c1 := (hbr.cell (p := ⟨b, o + k * 2 + 1, none⟩) hbw).trans c1
      have hcall := HR.out l[k]
      have hknd := fun (h : Pa.rightI l[k] = true) => right_kind h
      have hnxt := cv_next l k
      have hP2 := HP.out
      unfold itV at hcall
      obtain ⟨q, hq⟩ : ∃ q, q = l[k].kind := ⟨_, rfl⟩
      obtain ⟨t, ht⟩ : ∃ t, t = l[k].text := ⟨_, rfl⟩
      obtain ⟨r, hr⟩ : ∃ r, Pa.rightI l[k] = r := ⟨_, rfl⟩
      rw [← hq, ← ht, hr] at hcall
      rw [← hq] at c0 hknd
      rw [← ht] at c1
      have i1 : (k : Int) < (n : Int) := by omega
      cases r with
      | false =>
        have hall : l.all Pa.rightI = false := by
          rw [List.all_eq_false]; exact ⟨l[k], List.getElem_mem hkl, by rw [hr]; simp⟩
        have HA := Lib.hid hall; have HC := Lib.hid hcall
        clear hcall hknd hnxt hq ht hr hall hP2 hcl
        have zT := HT.out; have zG := HG.out; have t0 := zT.get 0 rfl; have t1 := zT.get 1 rfl; have t2 := zT.get 2 rfl; have t3 := zT.get 3 rfl; have t4 := zT.get 4 rfl; have t5 := zT.get 5 rfl; have t6 := zT.get 6 rfl; have t7 := zT.get 7 rfl; have t8 := zT.get 8 rfl; have t9 := zT.get 9 rfl; have f := zT.frozen; have g0 := zG.get 0 (cv_get l k 0 (by omega)); have g1 := zG.get 1 (cv_get l k 1 (by omega)); have g2 := zG.get 2 (cv_get l k 2 (by omega)); have g3 := zG.get 3 (cv_get l k 3 (by omega)); have g4 := zG.get 4 (cv_get l k 4 (by omega)); have g5 := zG.get 5 (cv_get l k 5 (by omega)); have g6 := zG.get 6 (cv_get l k 6 (by omega)); have g7 := zG.get 7 (cv_get l k 7 (by omega)); have g8 := zG.get 8 (cv_get l k 8 (by omega)); have g9 := zG.get 9 (cv_get l k 9 (by omega)); have f2 := zG.frozen
        go_wp2_with ((go_at_call 38; (with_reducible refine (HC.out _ (by (repeat (first | exact Below.refl _ _ | assumption | refine Below.setCell ?_ (by first | omega | (simp <;> omega)) _ | refine Below.alloc ?_ (by first | omega | (simp <;> omega)) _ | refine Below.drew ?_ | refine below_drewN' ?_ _)))).mono ?_); rintro e w1 ⟨rfl, hb_w1⟩; have hB_w1 : Below (wr).heap.size (wr) w1 := Below.trans (by (repeat (first | exact Below.refl _ _ | assumption | refine Below.setCell ?_ (by first | omega | (simp <;> omega)) _ | refine Below.alloc ?_ (by first | omega | (simp <;> omega)) _ | refine Below.drew ?_ | refine below_drewN' ?_ _))) (hb_w1.mono (by first | omega | (simp <;> omega))); obtain ⟨hc_w1, hf_w1⟩ := bcell hb_w1; have hz_w1 := hb_w1.size; (try simp only [size_drew', size_drewN', World.size_alloc, World.size_setCell] at hz_w1); have hl0_w1 : wr.heap.size < w1.heap.size := (by omega); have hm0_w1 : wr.heap.size ≤ w1.heap.size := (by omega); have hn0_w1 : ¬ wr.heap.size = w1.heap.size := (by omega); have hq0_w1 : ¬ w1.heap.size = wr.heap.size := (by omega); have hr0_w1 := fun o => hc_w1 (wr.heap.size) o (by (try simp only [size_drew', size_drewN', World.size_alloc, World.size_setCell]); omega); have hg0_w1 := fun o => hf_w1 (wr.heap.size) o (by (try simp only [size_drew', size_drewN', World.size_alloc, World.size_setCell]); omega)))
        obtain ⟨W, hW⟩ : ∃ W, W = w1.setCells T 0 [.int .i64 (Pa.cnt 0 (l.take k) : Nat), .int .i64 (Pa.cnt 1 (l.take k) : Nat), .int .i64 (Pa.cnt 2 (l.take k) : Nat), .int .i64 (Pa.cnt 3 (l.take k) : Nat), .int .i64 (Pa.cnt 4 (l.take k) : Nat), .int .i64 (Pa.cnt 5 (l.take k) : Nat), .int .i64 (Pa.cnt 6 (l.take k) : Nat), .int .i64 (Pa.cnt 7 (l.take k) : Nat), .int .i64 (Pa.cnt 8 (l.take k) : Nat), .int .i64 (Pa.cnt 9 (l.take k) : Nat)] := ⟨_, rfl⟩
        change bodyPost _ _ _ _ _ (w1.setCells T 0 [.int .i64 (Pa.cnt 0 (l.take k) : Nat), .int .i64 (Pa.cnt 1 (l.take k) : Nat), .int .i64 (Pa.cnt 2 (l.take k) : Nat), .int .i64 (Pa.cnt 3 (l.take k) : Nat), .int .i64 (Pa.cnt 4 (l.take k) : Nat), .int .i64 (Pa.cnt 5 (l.take k) : Nat), .int .i64 (Pa.cnt 6 (l.take k) : Nat), .int .i64 (Pa.cnt 7 (l.take k) : Nat), .int .i64 (Pa.cnt 8 (l.take k) : Nat), .int .i64 (Pa.cnt 9 (l.take k) : Nat)])
        have hM := (HT.out.below hB_w1 lT).setCells (us := [.int .i64 (Pa.cnt 0 (l.take k) : Nat), .int .i64 (Pa.cnt 1 (l.take k) : Nat), .int .i64 (Pa.cnt 2 (l.take k) : Nat), .int .i64 (Pa.cnt 3 (l.take k) : Nat), .int .i64 (Pa.cnt 4 (l.take k) : Nat), .int .i64 (Pa.cnt 5 (l.take k) : Nat), .int .i64 (Pa.cnt 6 (l.take k) : Nat), .int .i64 (Pa.cnt 7 (l.take k) : Nat), .int .i64 (Pa.cnt 8 (l.take k) : Nat), .int .i64 (Pa.cnt 9 (l.take k) : Nat)]) rfl
        have hWB : Below w.heap.size w W := by rw [hW]; exact below_setCells hTw _ _ (hbr.trans (hB_w1.mono hzr))
        rw [← hW] at hM ⊢
        clear hW
        have e0 := hM.get 0 rfl; have e1 := hM.get 1 rfl; have e2 := hM.get 2 rfl; have e3 := hM.get 3 rfl; have e4 := hM.get 4 rfl; have e5 := hM.get 5 rfl; have e6 := hM.get 6 rfl; have e7 := hM.get 7 rfl; have e8 := hM.get 8 rfl; have e9 := hM.get 9 rfl
        refine bodyPost_ret (v := .tuple #[.agg ([.int .i64 (Pa.cnt 0 (l.take k) : Nat), .int .i64 (Pa.cnt 1 (l.take k) : Nat), .int .i64 (Pa.cnt 2 (l.take k) : Nat), .int .i64 (Pa.cnt 3 (l.take k) : Nat), .int .i64 (Pa.cnt 4 (l.take k) : Nat), .int .i64 (Pa.cnt 5 (l.take k) : Nat), .int .i64 (Pa.cnt 6 (l.take k) : Nat), .int .i64 (Pa.cnt 7 (l.take k) : Nat), .int .i64 (Pa.cnt 8 (l.take k) : Nat), .int .i64 (Pa.cnt 9 (l.take k) : Nat)] : List Value).toArray, .bool false]) (by simp [results, Tryd.results20, go_sem, e0, e1, e2, e3, e4, e5, e6, e7, e8, e9]; done) rfl ?_
        exact ⟨⟨k, by rw [HA.out]; rfl, fun h => by rw [HA.out] at h; cases h⟩, hWB⟩
      | true =>
        obtain ⟨z1, z9⟩ := hknd hr
        obtain ⟨qn, rfl⟩ : ∃ qn : Nat, q = (qn : Int) := ⟨q.toNat, by omega⟩
        have hq9 : qn < 10 := by omega
        have hset := hnxt qn hkl hq.symm hq9
        have hP2 : Hid (∀ i (hi : i < l.length), i < k + 1 → Pa.rightI l[i] = true) := Lib.hid fun i hi h => by
          by_cases e : i = k
          · subst e; exact hr
          · exact HP.out i hi (by omega)
        have HS := Lib.hid hset; have HC := Lib.hid hcall
        have zG := HG.out
        have gq := zG.get qn (cv_get l k qn hq9)
        have f2 := zG.frozen qn
        have hmk : Pa.cnt (qn : Int) (l.take k) ≤ k := Nat.le_trans (cnt_le _ _) (by rw [List.length_take]; omega)
        obtain ⟨m, hm⟩ : ∃ m, m = Pa.cnt (qn : Int) (l.take k) := ⟨_, rfl⟩
        rw [← hm] at gq hmk
        have HM := Lib.hid hm
        have i2 : (qn : Int) < 10 := by omega
        have i3 : (m : Int) ≤ 1000000 := by omega
        clear hset hcall hknd hnxt hq ht hr hcl zG hm hq9
        go_wp2_with ((go_at_call 38; (with_reducible refine (HC.out _ (by (repeat (first | exact Below.refl _ _ | assumption | refine Below.setCell ?_ (by first | omega | (simp <;> omega)) _ | refine Below.alloc ?_ (by first | omega | (simp <;> omega)) _ | refine Below.drew ?_ | refine below_drewN' ?_ _)))).mono ?_); rintro e w1 ⟨rfl, hb_w1⟩; have hB_w1 : Below (wr).heap.size (wr) w1 := Below.trans (by (repeat (first | exact Below.refl _ _ | assumption | refine Below.setCell ?_ (by first | omega | (simp <;> omega)) _ | refine Below.alloc ?_ (by first | omega | (simp <;> omega)) _ | refine Below.drew ?_ | refine below_drewN' ?_ _))) (hb_w1.mono (by first | omega | (simp <;> omega))); obtain ⟨hc_w1, hf_w1⟩ := bcell hb_w1; have hz_w1 := hb_w1.size; (try simp only [size_drew', size_drewN', World.size_alloc, World.size_setCell] at hz_w1); have hl0_w1 : wr.heap.size < w1.heap.size := (by omega); have hm0_w1 : wr.heap.size ≤ w1.heap.size := (by omega); have hn0_w1 : ¬ wr.heap.size = w1.heap.size := (by omega); have hq0_w1 : ¬ w1.heap.size = wr.heap.size := (by omega); have hr0_w1 := fun o => hc_w1 (wr.heap.size) o (by (try simp only [size_drew', size_drewN', World.size_alloc, World.size_setCell]); omega); have hg0_w1 := fun o => hf_w1 (wr.heap.size) o (by (try simp only [size_drew', size_drewN', World.size_alloc, World.size_setCell]); omega)))
        go_roundw
        case rel =>
          refine ⟨k + 1, by omega, by go_num, hP2, Lib.hid ?_, Lib.hid ?_, ?_⟩
          · exact (HT.out.below hB_w1 lT).other nTG _
          · have := (HG.out.below hB_w1 lG).set qn (.int .i64 ((Pa.cnt (qn : Int) (l.take k) : Nat) + 1))
            rw [HS.out] at this
            rw [HM.out]
            exact this
          · exact (hbr.trans (hB_w1.mono hzr)).setCell (p := ⟨G, qn, none⟩) hGw _
        case measure => simp [intOf]; omega
    · have hkk : k = n := by omega
      have hall : l.all Pa.rightI = true := all_taken HP.out (hkk.trans HN.out)
      have htk : l.take k = l := List.take_of_length_le (by rw [hkk, HN.out]; exact Nat.le_refl _)
      have HA := Lib.hid hall
      have HV := Lib.hid htk
      clear hall htk hkk
      have zT := HT.out; have zG := HG.out; have t0 := zT.get 0 rfl; have t1 := zT.get 1 rfl; have t2 := zT.get 2 rfl; have t3 := zT.get 3 rfl; have t4 := zT.get 4 rfl; have t5 := zT.get 5 rfl; have t6 := zT.get 6 rfl; have t7 := zT.get 7 rfl; have t8 := zT.get 8 rfl; have t9 := zT.get 9 rfl; have f := zT.frozen; have g0 := zG.get 0 (cv_get l k 0 (by omega)); have g1 := zG.get 1 (cv_get l k 1 (by omega)); have g2 := zG.get 2 (cv_get l k 2 (by omega)); have g3 := zG.get 3 (cv_get l k 3 (by omega)); have g4 := zG.get 4 (cv_get l k 4 (by omega)); have g5 := zG.get 5 (cv_get l k 5 (by omega)); have g6 := zG.get 6 (cv_get l k 6 (by omega)); have g7 := zG.get 7 (cv_get l k 7 (by omega)); have g8 := zG.get 8 (cv_get l k 8 (by omega)); have g9 := zG.get 9 (cv_get l k 9 (by omega)); have f2 := zG.frozen
      go_wp2_with fail
      obtain ⟨W, hW⟩ : ∃ W, W = wr.setCells T 0 [.int .i64 (Pa.cnt 0 (l.take k) : Nat), .int .i64 (Pa.cnt 1 (l.take k) : Nat), .int .i64 (Pa.cnt 2 (l.take k) : Nat), .int .i64 (Pa.cnt 3 (l.take k) : Nat), .int .i64 (Pa.cnt 4 (l.take k) : Nat), .int .i64 (Pa.cnt 5 (l.take k) : Nat), .int .i64 (Pa.cnt 6 (l.take k) : Nat), .int .i64 (Pa.cnt 7 (l.take k) : Nat), .int .i64 (Pa.cnt 8 (l.take k) : Nat), .int .i64 (Pa.cnt 9 (l.take k) : Nat)] := ⟨_, rfl⟩
      change bodyPost _ _ _ _ _ (wr.setCells T 0 [.int .i64 (Pa.cnt 0 (l.take k) : Nat), .int .i64 (Pa.cnt 1 (l.take k) : Nat), .int .i64 (Pa.cnt 2 (l.take k) : Nat), .int .i64 (Pa.cnt 3 (l.take k) : Nat), .int .i64 (Pa.cnt 4 (l.take k) : Nat), .int .i64 (Pa.cnt 5 (l.take k) : Nat), .int .i64 (Pa.cnt 6 (l.take k) : Nat), .int .i64 (Pa.cnt 7 (l.take k) : Nat), .int .i64 (Pa.cnt 8 (l.take k) : Nat), .int .i64 (Pa.cnt 9 (l.take k) : Nat)])
      have hM := (HT.out).setCells (us := [.int .i64 (Pa.cnt 0 (l.take k) : Nat), .int .i64 (Pa.cnt 1 (l.take k) : Nat), .int .i64 (Pa.cnt 2 (l.take k) : Nat), .int .i64 (Pa.cnt 3 (l.take k) : Nat), .int .i64 (Pa.cnt 4 (l.take k) : Nat), .int .i64 (Pa.cnt 5 (l.take k) : Nat), .int .i64 (Pa.cnt 6 (l.take k) : Nat), .int .i64 (Pa.cnt 7 (l.take k) : Nat), .int .i64 (Pa.cnt 8 (l.take k) : Nat), .int .i64 (Pa.cnt 9 (l.take k) : Nat)]) rfl
      have hWB : Below w.heap.size w W := by rw [hW]; exact below_setCells hTw _ _ (hbr)
      rw [← hW] at hM ⊢
      clear hW
      have e0 := hM.get 0 rfl; have e1 := hM.get 1 rfl; have e2 := hM.get 2 rfl; have e3 := hM.get 3 rfl; have e4 := hM.get 4 rfl; have e5 := hM.get 5 rfl; have e6 := hM.get 6 rfl; have e7 := hM.get 7 rfl; have e8 := hM.get 8 rfl; have e9 := hM.get 9 rfl
      refine bodyPost_ret (v := .tuple #[.agg ([.int .i64 (Pa.cnt 0 (l.take k) : Nat), .int .i64 (Pa.cnt 1 (l.take k) : Nat), .int .i64 (Pa.cnt 2 (l.take k) : Nat), .int .i64 (Pa.cnt 3 (l.take k) : Nat), .int .i64 (Pa.cnt 4 (l.take k) : Nat), .int .i64 (Pa.cnt 5 (l.take k) : Nat), .int .i64 (Pa.cnt 6 (l.take k) : Nat), .int .i64 (Pa.cnt 7 (l.take k) : Nat), .int .i64 (Pa.cnt 8 (l.take k) : Nat), .int .i64 (Pa.cnt 9 (l.take k) : Nat)] : List Value).toArray, .bool true]) (by simp [results, Tryd.results20, go_sem, e0, e1, e2, e3, e4, e5, e6, e7, e8, e9]; done) rfl ?_
      exact ⟨⟨k, by rw [HA.out]; rfl, fun _ => HV.out⟩, hWB⟩

end Go.Proofs.YticodcecillciaaDoor
