import Derived.Test.YtcbepojookbceaaDoorT36
import Derived.Test.YtcbepojookbceaaDoorT5
import Derived.Test.YtcbepojookbceaaDoorLoc3
import Derived.Test.YtcbepojookbceaaDoorDec6
namespace Go.Proofs.YtcbepojookbceaaDoor
set_option linter.all false
open Go.RowKit

/-- The library's greatest length for a short search is some number (what it is does not matter). -/
def MaxL (w : World) : Prop := 4 < w.heap.size ∧ ∃ m : Int, w.cell? ⟨4, 0, none⟩ = some (.int .i64 m)
theorem MaxL.on {w w1 : World} (h : MaxL w) (hb : Below w.heap.size w w1) : MaxL w1 := by
  obtain ⟨h1, m, h2⟩ := h
  exact ⟨Nat.lt_of_lt_of_le h1 hb.size, m, (hb.cell (p := ⟨4, 0, none⟩) h1).trans h2⟩

theorem repl_any (s g : ByteArray) (w : World) (hm : MaxL w) (hs : s.size ≤ 100000) (hg : 1 ≤ g.size) :
    Calls Tryd.prog 42 #[.string s, .string g, .string ⟨#[]⟩] w (RetB (.string ⟨(Lc.rem g.data.toList s.data.toList).toArray⟩) w) := by
  obtain ⟨_, m, h2⟩ := hm
  exact (Tryd.strings_ReplaceAll s g ⟨#[]⟩ m w (by omega) h2 hg (by have : (⟨#[]⟩ : ByteArray).size = 0 := rfl; rw [this]; omega)).mono fun _ _ h => h

theorem trimd (s : ByteArray) (w : World) (hs : s.size ≤ 100000) : Calls Tryd.prog 43 #[.string s, .string ⟨#[48, 49, 50, 51, 52, 53, 54, 55, 56, 57]⟩] w (RetB (.string ⟨(Lib.trimS s.data.toList [48, 49, 50, 51, 52, 53, 54, 55, 56, 57]).toArray⟩) w) :=
  (Any.strings_Trim_laid Tryd.lays160 (by kernel_rfl) s ⟨#[48, 49, 50, 51, 52, 53, 54, 55, 56, 57]⟩ w (by omega) (by decide) (Go.Proofs.ascii_of_all (by decide))).mono fun _ _ h => h

theorem trimS_nil (d : Dc.Bs) : (Lib.trimS d [48, 49, 50, 51, 52, 53, 54, 55, 56, 57] = []) ↔ Dc.allDig d = true := by
  have e : ∀ l : Dc.Bs, l.dropWhile (([48, 49, 50, 51, 52, 53, 54, 55, 56, 57] : List UInt8).contains ·) = l.dropWhile Dc.isDig := fun l => by congr 1; funext c; exact Dc.contains_digs c
  have key : ∀ l : Dc.Bs, (l.dropWhile Dc.isDig = []) ↔ Dc.allDig l = true := by
    intro l
    induction l with
    | nil => simp [Dc.allDig]
    | cons c l ih =>
      by_cases hc : Dc.isDig c = true
      · rw [List.dropWhile_cons_of_pos hc, ih]; simp [Dc.allDig, hc]
      · rw [List.dropWhile_cons_of_neg hc]; simp [Dc.allDig, hc]
  have rev : ∀ l : Dc.Bs, Dc.allDig l.reverse = Dc.allDig l := fun l => by simp [Dc.allDig]
  unfold Lib.trimS Lib.trimLeftS Lib.trimRightS
  rw [e, e, key, rev]
  constructor
  · intro h
    have hs := List.takeWhile_append_dropWhile (p := Dc.isDig) (l := d.reverse)
    rw [← rev, ← hs]
    exact Dc.app_dig (List.all_takeWhile) h
  · intro h
    rw [← rev, ← key] at h
    rw [h]; rfl

set_option maxRecDepth 100000 in
set_option maxHeartbeats 4000000 in
theorem lo_plain_any (b : Nat) (l : Lc.Loc) (s : ByteArray) (w : World) (hsz : Szs w b l) (hm : MaxL w) (hs : s.size ≤ 22000) (hsh : Short l) (hg1 : 1 ≤ l.grp.length) :
    Calls Tryd.prog 14 #[LV b l, .string s] w (RetB (.tuple #[tx (Lc.plainC l.second l.grp s.data.toList).1, .bool (Lc.plainC l.second l.grp s.data.toList).2]) w) := by
  obtain ⟨_, _, hsg, _, _⟩ := hsh
  have hgne : l.grp ≠ [] := fun e => by rw [e] at hg1; simp at hg1
  obtain ⟨r, hr⟩ : ∃ r : Value, r = .tuple #[tx (Lc.plainC l.second l.grp s.data.toList).1, .bool (Lc.plainC l.second l.grp s.data.toList).2] := ⟨_, rfl⟩
  rw [← hr]
  obtain ⟨X, hX⟩ : ∃ X : ByteArray, X = ⟨(Lc.rem l.grp s.data.toList).toArray⟩ := ⟨_, rfl⟩
  obtain ⟨G, hG⟩ : ∃ v : ByteArray, v = ⟨l.grp.toArray⟩ := ⟨_, rfl⟩
  have hXd : Lc.rem l.grp s.data.toList = X.data.toList := by rw [hX]
  have hXs : X.size ≤ 22000 := by
    rw [hX, size_mk]
    have := Lc.rem_len l.grp hgne _ s.data.toList (Nat.le_refl _)
    rw [bs_length] at this; omega
  have hrep : ∀ W, Below w.heap.size w W → Calls Tryd.prog 42 #[.string s, .string G, .string ⟨#[]⟩] W (RetB (.string X) W) := fun W hb => by
    rw [hX]
    have h := repl_any s G W (hm.on hb) (by omega) (by rw [hG, size_mk]; exact hg1)
    rw [show G.data.toList = l.grp by rw [hG]] at h; exact h
  unfold Lc.plainC at hr
  rw [hXd] at hr
  obtain ⟨Q, hQ⟩ : ∃ v : ByteArray, v = ⟨(Lc.grouped l.second l.grp X.data.toList).toArray⟩ := ⟨_, rfl⟩
  have hQd : Lc.grouped l.second l.grp X.data.toList = Q.data.toList := by rw [hQ]
  rw [hQd] at hr
  have hgw : ∀ W', Below w.heap.size w W' → Calls Tryd.prog 17 #[LV b l, .string X] W' (RetB (.string Q) W') := fun W' h => by
    have h1 := lo_grouped_any b l X W' (hsz.on h) (by omega) hsg
    rw [hQ]; exact h1
  have hb0 : b < w.heap.size := hsz.1
  have htr := fun W => trimd X W (by omega)
  obtain ⟨T, hT⟩ : ∃ v : ByteArray, v = ⟨(Lib.trimS X.data.toList [48, 49, 50, 51, 52, 53, 54, 55, 56, 57]).toArray⟩ := ⟨_, rfl⟩
  rw [← hT] at htr
  have hTe : T.size = 0 ↔ Dc.allDig X.data.toList = true := by
    rw [← trimS_nil, hT, size_mk, List.length_eq_zero_iff]
  unfold LV tx at hgw ⊢
  obtain ⟨v0, hv0⟩ : ∃ v : ByteArray, v = ⟨l.name.toArray⟩ := ⟨_, rfl⟩
  obtain ⟨v1, hv1⟩ : ∃ v : ByteArray, v = ⟨l.dec.toArray⟩ := ⟨_, rfl⟩
  obtain ⟨v3, hv3⟩ : ∃ v : ByteArray, v = ⟨l.list.toArray⟩ := ⟨_, rfl⟩
  obtain ⟨v4, hv4⟩ : ∃ v : ByteArray, v = ⟨l.minus.toArray⟩ := ⟨_, rfl⟩
  obtain ⟨v6, hv6⟩ : ∃ v : ByteArray, v = ⟨l.cur.toArray⟩ := ⟨_, rfl⟩
  obtain ⟨f7, hf7⟩ : ∃ v, v = l.first := ⟨_, rfl⟩
  obtain ⟨f8, hf8⟩ : ∃ v, v = l.space := ⟨_, rfl⟩
  rw [← hv0, ← hv1, ← hG, ← hv3, ← hv4, ← hv6, ← hf7, ← hf8] at hgw ⊢
  generalize (if l.two = true then 2 else 1 : Nat) = k at hgw ⊢
  have HR := Lib.hid hr; have HREP := Lib.hid hrep; have HGW := Lib.hid hgw; have HTR := Lib.hid htr; have HTE := Lib.hid hTe
  clear hr hrep hgw htr hTe hX hXd hQ hQd hT hv0 hv1 hG hv3 hv4 hv6 hf7 hf8 hm hsz hgne hsg
  by_cases c0 : X.size = 0
  · have hrr := HR.out
    rw [if_pos (.inl (List.length_eq_zero_iff.1 (by rw [bs_length]; exact c0)))] at hrr
    have e1 := isEmpty_of_zero c0
    have HR2 := Lib.hid hrr; clear hrr c0
    go_enter Tryd.func14, Tryd.ntmps14
    go_wp2_with (go_at_call 42; (with_reducible refine (HREP.out _ (by (repeat (first | exact Below.refl _ _ | assumption | refine Below.setCell ?_ (by first | omega | (simp <;> omega)) _ | refine Below.alloc ?_ (by first | omega | (simp <;> omega)) _ | refine Below.drew ?_ | refine below_drewN' ?_ _)))).mono ?_); rintro e w1 ⟨rfl, hb_w1⟩; have hB_w1 : Below (w).heap.size (w) w1 := Below.trans (by (repeat (first | exact Below.refl _ _ | assumption | refine Below.setCell ?_ (by first | omega | (simp <;> omega)) _ | refine Below.alloc ?_ (by first | omega | (simp <;> omega)) _ | refine Below.drew ?_ | refine below_drewN' ?_ _))) (hb_w1.mono (by first | omega | (simp <;> omega))); obtain ⟨hc_w1, hf_w1⟩ := bcell hb_w1; have hz_w1 := hb_w1.size; (try simp only [size_drew', size_drewN', World.size_alloc, World.size_setCell] at hz_w1); have hl0_w1 : w.heap.size < w1.heap.size := (by omega); have hm0_w1 : w.heap.size ≤ w1.heap.size := (by omega); have hn0_w1 : ¬ w.heap.size = w1.heap.size := (by omega); have hq0_w1 : ¬ w1.heap.size = w.heap.size := (by omega); have hr0_w1 := fun o => hc_w1 (w.heap.size) o (by (try simp only [size_drew', size_drewN', World.size_alloc, World.size_setCell]); omega); have hg0_w1 := fun o => hf_w1 (w.heap.size) o (by (try simp only [size_drew', size_drewN', World.size_alloc, World.size_setCell]); omega))
    go_ret2
    exact RetB.of HR2.out.symm (by (repeat (first | exact Below.refl _ _ | assumption | refine Below.setCell ?_ (by first | omega | (simp <;> omega)) _ | refine Below.alloc ?_ (by first | omega | (simp <;> omega)) _ | refine Below.drew ?_ | refine below_drewN' ?_ _)))
  · have hne : X.data.toList ≠ [] := fun e => c0 (by have := congrArg List.length e; rwa [bs_length] at this)
    have e1 := isEmpty_of_pos (s := X) (by omega)
    by_cases c1 : T.size = 0
    · have hd := HTE.out.1 c1
      have t1 := isEmpty_of_zero c1
      have hrr := HR.out
      rw [if_neg (by rintro (e | e); exact hne e; rw [hd] at e; cases e)] at hrr
      have HR2 := Lib.hid hrr; clear hrr c0 hd hne c1
      go_enter Tryd.func14, Tryd.ntmps14
      go_wp2_with (first | (go_at_call 42; (with_reducible refine (HREP.out _ (by (repeat (first | exact Below.refl _ _ | assumption | refine Below.setCell ?_ (by first | omega | (simp <;> omega)) _ | refine Below.alloc ?_ (by first | omega | (simp <;> omega)) _ | refine Below.drew ?_ | refine below_drewN' ?_ _)))).mono ?_); rintro e w1 ⟨rfl, hb_w1⟩; have hB_w1 : Below (w).heap.size (w) w1 := Below.trans (by (repeat (first | exact Below.refl _ _ | assumption | refine Below.setCell ?_ (by first | omega | (simp <;> omega)) _ | refine Below.alloc ?_ (by first | omega | (simp <;> omega)) _ | refine Below.drew ?_ | refine below_drewN' ?_ _))) (hb_w1.mono (by first | omega | (simp <;> omega))); obtain ⟨hc_w1, hf_w1⟩ := bcell hb_w1; have hz_w1 := hb_w1.size; (try simp only [size_drew', size_drewN', World.size_alloc, World.size_setCell] at hz_w1); have hl0_w1 : w.heap.size < w1.heap.size := (by omega); have hm0_w1 : w.heap.size ≤ w1.heap.size := (by omega); have hn0_w1 : ¬ w.heap.size = w1.heap.size := (by omega); have hq0_w1 : ¬ w1.heap.size = w.heap.size := (by omega); have hr0_w1 := fun o => hc_w1 (w.heap.size) o (by (try simp only [size_drew', size_drewN', World.size_alloc, World.size_setCell]); omega); have hg0_w1 := fun o => hf_w1 (w.heap.size) o (by (try simp only [size_drew', size_drewN', World.size_alloc, World.size_setCell]); omega)) | (go_at_call 43; (with_reducible refine (HTR.out _).mono ?_); rintro e w2 ⟨rfl, hb_w2⟩; have hB_w2 : Below (w).heap.size (w) w2 := Below.trans (by (repeat (first | exact Below.refl _ _ | assumption | refine Below.setCell ?_ (by first | omega | (simp <;> omega)) _ | refine Below.alloc ?_ (by first | omega | (simp <;> omega)) _ | refine Below.drew ?_ | refine below_drewN' ?_ _))) (hb_w2.mono (by first | omega | (simp <;> omega))); obtain ⟨hc_w2, hf_w2⟩ := bcell hb_w2; have hz_w2 := hb_w2.size; (try simp only [size_drew', size_drewN', World.size_alloc, World.size_setCell] at hz_w2); have hl0_w2 : w.heap.size < w2.heap.size := (by omega); have hm0_w2 : w.heap.size ≤ w2.heap.size := (by omega); have hn0_w2 : ¬ w.heap.size = w2.heap.size := (by omega); have hq0_w2 : ¬ w2.heap.size = w.heap.size := (by omega); have hr0_w2 := fun o => hc_w2 (w.heap.size) o (by (try simp only [size_drew', size_drewN', World.size_alloc, World.size_setCell]); omega); have hg0_w2 := fun o => hf_w2 (w.heap.size) o (by (try simp only [size_drew', size_drewN', World.size_alloc, World.size_setCell]); omega)) | (go_at_call 17; (with_reducible refine (HGW.out _ (by (repeat (first | exact Below.refl _ _ | assumption | refine Below.setCell ?_ (by first | omega | (simp <;> omega)) _ | refine Below.alloc ?_ (by first | omega | (simp <;> omega)) _ | refine Below.drew ?_ | refine below_drewN' ?_ _)))).mono ?_); rintro e w3 ⟨rfl, hb_w3⟩; have hB_w3 : Below (w).heap.size (w) w3 := Below.trans (by (repeat (first | exact Below.refl _ _ | assumption | refine Below.setCell ?_ (by first | omega | (simp <;> omega)) _ | refine Below.alloc ?_ (by first | omega | (simp <;> omega)) _ | refine Below.drew ?_ | refine below_drewN' ?_ _))) (hb_w3.mono (by first | omega | (simp <;> omega))); obtain ⟨hc_w3, hf_w3⟩ := bcell hb_w3; have hz_w3 := hb_w3.size; (try simp only [size_drew', size_drewN', World.size_alloc, World.size_setCell] at hz_w3); have hl0_w3 : w.heap.size < w3.heap.size := (by omega); have hm0_w3 : w.heap.size ≤ w3.heap.size := (by omega); have hn0_w3 : ¬ w.heap.size = w3.heap.size := (by omega); have hq0_w3 : ¬ w3.heap.size = w.heap.size := (by omega); have hr0_w3 := fun o => hc_w3 (w.heap.size) o (by (try simp only [size_drew', size_drewN', World.size_alloc, World.size_setCell]); omega); have hg0_w3 := fun o => hf_w3 (w.heap.size) o (by (try simp only [size_drew', size_drewN', World.size_alloc, World.size_setCell]); omega)))
      all_goals go_ret2
      · have h : X.toList = s.toList := by assumption
        exact RetB.of (by rw [HR2.out, if_neg (by rintro ⟨e, _⟩; exact e (by rw [← toList_data, ← toList_data]; exact h))]; rfl) (by (repeat (first | exact Below.refl _ _ | assumption | refine Below.setCell ?_ (by first | omega | (simp <;> omega)) _ | refine Below.alloc ?_ (by first | omega | (simp <;> omega)) _ | refine Below.drew ?_ | refine below_drewN' ?_ _)))
      · have h : (!X.toList == s.toList) = true ∧ (!Q.toList == s.toList) = true := by assumption
        have h2 : X.data.toList ≠ s.data.toList ∧ Q.data.toList ≠ s.data.toList := by simpa [toList_data] using h
        exact RetB.of (by rw [HR2.out, if_pos h2]; rfl) (by (repeat (first | exact Below.refl _ _ | assumption | refine Below.setCell ?_ (by first | omega | (simp <;> omega)) _ | refine Below.alloc ?_ (by first | omega | (simp <;> omega)) _ | refine Below.drew ?_ | refine below_drewN' ?_ _)))
      · have h0 : ¬ X.toList = s.toList := by assumption
        have h : (!X.toList == s.toList) = false ∨ (!Q.toList == s.toList) = false := by assumption
        have h2 : ¬ (X.data.toList ≠ s.data.toList ∧ Q.data.toList ≠ s.data.toList) := by
          rintro ⟨a, b⟩
          rcases h with e | e
          · rw [toList_data, toList_data] at e; simp at e; exact a (by rw [e])
          · rw [toList_data, toList_data] at e; simp at e; exact b (by rw [e])
        exact RetB.of (by rw [HR2.out, if_neg h2]; rfl) (by (repeat (first | exact Below.refl _ _ | assumption | refine Below.setCell ?_ (by first | omega | (simp <;> omega)) _ | refine Below.alloc ?_ (by first | omega | (simp <;> omega)) _ | refine Below.drew ?_ | refine below_drewN' ?_ _)))
    · have hd : Dc.allDig X.data.toList = false := by
        cases e : Dc.allDig X.data.toList with
        | true => exact absurd (HTE.out.2 e) c1
        | false => rfl
      have t1 := isEmpty_of_pos (s := T) (by omega)
      have t2 : (!T.toList.isEmpty) = true := by rw [t1]; rfl
      have hrr := HR.out
      rw [if_pos (.inr hd)] at hrr
      have HR2 := Lib.hid hrr; clear hrr c0 hd hne c1
      go_enter Tryd.func14, Tryd.ntmps14
      go_wp2_with (first | (go_at_call 42; (with_reducible refine (HREP.out _ (by (repeat (first | exact Below.refl _ _ | assumption | refine Below.setCell ?_ (by first | omega | (simp <;> omega)) _ | refine Below.alloc ?_ (by first | omega | (simp <;> omega)) _ | refine Below.drew ?_ | refine below_drewN' ?_ _)))).mono ?_); rintro e w1 ⟨rfl, hb_w1⟩; have hB_w1 : Below (w).heap.size (w) w1 := Below.trans (by (repeat (first | exact Below.refl _ _ | assumption | refine Below.setCell ?_ (by first | omega | (simp <;> omega)) _ | refine Below.alloc ?_ (by first | omega | (simp <;> omega)) _ | refine Below.drew ?_ | refine below_drewN' ?_ _))) (hb_w1.mono (by first | omega | (simp <;> omega))); obtain ⟨hc_w1, hf_w1⟩ := bcell hb_w1; have hz_w1 := hb_w1.size; (try simp only [size_drew', size_drewN', World.size_alloc, World.size_setCell] at hz_w1); have hl0_w1 : w.heap.size < w1.heap.size := (by omega); have hm0_w1 : w.heap.size ≤ w1.heap.size := (by omega); have hn0_w1 : ¬ w.heap.size = w1.heap.size := (by omega); have hq0_w1 : ¬ w1.heap.size = w.heap.size := (by omega); have hr0_w1 := fun o => hc_w1 (w.heap.size) o (by (try simp only [size_drew', size_drewN', World.size_alloc, World.size_setCell]); omega); have hg0_w1 := fun o => hf_w1 (w.heap.size) o (by (try simp only [size_drew', size_drewN', World.size_alloc, World.size_setCell]); omega)) | (go_at_call 43; (with_reducible refine (HTR.out _).mono ?_); rintro e w2 ⟨rfl, hb_w2⟩; have hB_w2 : Below (w).heap.size (w) w2 := Below.trans (by (repeat (first | exact Below.refl _ _ | assumption | refine Below.setCell ?_ (by first | omega | (simp <;> omega)) _ | refine Below.alloc ?_ (by first | omega | (simp <;> omega)) _ | refine Below.drew ?_ | refine below_drewN' ?_ _))) (hb_w2.mono (by first | omega | (simp <;> omega))); obtain ⟨hc_w2, hf_w2⟩ := bcell hb_w2; have hz_w2 := hb_w2.size; (try simp only [size_drew', size_drewN', World.size_alloc, World.size_setCell] at hz_w2); have hl0_w2 : w.heap.size < w2.heap.size := (by omega); have hm0_w2 : w.heap.size ≤ w2.heap.size := (by omega); have hn0_w2 : ¬ w.heap.size = w2.heap.size := (by omega); have hq0_w2 : ¬ w2.heap.size = w.heap.size := (by omega); have hr0_w2 := fun o => hc_w2 (w.heap.size) o (by (try simp only [size_drew', size_drewN', World.size_alloc, World.size_setCell]); omega); have hg0_w2 := fun o => hf_w2 (w.heap.size) o (by (try simp only [size_drew', size_drewN', World.size_alloc, World.size_setCell]); omega)))
      go_ret2
      exact RetB.of HR2.out.symm (by (repeat (first | exact Below.refl _ _ | assumption | refine Below.setCell ?_ (by first | omega | (simp <;> omega)) _ | refine Below.alloc ?_ (by first | omega | (simp <;> omega)) _ | refine Below.drew ?_ | refine below_drewN' ?_ _)))
end Go.Proofs.YtcbepojookbceaaDoor
