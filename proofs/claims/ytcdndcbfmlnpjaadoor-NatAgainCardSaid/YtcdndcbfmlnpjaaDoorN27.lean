/- DivMod, whole. -/
import Derived.Test.YtcdndcbfmlnpjaaDoorN26
namespace Go.Proofs.YtcdndcbfmlnpjaaDoor
set_option linter.all false
open Go.RowKit

theorem Na.cut_last {a : List Nat} {n : Nat} (h : (Na.cut a).length = n + 1) (hlt : n < (Na.cut a).length) : (Na.cut a)[n]'hlt ≠ 0 := by
  have hne : Na.cut a ≠ [] := by intro e; rw [e] at h; simp at h
  have h1 : (Na.cut a).getLast hne ≠ 0 := Na.limbs_last (Na.val a) hne
  rw [List.getLast_eq_getElem] at h1
  have e : (Na.cut a).length - 1 = n := by omega
  simp only [e] at h1
  exact h1

section
variable (a : Option Addr) (c : Nat) (l : List Nat) (b : Option Addr) (d : Nat) (m : List Nat) (w : World) (h : Sl w a c l) (h' : Sl w b d m) (hn : l.length ≤ 1000000) (hm : m.length ≤ 1000000)
include h h' hn hm

set_option maxHeartbeats 2000000 in
theorem na_divmod_more (hbig : (Na.big l || Na.big m) = false) (hge : ¬ Na.val l < Na.val m) (h2 : 2 ≤ Na.rt m) : Calls Tryd.prog 13 #[.slice a l.length c, .slice b m.length d] w (GivesQ (Na.divMod l m) w) := by
  have H1 := Lib.hid (na_over2_any h h' hn hm false hbig)
  obtain ⟨hl1, hl2⟩ := Na.not_big hbig
  have hm0 : Na.val m ≠ 0 := fun e => by
    have := (Na.cut_nil_iff m).2 e
    rw [Na.rt, this] at h2; simp at h2
  have e2 := Lib.hid (show Na.divMod l m = (Na.limbs (Na.val l / Na.val m), Na.limbs (Na.val l % Na.val m), 0) by rw [Na.divMod, hbig, if_neg (by simp), if_neg hm0])
  have hB : Below w.heap.size w (w.alloc (Obj.cells #[Value.slice a l.length c, Value.slice b m.length d] 24)) := (Below.refl _ _).alloc (Nat.le_refl _) _
  have hrt : Na.rt m ≤ Na.rt l := by
    rcases Nat.lt_or_ge (Na.rt l) (Na.rt m) with h3 | h3
    · exact absurd (Na.lt_of_rt h.ok h'.ok h3) hge
    · exact h3
  obtain ⟨n, hnr⟩ : ∃ n, (Na.cut m).length = n + 1 + 1 := ⟨(Na.cut m).length - 2, by have : (Na.cut m).length = Na.rt m := rfl; omega⟩
  obtain ⟨N1, hN1⟩ : ∃ N, N = n + 1 := ⟨_, rfl⟩
  obtain ⟨N, hN⟩ : ∃ N, N = N1 + 1 := ⟨_, rfl⟩
  have hlm : (Na.cut m).length = N := by rw [hnr, hN, hN1]
  obtain ⟨mm, hmm⟩ : ∃ mm, (Na.cut l).length = N + mm := ⟨(Na.cut l).length - N, by
    have e1 : (Na.cut m).length = Na.rt m := rfl
    have e2 : (Na.cut l).length = Na.rt l := rfl
    omega⟩
  have hlast := Na.cut_last (a := m) hnr (by omega)
  have hlong := fun wr (hb : Below w.heap.size w wr) => na_long_any a c (Na.cut l) b d (Na.cut m) n N1 N mm wr (h.on hb).cut (h'.on hb).cut hN hN1 hlm hmm hl1 hlast
  rw [Na.val_cut, Na.val_cut] at hlong
  have H2 := na_right_any b d m _ (h'.on hB) hm
  obtain ⟨rm, hrm⟩ : ∃ x, x = Na.rt m := ⟨_, rfl⟩
  rw [← hrm] at H2
  have hr0 : ((rm : Int) == 0) = false := by simp; omega
  have H2' := Lib.hid H2
  have HC := na_cmp_any a c l b d m _ (h.on hB) (h'.on hB) hn hm
  have hc0 : ∃ r : Int, r = Na.cmp l m ∧ decide (r < 0) = false := ⟨_, rfl, decide_eq_false (by rw [Na.cmp, if_neg hge]; split <;> omega)⟩
  obtain ⟨r0, hr0', hr1⟩ := hc0
  rw [← hr0'] at HC
  have HC' := Lib.hid HC
  have h4 := fun wr (hb : Below w.heap.size w wr) => na_cut_any b d m wr (h'.on hb) hm
  have h3 := fun wr (hb : Below w.heap.size w wr) => na_cut_any a c l wr (h.on hb) hn
  obtain ⟨ql, hql⟩ : ∃ q, q = (Na.cut l).length := ⟨_, rfl⟩
  obtain ⟨qm, hqm⟩ : ∃ q, q = (Na.cut m).length := ⟨_, rfl⟩
  rw [← hql] at hlong h3
  rw [← hqm] at hlong h4
  have hq1 : ((qm : Int) == 1) = false := by
    have : qm = n + 1 + 1 := by rw [hqm, hnr]
    simp; omega
  have H4 := Lib.hid h4; have H3 := Lib.hid h3; have HLG := Lib.hid hlong
  clear hbig H2 HC hge h2 hm0 hrt hnr hN1 hN hlm hmm hlast hlong hr0' h3 h4 hql hqm hrm
  go_enter Tryd.func13, Tryd.ntmps13
  go_wp2_with (first | (go_at_call 24; (with_reducible refine (H1.out).mono ?_); rintro e w' ⟨rfl, rfl⟩) | (go_at_call 29; (with_reducible refine (H2'.out).mono ?_); rintro e w' ⟨rfl, rfl⟩) | (go_at_call 15; (with_reducible refine (HC'.out).mono ?_); rintro e w2 ⟨rfl, hb2⟩; have hB2 : Below w.heap.size w w2 := hB.trans (hb2.mono (by simp [World.size_alloc]))) | (go_at_call 25; (with_reducible refine (H4.out _ hB2).mono ?_); rintro e w' ⟨rfl, rfl⟩) | (go_at_call 25; (with_reducible refine (H3.out _ hB2).mono ?_); rintro e w' ⟨rfl, rfl⟩) | (go_at_call 31; (with_reducible refine (HLG.out _ hB2).mono ?_); rintro e w3 ⟨a1, c1, a2, c2, rfl, hs1, ho1, hs2, ho2, hb3⟩))
  have hsz := hB2.size
  have up : ∀ {a : Option Addr} {k : Nat}, Own w3 w2.heap.size a k → Own w3 w.heap.size a k := fun ho h0 => by
    obtain ⟨b', o', e, hb', hf⟩ := ho h0
    exact ⟨b', o', e, Nat.le_trans hsz hb', hf⟩
  refine bodyPost_ret (v := .tuple #[.slice a1 (Na.limbs (Na.val l / Na.val m)).length c1, .slice a2 (Na.limbs (Na.val l % Na.val m)).length c2, .int .i64 0]) (by simp [results, Tryd.results13, go_sem]) rfl (by rw [e2.out]; exact ⟨a1, c1, a2, c2, rfl, hs1, up ho1, hs2, up ho2, hB2.trans (hb3.mono hsz)⟩)

theorem na_divmod_any : Calls Tryd.prog 13 #[.slice a l.length c, .slice b m.length d] w (GivesQ (Na.divMod l m) w) := by
  cases hbig : (Na.big l || Na.big m) with
  | true => exact na_divmod_big a c l b d m w h h' hn hm hbig
  | false =>
    by_cases hz : Na.val m = 0
    · exact na_divmod_zero a c l b d m w h h' hn hm hbig hz
    · by_cases hlt : Na.val l < Na.val m
      · exact na_divmod_less a c l b d m w h h' hn hm hbig hlt
      · have hr : Na.rt m ≠ 0 := fun e => hz ((Na.cut_nil_iff m).1 (List.eq_nil_of_length_eq_zero e))
        by_cases h1 : Na.rt m = 1
        · exact na_divmod_one a c l b d m w h h' hn hm hbig hlt h1
        · exact na_divmod_more a c l b d m w h h' hn hm hbig hlt (by omega)
end
end Go.Proofs.YtcdndcbfmlnpjaaDoor
