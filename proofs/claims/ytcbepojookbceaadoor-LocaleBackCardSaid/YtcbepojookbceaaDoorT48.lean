/- The law LocaleBack, walked: whatever the number and the decimal, the call returns true and turns nothing that was there. -/
import Derived.Test.YtcbepojookbceaaDoorT46
import Derived.Test.YtcbepojookbceaaDoorLoc5
import Derived.Test.YtcbepojookbceaaDoorT4
import Derived.Deep.QuietTactic
import Derived.BigQuiet
import Derived.Deep.RegionHeld3
namespace Go.Proofs.YtcbepojookbceaaDoor
set_option linter.all false
open Go.RowKit

/-- What the six have in common beside: the point is one byte, no digit, and stands in no group's sign. -/
theorem six_dec : ∀ l ∈ Lc.six, ∃ c, l.dec = [c] ∧ Dc.isDig c = false ∧ c ∉ l.grp := by
  intro l hl
  simp only [Lc.six, List.mem_cons, List.not_mem_nil, or_false] at hl
  rcases hl with rfl | rfl | rfl | rfl | rfl | rfl
  · exact ⟨46, rfl, by decide, by decide⟩
  · exact ⟨44, rfl, by decide, by decide⟩
  · exact ⟨46, rfl, by decide, by decide⟩
  · exact ⟨44, rfl, by decide, by decide⟩
  · exact ⟨46, rfl, by decide, by decide⟩
  · exact ⟨44, rfl, by decide, by decide⟩

/-- What the walk asks of the decimal's texts: S is written, T stands behind the sign, G ahead of the point, R behind it. -/
structure BackFacts (l : Lc.Loc) (n : Bool) (d : ByteArray) (x : Int) (c : UInt8) (S M T G R WH : ByteArray) : Prop where
  wr : writeC l n d.data.toList x true = S.data.toList
  min : l.minus = M.data.toList
  st : S.data.toList = (if n then M.data.toList else []) ++ T.data.toList
  tg : T.data.toList = G.data.toList ++ (if R.size = 0 then [] else c :: R.data.toList)
  pl : Lc.plainC l.second l.grp G.data.toList = (WH.data.toList, true)
  gc : ∀ j (h : j < G.size), G[j] ≠ c
  rd : Dc.allDig R.data.toList = true
  rl : ∀ h : 0 < R.size, R[R.size - 1] ≠ 48
  mkk : Dc.mk n (WH.data.toList ++ R.data.toList) (-(R.size : Int)) = ⟨n, d.data.toList, x, 0⟩
  gs : G.size ≤ 10000
  rs : R.size ≤ 400
  ws : WH.size ≤ 400
  ms : M.size ≤ 10
  g0 : 0 < G.size

theorem ba_of (l : List UInt8) : (⟨l.toArray⟩ : ByteArray).data.toList = l := by simp
theorem back_facts (l : Lc.Loc) (hl : l ∈ Lc.six) (n : Bool) (d : ByteArray) (x : Int) (h : Dc.right d.data.toList x = true) (hs : d.size ≤ 200) (hp : Dc.point d.data.toList x ≤ 300) (hp2 : -100 ≤ Dc.point d.data.toList x) :
    ∃ c S M T G R WH, l.dec = [c] ∧ BackFacts l n d x c S M T G R WH := by
  obtain ⟨c, hc, hcd, hcg⟩ := six_dec l hl
  obtain ⟨o1, o2, o3, _, _⟩ := six_ok l hl
  have hgne : l.grp ≠ [] := fun e => by rw [e] at o2; simp at o2
  obtain ⟨b1, b2, b3, b4, b5, b6, b7, b8⟩ := sides_back n d.data.toList x h (by rw [bs_length]; exact hs) hp hp2
  refine ⟨c, ⟨(writeC l n d.data.toList x true).toArray⟩, ⟨l.minus.toArray⟩, ⟨(Lc.grouped l.second l.grp (sidesC d.data.toList x).1 ++ (if (sidesC d.data.toList x).2.1 = [] then [] else c :: (sidesC d.data.toList x).2.1)).toArray⟩,
    ⟨(Lc.grouped l.second l.grp (sidesC d.data.toList x).1).toArray⟩, ⟨(sidesC d.data.toList x).2.1.toArray⟩, ⟨(sidesC d.data.toList x).1.toArray⟩, hc, ?_⟩
  refine { wr := by rw [ba_of], min := by rw [ba_of], st := ?_, tg := ?_, pl := ?_, gc := ?_, rd := by rw [ba_of]; exact b4, rl := ?_, mkk := ?_, gs := ?_, rs := by rw [size_mk]; exact b6, ws := by rw [size_mk]; exact b5, ms := by rw [size_mk]; exact o1.2.2.2.1, g0 := ?_ }
  · rw [ba_of, ba_of, ba_of, writeC, if_pos ⟨h, b1⟩, hc]
    simp
  · rw [ba_of, ba_of, ba_of, size_mk]
    simp only [List.length_eq_zero_iff]
  · rw [ba_of, ba_of, Lc.plain_grouped l.second l.grp _ hgne o3 b3]
    simp [b2]
  · intro j hj e
    have hm : (⟨(Lc.grouped l.second l.grp (sidesC d.data.toList x).1).toArray⟩ : ByteArray)[j] ∈ Lc.grouped l.second l.grp (sidesC d.data.toList x).1 := by
      have := List.mem_of_getElem? (bs_getElem? _ j hj)
      rwa [ba_of] at this
    rw [e] at hm
    rcases grouped_mem _ _ _ b3 c hm with h1 | h1
    · exact hcg h1
    · rw [hcd] at h1; cases h1
  · intro h0 e
    rcases b7 with h1 | h1
    · rw [size_mk, h1] at h0; simp at h0
    · apply h1
      have h2 := bs_getElem? (⟨(sidesC d.data.toList x).2.1.toArray⟩ : ByteArray) _ (show (⟨(sidesC d.data.toList x).2.1.toArray⟩ : ByteArray).size - 1 < _ by omega)
      rw [ba_of, e, size_mk] at h2
      exact h2
  · rw [ba_of, ba_of, size_mk]; exact b8
  · rw [size_mk]
    have h1 := out_len l.second l.grp (sidesC d.data.toList x).1 0 (sidesC d.data.toList x).1.length
    change (Lc.grouped l.second l.grp (sidesC d.data.toList x).1).length ≤ _ at h1
    have h2 : (sidesC d.data.toList x).1.length * (l.grp.length + 1) ≤ 400 * 11 := Nat.mul_le_mul b5 (by have := o1.2.2.1; omega)
    omega
  · rw [size_mk]
    have h1 := Lc.rem_grouped l.second l.grp _ hgne o3 b3
    rcases Nat.eq_zero_or_pos (Lc.grouped l.second l.grp (sidesC d.data.toList x).1).length with h0 | h0
    · rw [List.length_eq_zero_iff.1 h0, Lc.rem_nil _ hgne] at h1
      exact absurd h1.symm b2
    · exact h0
end Go.Proofs.YtcbepojookbceaaDoor
