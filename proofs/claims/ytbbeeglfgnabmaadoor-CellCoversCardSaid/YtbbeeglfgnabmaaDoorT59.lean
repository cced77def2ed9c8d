/- Whatever the text, the program reads it as a reference, or refuses it. -/
import Derived.Test.YtbbeeglfgnabmaaDoorT58
namespace Go.Proofs.YtbbeeglfgnabmaaDoor
set_option linter.all false
open Go.RowKit

theorem nil_iff (s : ByteArray) : s.data.toList = [] ↔ s.size = 0 := by rw [← List.length_eq_zero_iff, bs_length]

theorem ce_parse_any (s : ByteArray) (w : World) (hs : s.size ≤ 9223372036854775807) : Calls Tryd.prog 10 #[.string s] w (RetB (parseV (Ce.parse s.data.toList)) w) := by
  obtain ⟨A, N, B, C, R, D, ac, ar, h⟩ := pieces s
  have hc := h.cuts hs
  rw [h.parse]
  have bad : parseV (Ce.zero, 3) = .tuple #[.agg #[.int .i64 0, .int .i64 0, .bool false, .bool false], .int .i64 3] := rfl
  by_cases hD : D.size = 0
  · by_cases hN : N.size = 0
    · rw [if_pos (.inr (.inl ((nil_iff N).2 hN))), bad]; exact ce_parse_n s A N B C R D ac ar w hc hD hN
    by_cases hN3 : 3 < N.size
    · rw [if_pos (.inr (.inr (.inl hN3))), bad]; exact ce_parse_n3 s A N B C R D ac ar w hc hD hN3
    by_cases hR : R.size = 0
    · rw [if_pos (.inr (.inr (.inr (.inl ((nil_iff R).2 hR))))), bad]; exact ce_parse_r s A N B C R D ac ar w hc hD (by omega) (by omega) hR
    by_cases hR7 : 7 < R.size
    · rw [if_pos (.inr (.inr (.inr (.inr (.inl hR7))))), bad]; exact ce_parse_r7 s A N B C R D ac ar w hc hD (by omega) (by omega) hR7
    have hRp : 0 < R.size := by omega
    have hg := bs_getElem? R 0 hRp
    by_cases hR0 : (R[0].toNat : Int) = 48
    · have e : R[0] = 48 := UInt8.toNat_inj.1 (by have : (48 : UInt8).toNat = 48 := rfl; omega)
      rw [if_pos (.inr (.inr (.inr (.inr (.inr (by rw [hg, e])))))), bad]; exact ce_parse_r0 s A N B C R D ac ar w hc hD (by omega) (by omega) hRp (by omega) hR0
    · rw [if_neg (by
        rintro (e | e | e | e | e | e)
        · exact e ((nil_iff D).2 hD)
        · exact hN ((nil_iff N).1 e)
        · omega
        · exact hR ((nil_iff R).1 e)
        · omega
        · rw [hg] at e; apply hR0; rw [Option.some.inj e]; rfl)]
      have hNl : N.data.toList.all Ce.isLet = true := by rw [h.n]; exact List.all_takeWhile
      have hRd : Dc.allDig R.data.toList = true := by rw [h.r]; exact List.all_takeWhile
      refine ce_parse_good s A N B C R D ac ar w hc hD (by omega) (by omega) hRp (by omega) hR0 hNl hRd _ _ rfl rfl _ rfl _ (fun hv => ?_) (fun hv => ?_)
      · rw [if_pos hv]; rfl
      · rw [if_neg (by rw [hv]; simp)]; rfl
  · rw [if_pos (.inl fun e => hD ((nil_iff D).1 e)), bad]; exact ce_parse_d s A N B C R D ac ar w hc (by omega)
end Go.Proofs.YtbbeeglfgnabmaaDoor
