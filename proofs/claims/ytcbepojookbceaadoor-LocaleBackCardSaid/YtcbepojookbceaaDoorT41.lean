import Derived.Test.YtcbepojookbceaaDoorT40d
namespace Go.Proofs.YtcbepojookbceaaDoor
set_option linter.all false
open Go.RowKit

/-- What Find answers for no name of the six. -/
def LZ : Value := .agg #[.string ⟨#[]⟩, .string ⟨#[]⟩, .string ⟨#[]⟩, .string ⟨#[]⟩, .string ⟨#[]⟩, .string ⟨#[]⟩, .string ⟨#[]⟩, .bool false, .bool false, .slice none 0 0]

set_option maxRecDepth 100000 in
set_option maxHeartbeats 2000000 in
theorem lo_find_no (s : ByteArray) (w : World) (hv : Vars w) (m0 : (!([99, 104] : List UInt8) == s.toList) = true) (m1 : (!([100, 101] : List UInt8) == s.toList) = true) (m2 : (!([101, 110] : List UInt8) == s.toList) = true)
    (m3 : (!([102, 114] : List UInt8) == s.toList) = true) (m4 : (!([104, 105] : List UInt8) == s.toList) = true) (m5 : (!([115, 118] : List UInt8) == s.toList) = true) :
    Calls Tryd.prog 28 #[.string s] w (RetB (.tuple #[LZ, .int .i64 8]) w) := by
  obtain ⟨g1, g2, h3, h4⟩ := hv
  obtain ⟨n0, n1, n2, n3, n4, n5⟩ := h3
  clear h4 g2
  go_enter Tryd.func28, Tryd.ntmps28
  go_wp2_with fail
  go_loop [4, 6, 8] (fun _ i _ => ∃ k : Nat, k ≤ 6 ∧ i = .int .i64 k) (fun _ i _ => 6 - (intOf i).toNat)
  case atStart => exact ⟨0, by omega, rfl⟩
  case round =>
    obtain ⟨k, hk, rfl⟩ := hrel
    have hcase : k = 0 ∨ k = 1 ∨ k = 2 ∨ k = 3 ∨ k = 4 ∨ k = 5 ∨ k = 6 := by omega
    clear hk
    rcases hcase with rfl | rfl | rfl | rfl | rfl | rfl | rfl
    · go_wp2_with fail
      go_round
      case rel => exact ⟨1, by omega, by rfl⟩
      case measure => simp [intOf]
    · go_wp2_with fail
      go_round
      case rel => exact ⟨2, by omega, by rfl⟩
      case measure => simp [intOf]
    · go_wp2_with fail
      go_round
      case rel => exact ⟨3, by omega, by rfl⟩
      case measure => simp [intOf]
    · go_wp2_with fail
      go_round
      case rel => exact ⟨4, by omega, by rfl⟩
      case measure => simp [intOf]
    · go_wp2_with fail
      go_round
      case rel => exact ⟨5, by omega, by rfl⟩
      case measure => simp [intOf]
    · go_wp2_with fail
      go_round
      case rel => exact ⟨6, by omega, by rfl⟩
      case measure => simp [intOf]
    · go_wp2_with fail
      (refine bodyPost_ret (v := .tuple #[LZ, .int .i64 8]) (by (simp [results, Tryd.results28, go_sem, LZ]; done)) rfl (RetB.of rfl (by (repeat (first | exact Below.refl _ _ | assumption | refine Below.setCell ?_ (by first | omega | (simp <;> omega)) _ | refine Below.alloc ?_ (by first | omega | (simp <;> omega)) _ | refine Below.drew ?_ | refine below_drewN' ?_ _)))))
end Go.Proofs.YtcbepojookbceaaDoor
