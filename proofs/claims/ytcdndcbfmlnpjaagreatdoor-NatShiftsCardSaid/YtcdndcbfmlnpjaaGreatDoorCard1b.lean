/- What the cards of chapter 1 share, more: a slice, and that nil has no room. -/
import Derived.Test.YtcdndcbfmlnpjaaGreatDoorCard1
namespace Go.Proofs.YtcdndcbfmlnpjaaGreatDoor
set_option linter.all false
open Go.ChangeShapes Go.WideShapes Go.ChangeAt Go.RowKit Go.WideMaps Go.WideElems Go.Joins
open Go.ChangeMaps (open_string shut_string)

set_option maxRecDepth 100000 in
theorem par_u32n {H : Type} {enc : TypeId × Value → H} {W : World} {r : Reach} {b0 : Nat} {v : Value} {d : DataW H} {p : List MemPlace} (hv : Value.okWide Tryz.prog W r b0 22 v) (h : DataW.Trod enc Tryz.prog W 0 (fun _ => true) true 22 v d p) :
    ∃ (a : Option Addr) (c : Nat) (l : List Nat), v = .slice a l.length c ∧ l.length ≤ 9223372036854775807 ∧ Sl W a c l ∧ (a = none → c = 0) := by
  obtain ⟨a0, len, cap, rfl⟩ := okWide_slice Tryz.underlying22 hv
  obtain ⟨fuel, hf⟩ := h
  rcases open_ints Tryz.underlying22 Tryz.underlying63 (show Tryz.prog.cellsOf 63 = 1 by kernel_rfl) hf with ⟨hcs, hx⟩ | ⟨a, len', cap', zs, hcs, _, hl, hm, hz, hx, hcell, hwz⟩
  · simp only [Value.cells, List.cons.injEq, Value.slice.injEq, and_true] at hcs
    obtain ⟨rfl, rfl, rfl⟩ := hcs
    exact ⟨none, 0, [], rfl, Nat.zero_le _, Sl.nil _ _ _, fun _ => rfl⟩
  · simp only [Value.cells, List.cons.injEq, Value.slice.injEq, and_true] at hcs
    obtain ⟨rfl, rfl, rfl⟩ := hcs
    simp only [if_true] at hz
    unfold maxLen at hm
    have hwf : ∀ k, k < zs.length → 0 ≤ zs.getD k 0 ∧ zs.getD k 0 < 4294967296 := fun k hk => wf_u32 (hwz _ (by
      rw [show zs.getD k 0 = zs[k] by simp [List.getD, hk]]; exact List.getElem_mem hk))
    have hlen : ((zs.take len).map Int.toNat).length = len := by simp; omega
    refine ⟨some a, cap, (zs.take len).map Int.toNat, by rw [hlen], by rw [hlen]; omega, ⟨fun h0 => ?_, by rw [hlen]; exact hl, fun x hx => ?_⟩, fun e => by cases e⟩
    · rw [hlen] at h0
      obtain ⟨b, off, rfl, hc⟩ := ints_at hcell (by omega)
      have hc0 := hc 0 (by omega)
      refine ⟨b, off, rfl, World.block_lt_of_cell? _ _ hc0, fun k hk => ?_⟩
      rw [hlen] at hk
      rw [hc k (by omega)]
      have h2 := hwf k (by omega)
      congr 2
      simp only [List.getElem_map, List.getElem_take]
      rw [show zs.getD k 0 = zs[k]'(by omega) by simp [List.getD, show k < zs.length by omega]] at h2 ⊢
      omega
    · obtain ⟨z, hz2, rfl⟩ := List.mem_map.1 hx
      have := wf_u32 (hwz z (List.mem_of_mem_take hz2))
      show z.toNat < 4294967296
      omega
end Go.Proofs.YtcdndcbfmlnpjaaGreatDoor
