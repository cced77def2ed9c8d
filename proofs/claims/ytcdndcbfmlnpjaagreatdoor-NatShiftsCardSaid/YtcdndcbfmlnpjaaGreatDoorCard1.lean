/- What the cards of chapter 1 share: how each kind of parameter reads, before the call and behind it. -/
import Derived.Test.YtcdndcbfmlnpjaaGreatDoorBase
import Derived.Test.YtcdndcbfmlnpjaaGreatDoorRows
import Derived.OpenShut
import Derived.Lib.SmallJoins
import Derived.ProofKit
import Derived.Carry
import Derived.ChangeSlices
import Derived.Test.YtcdndcbfmlnpjaaGreatDoorSl
namespace Go.Proofs.YtcdndcbfmlnpjaaGreatDoor
set_option linter.all false
open Go.ChangeShapes Go.WideShapes Go.ChangeAt Go.RowKit Go.WideMaps Go.WideElems Go.Joins
open Go.ChangeMaps (open_string shut_string)

theorem wf_bounds {n : Int} (h : (Lit.int .i64 n).wf = true) : -9223372036854775808 ≤ n ∧ n ≤ 9223372036854775807 := by
  simp [Lit.wf, IntKind.min, IntKind.max, IntKind.signed, IntKind.bits] at h
  omega
set_option maxRecDepth 100000 in
theorem par_string {H : Type} {enc : TypeId × Value → H} {W : World} {base : Nat} {sp : Nat → Bool} {held : Bool} {r : Reach} {b0 : Nat} {v : Value} {d : DataW H} {p : List MemPlace} (hv : Value.okWide Tryz.prog W r b0 9 v) (h : DataW.Trod enc Tryz.prog W base sp held 9 v d p) :
    ∃ s : ByteArray, v = .string s ∧ p = [] ∧ s.size ≤ 9223372036854775807 ∧ ∀ (W' : World) (b' : Nat) (sp' : Nat → Bool) (h' : Bool), DataW.Trod enc Tryz.prog W' b' sp' h' 9 v d [] := by
  obtain ⟨s, rfl, rfl, rfl, hs⟩ := open_string Tryz.underlying9 hv h
  exact ⟨s, rfl, rfl, by unfold maxLen at hs; exact hs, fun _ _ _ _ => shut_string Tryz.underlying9 hs⟩
set_option maxRecDepth 100000 in
theorem par_int {H : Type} {enc : TypeId × Value → H} {W : World} {base : Nat} {sp : Nat → Bool} {held : Bool} {r : Reach} {b0 : Nat} {v : Value} {d : DataW H} {p : List MemPlace} (hv : Value.okWide Tryz.prog W r b0 3 v) (h : DataW.Trod enc Tryz.prog W base sp held 3 v d p) :
    ∃ n : Int, v = .int .i64 n ∧ p = [] ∧ (-9223372036854775808 ≤ n ∧ n ≤ 9223372036854775807) ∧ ∀ (W' : World) (b' : Nat) (sp' : Nat → Bool) (h' : Bool), DataW.Trod enc Tryz.prog W' b' sp' h' 3 v d [] := by
  obtain ⟨n, rfl, rfl, rfl, hw⟩ := open_int Tryz.underlying3 hv h
  exact ⟨n, rfl, rfl, wf_bounds hw, fun _ _ _ _ => shut_int Tryz.underlying3 hw⟩
set_option maxRecDepth 100000 in
theorem par_bool {H : Type} {enc : TypeId × Value → H} {W : World} {base : Nat} {sp : Nat → Bool} {held : Bool} {r : Reach} {b0 : Nat} {v : Value} {d : DataW H} {p : List MemPlace} (hv : Value.okWide Tryz.prog W r b0 4 v) (h : DataW.Trod enc Tryz.prog W base sp held 4 v d p) :
    ∃ b : Bool, v = .bool b ∧ p = [] ∧ ∀ (W' : World) (b' : Nat) (sp' : Nat → Bool) (h' : Bool), DataW.Trod enc Tryz.prog W' b' sp' h' 4 v d [] := by
  obtain ⟨b, rfl⟩ := okWide_bool Tryz.underlying4 hv
  obtain ⟨fuel, hf⟩ := h
  obtain ⟨b2, hb, hx⟩ := DataW.trod_bool Tryz.underlying4 hf
  obtain rfl : b = b2 := by simpa [Value.cells] using hb
  simp only [Prod.mk.injEq] at hx
  obtain ⟨rfl, rfl⟩ := hx
  exact ⟨b, rfl, rfl, fun _ _ _ _ => shut_bool Tryz.underlying4 b⟩
theorem laidOut : laidOutB Tryz.prog = true := by kernel_rfl
theorem wf_u32 {n : Int} (h : (Lit.int .u32 n).wf = true) : 0 ≤ n ∧ n < 4294967296 := by
  simp [Lit.wf, IntKind.min, IntKind.max, IntKind.signed, IntKind.bits] at h
  omega
theorem wf_u64 {n : Int} (h : (Lit.int .u64 n).wf = true) : 0 ≤ n ∧ n < 18446744073709551616 := by
  simp [Lit.wf, IntKind.min, IntKind.max, IntKind.signed, IntKind.bits] at h
  omega
set_option maxRecDepth 100000 in
theorem par_u64 {H : Type} {enc : TypeId × Value → H} {W : World} {base : Nat} {sp : Nat → Bool} {held : Bool} {r : Reach} {b0 : Nat} {v : Value} {d : DataW H} {p : List MemPlace} (hv : Value.okWide Tryz.prog W r b0 23 v) (h : DataW.Trod enc Tryz.prog W base sp held 23 v d p) :
    ∃ n : Nat, v = .int .u64 n ∧ p = [] ∧ n < 18446744073709551616 := by
  obtain ⟨n, rfl, rfl, rfl, hw⟩ := open_int Tryz.underlying23 hv h
  have hw' := wf_u64 hw
  exact ⟨n.toNat, by rw [Int.toNat_of_nonneg hw'.1], rfl, by omega⟩
set_option maxRecDepth 100000 in
theorem par_u32s {H : Type} {enc : TypeId × Value → H} {W : World} {r : Reach} {b0 : Nat} {v : Value} {d : DataW H} {p : List MemPlace} (hv : Value.okWide Tryz.prog W r b0 22 v) (h : DataW.Trod enc Tryz.prog W 0 (fun _ => true) true 22 v d p) :
    ∃ (a : Option Addr) (c : Nat) (l : List Nat), v = .slice a l.length c ∧ l.length ≤ 9223372036854775807 ∧ Sl W a c l := by
  obtain ⟨a0, len, cap, rfl⟩ := okWide_slice Tryz.underlying22 hv
  obtain ⟨fuel, hf⟩ := h
  rcases open_ints Tryz.underlying22 Tryz.underlying63 (show Tryz.prog.cellsOf 63 = 1 by kernel_rfl) hf with ⟨hcs, hx⟩ | ⟨a, len', cap', zs, hcs, _, hl, hm, hz, hx, hcell, hwz⟩
  · simp only [Value.cells, List.cons.injEq, Value.slice.injEq, and_true] at hcs
    obtain ⟨rfl, rfl, rfl⟩ := hcs
    exact ⟨none, 0, [], rfl, Nat.zero_le _, Sl.nil _ _ _⟩
  · simp only [Value.cells, List.cons.injEq, Value.slice.injEq, and_true] at hcs
    obtain ⟨rfl, rfl, rfl⟩ := hcs
    simp only [if_true] at hz
    unfold maxLen at hm
    have hwf : ∀ k, k < zs.length → 0 ≤ zs.getD k 0 ∧ zs.getD k 0 < 4294967296 := fun k hk => wf_u32 (hwz _ (by
      rw [show zs.getD k 0 = zs[k] by simp [List.getD, hk]]; exact List.getElem_mem hk))
    have hlen : ((zs.take len).map Int.toNat).length = len := by simp; omega
    refine ⟨some a, cap, (zs.take len).map Int.toNat, by rw [hlen], by rw [hlen]; omega, ⟨fun h0 => ?_, by rw [hlen]; exact hl, fun x hx => ?_⟩⟩
    · rw [hlen] at h0
      obtain ⟨b, off, rfl, hc⟩ := ints_at hcell (by omega)
      have hc0 := hc 0 (by omega)
      refine ⟨b, off, rfl, World.block_lt_of_cell? _ _ hc0, fun k hk => ?_⟩
      rw [hlen] at hk
      rw [hc k (by omega)]
      have h2 := hwf k (by omega)
      congr 2
      simp only [List.getElem_map, List.getElem_take]
      rw [show zs.getD k 0 = zs[k]'(by omega) by simp [List.getD, show k < zs.length by omega]] at h2 ⊢
      omega
    · obtain ⟨z, hz2, rfl⟩ := List.mem_map.1 hx
      have := wf_u32 (hwz z (List.mem_of_mem_take hz2))
      show z.toNat < 4294967296
      omega
end Go.Proofs.YtcdndcbfmlnpjaaGreatDoor
