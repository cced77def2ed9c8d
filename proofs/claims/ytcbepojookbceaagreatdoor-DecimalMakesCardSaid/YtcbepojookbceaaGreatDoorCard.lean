/- What the cards of this seat share: how each kind of parameter reads, before the call and behind it. -/
import Derived.Test.YtcbepojookbceaaGreatDoorBase
import Derived.Test.YtcbepojookbceaaGreatDoorRows
import Derived.OpenShut
import Derived.Lib.SmallJoins
import Derived.ProofKit
namespace Go.Proofs.YtcbepojookbceaaGreatDoor
set_option linter.all false
open Go.ChangeShapes Go.WideShapes Go.ChangeAt Go.RowKit Go.WideMaps Go.WideElems Go.Joins
open Go.ChangeMaps (open_string shut_string)

theorem wf_bounds {n : Int} (h : (Lit.int .i64 n).wf = true) : -9223372036854775808 ≤ n ∧ n ≤ 9223372036854775807 := by
  simp [Lit.wf, IntKind.min, IntKind.max, IntKind.signed, IntKind.bits] at h
  omega
set_option maxRecDepth 100000 in
theorem par_string {H : Type} {enc : TypeId × Value → H} {W : World} {base : Nat} {sp : Nat → Bool} {held : Bool} {r : Reach} {b0 : Nat} {v : Value} {d : DataW H} {p : List MemPlace} (hv : Value.okWide Tryz.prog W r b0 9 v) (h : DataW.Trod enc Tryz.prog W base sp held 9 v d p) :
    ∃ s : ByteArray, v = .string s ∧ p = [] ∧ s.size ≤ 9223372036854775807 ∧ ∀ (W' : World) (b' : Nat) (sp' : Nat → Bool) (h' : Bool), DataW.Trod enc Tryz.prog W' b' sp' h' 9 v d [] := by
  obtain ⟨s, rfl, rfl, rfl, hs⟩ := open_string Tryz.underlying9 hv h
  exact ⟨s, rfl, rfl, by unfold maxLen at hs; exact hs, fun _ _ _ _ => shut_string Tryz.underlying9 hs⟩
set_option maxRecDepth 100000 in
theorem par_int {H : Type} {enc : TypeId × Value → H} {W : World} {base : Nat} {sp : Nat → Bool} {held : Bool} {r : Reach} {b0 : Nat} {v : Value} {d : DataW H} {p : List MemPlace} (hv : Value.okWide Tryz.prog W r b0 3 v) (h : DataW.Trod enc Tryz.prog W base sp held 3 v d p) :
    ∃ n : Int, v = .int .i64 n ∧ p = [] ∧ (-9223372036854775808 ≤ n ∧ n ≤ 9223372036854775807) ∧ ∀ (W' : World) (b' : Nat) (sp' : Nat → Bool) (h' : Bool), DataW.Trod enc Tryz.prog W' b' sp' h' 3 v d [] := by
  obtain ⟨n, rfl, rfl, rfl, hw⟩ := open_int Tryz.underlying3 hv h
  exact ⟨n, rfl, rfl, wf_bounds hw, fun _ _ _ _ => shut_int Tryz.underlying3 hw⟩
set_option maxRecDepth 100000 in
theorem par_bool {H : Type} {enc : TypeId × Value → H} {W : World} {base : Nat} {sp : Nat → Bool} {held : Bool} {r : Reach} {b0 : Nat} {v : Value} {d : DataW H} {p : List MemPlace} (hv : Value.okWide Tryz.prog W r b0 4 v) (h : DataW.Trod enc Tryz.prog W base sp held 4 v d p) :
    ∃ b : Bool, v = .bool b ∧ p = [] ∧ ∀ (W' : World) (b' : Nat) (sp' : Nat → Bool) (h' : Bool), DataW.Trod enc Tryz.prog W' b' sp' h' 4 v d [] := by
  obtain ⟨b, rfl⟩ := okWide_bool Tryz.underlying4 hv
  obtain ⟨fuel, hf⟩ := h
  obtain ⟨b2, hb, hx⟩ := DataW.trod_bool Tryz.underlying4 hf
  obtain rfl : b = b2 := by simpa [Value.cells] using hb
  simp only [Prod.mk.injEq] at hx
  obtain ⟨rfl, rfl⟩ := hx
  exact ⟨b, rfl, rfl, fun _ _ _ _ => shut_bool Tryz.underlying4 b⟩
set_option maxRecDepth 100000 in
theorem par_dec {H : Type} {enc : TypeId × Value → H} {W : World} {base : Nat} {sp : Nat → Bool} {held : Bool} {r : Reach} {b0 : Nat} {v : Value} {d : DataW H} {p : List MemPlace} (hv : Value.okWide Tryz.prog W r b0 23 v) (h : DataW.Trod enc Tryz.prog W base sp held 23 v d p) :
    ∃ (n : Bool) (s : ByteArray) (x : Int), v = .agg #[.bool n, .string s, .int .i64 x] ∧ p = [] ∧ s.size ≤ 9223372036854775807 ∧ (-9223372036854775808 ≤ x ∧ x ≤ 9223372036854775807) ∧ ∀ (W' : World) (b' : Nat) (sp' : Nat → Bool) (h' : Bool), DataW.Trod enc Tryz.prog W' b' sp' h' 23 v d [] := by
  obtain ⟨v0, v1, v2, y0, y1, y2, m, rfl, rfl, rfl, h0, h1, h2⟩ := open_agg3 Tryz.underlying23 (by kernel_rfl) (by kernel_rfl) hv h
  obtain ⟨n, e0, rfl⟩ := DataW.trod_bool Tryz.underlying4 h0
  obtain ⟨s, e1, rfl, hs⟩ := DataW.trod_string Tryz.underlying9 h1
  obtain ⟨x, e2, rfl, hx⟩ := DataW.trod_int Tryz.underlying3 h2
  obtain rfl : v0 = .bool n := by simpa using e0
  obtain rfl : v1 = .string s := by simpa using e1
  obtain rfl : v2 = .int .i64 x := by simpa using e2
  refine ⟨n, s, x, rfl, rfl, by unfold maxLen at hs; exact hs, wf_bounds hx, fun W' b' sp' h' => ?_⟩
  exact shut_agg3 Tryz.underlying23 (by kernel_rfl) (by kernel_rfl) (field_of_Trod (shut_bool Tryz.underlying4 n) rfl) (field_of_Trod (shut_string Tryz.underlying9 hs) rfl) (field_of_Trod (shut_int Tryz.underlying3 hx) rfl)
end Go.Proofs.YtcbepojookbceaaGreatDoor
