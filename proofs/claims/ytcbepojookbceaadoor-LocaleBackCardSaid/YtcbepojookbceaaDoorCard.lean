/- What the cards of this seat share: how each kind of parameter reads, before the call and behind it. -/
import Derived.Test.YtcbepojookbceaaDoorBase
import Derived.Test.YtcbepojookbceaaDoorRows
import Derived.OpenShut
import Derived.Lib.SmallJoins
import Derived.ProofKit
namespace Go.Proofs.YtcbepojookbceaaDoor
set_option linter.all false
open Go.ChangeShapes Go.WideShapes Go.ChangeAt Go.RowKit Go.WideMaps Go.WideElems Go.Joins
open Go.ChangeMaps (open_string shut_string)

theorem wf_bounds {n : Int} (h : (Lit.int .i64 n).wf = true) : -9223372036854775808 ≤ n ∧ n ≤ 9223372036854775807 := by
  simp [Lit.wf, IntKind.min, IntKind.max, IntKind.signed, IntKind.bits] at h
  omega
set_option maxRecDepth 100000 in
theorem par_string {H : Type} {enc : TypeId × Value → H} {W : World} {base : Nat} {sp : Nat → Bool} {held : Bool} {r : Reach} {b0 : Nat} {v : Value} {d : DataW H} {p : List MemPlace} (hv : Value.okWide Tryd.prog W r b0 9 v) (h : DataW.Trod enc Tryd.prog W base sp held 9 v d p) :
    ∃ s : ByteArray, v = .string s ∧ p = [] ∧ s.size ≤ 9223372036854775807 ∧ ∀ (W' : World) (b' : Nat) (sp' : Nat → Bool) (h' : Bool), DataW.Trod enc Tryd.prog W' b' sp' h' 9 v d [] := by
  obtain ⟨s, rfl, rfl, rfl, hs⟩ := open_string Tryd.underlying9 hv h
  exact ⟨s, rfl, rfl, by unfold maxLen at hs; exact hs, fun _ _ _ _ => shut_string Tryd.underlying9 hs⟩
set_option maxRecDepth 100000 in
theorem par_int {H : Type} {enc : TypeId × Value → H} {W : World} {base : Nat} {sp : Nat → Bool} {held : Bool} {r : Reach} {b0 : Nat} {v : Value} {d : DataW H} {p : List MemPlace} (hv : Value.okWide Tryd.prog W r b0 3 v) (h : DataW.Trod enc Tryd.prog W base sp held 3 v d p) :
    ∃ n : Int, v = .int .i64 n ∧ p = [] ∧ (-9223372036854775808 ≤ n ∧ n ≤ 9223372036854775807) ∧ ∀ (W' : World) (b' : Nat) (sp' : Nat → Bool) (h' : Bool), DataW.Trod enc Tryd.prog W' b' sp' h' 3 v d [] := by
  obtain ⟨n, rfl, rfl, rfl, hw⟩ := open_int Tryd.underlying3 hv h
  exact ⟨n, rfl, rfl, wf_bounds hw, fun _ _ _ _ => shut_int Tryd.underlying3 hw⟩
set_option maxRecDepth 100000 in
theorem par_bool {H : Type} {enc : TypeId × Value → H} {W : World} {base : Nat} {sp : Nat → Bool} {held : Bool} {r : Reach} {b0 : Nat} {v : Value} {d : DataW H} {p : List MemPlace} (hv : Value.okWide Tryd.prog W r b0 4 v) (h : DataW.Trod enc Tryd.prog W base sp held 4 v d p) :
    ∃ b : Bool, v = .bool b ∧ p = [] ∧ ∀ (W' : World) (b' : Nat) (sp' : Nat → Bool) (h' : Bool), DataW.Trod enc Tryd.prog W' b' sp' h' 4 v d [] := by
  obtain ⟨b, rfl⟩ := okWide_bool Tryd.underlying4 hv
  obtain ⟨fuel, hf⟩ := h
  obtain ⟨b2, hb, hx⟩ := DataW.trod_bool Tryd.underlying4 hf
  obtain rfl : b = b2 := by simpa [Value.cells] using hb
  simp only [Prod.mk.injEq] at hx
  obtain ⟨rfl, rfl⟩ := hx
  exact ⟨b, rfl, rfl, fun _ _ _ _ => shut_bool Tryd.underlying4 b⟩
set_option maxRecDepth 100000 in
theorem par_dec {H : Type} {enc : TypeId × Value → H} {W : World} {base : Nat} {sp : Nat → Bool} {held : Bool} {r : Reach} {b0 : Nat} {v : Value} {d : DataW H} {p : List MemPlace} (hv : Value.okWide Tryd.prog W r b0 36 v) (h : DataW.Trod enc Tryd.prog W base sp held 36 v d p) :
    ∃ (n : Bool) (s : ByteArray) (x : Int), v = .agg #[.bool n, .string s, .int .i64 x] ∧ p = [] ∧ s.size ≤ 9223372036854775807 ∧ (-9223372036854775808 ≤ x ∧ x ≤ 9223372036854775807) ∧ ∀ (W' : World) (b' : Nat) (sp' : Nat → Bool) (h' : Bool), DataW.Trod enc Tryd.prog W' b' sp' h' 36 v d [] := by
  obtain ⟨v0, v1, v2, y0, y1, y2, m, rfl, rfl, rfl, h0, h1, h2⟩ := open_agg3 Tryd.underlying36 (by kernel_rfl) (by kernel_rfl) hv h
  obtain ⟨n, e0, rfl⟩ := DataW.trod_bool Tryd.underlying4 h0
  obtain ⟨s, e1, rfl, hs⟩ := DataW.trod_string Tryd.underlying9 h1
  obtain ⟨x, e2, rfl, hx⟩ := DataW.trod_int Tryd.underlying3 h2
  obtain rfl : v0 = .bool n := by simpa using e0
  obtain rfl : v1 = .string s := by simpa using e1
  obtain rfl : v2 = .int .i64 x := by simpa using e2
  refine ⟨n, s, x, rfl, rfl, by unfold maxLen at hs; exact hs, wf_bounds hx, fun W' b' sp' h' => ?_⟩
  exact shut_agg3 Tryd.underlying36 (by kernel_rfl) (by kernel_rfl) (field_of_Trod (shut_bool Tryd.underlying4 n) rfl) (field_of_Trod (shut_string Tryd.underlying9 hs) rfl) (field_of_Trod (shut_int Tryd.underlying3 hx) rfl)
end Go.Proofs.YtcbepojookbceaaDoor
