/- What the cards of chapter 15 share: how each kind of parameter reads, before the call and behind it. -/
import Derived.Test.YtbbeeglfgnabmaaDoorBase
import Derived.Test.YtbbeeglfgnabmaaDoorRows
import Derived.OpenShut
import Derived.Lib.SmallJoins
import Derived.ProofKit
namespace Go.Proofs.YtbbeeglfgnabmaaDoor
set_option linter.all false
open Go.ChangeShapes Go.WideShapes Go.ChangeAt Go.RowKit Go.WideMaps Go.WideElems Go.Joins
open Go.ChangeMaps (open_string shut_string)

theorem wf_bounds {n : Int} (h : (Lit.int .i64 n).wf = true) : -9223372036854775808 ≤ n ∧ n ≤ 9223372036854775807 := by
  simp [Lit.wf, IntKind.min, IntKind.max, IntKind.signed, IntKind.bits] at h
  omega
set_option maxRecDepth 100000 in
theorem par_string {H : Type} {enc : TypeId × Value → H} {W : World} {base : Nat} {sp : Nat → Bool} {held : Bool} {r : Reach} {b0 : Nat} {v : Value} {d : DataW H} {p : List MemPlace} (hv : Value.okWide Tryd.prog W r b0 9 v) (h : DataW.Trod enc Tryd.prog W base sp held 9 v d p) :
    ∃ s : ByteArray, v = .string s ∧ p = [] ∧ s.size ≤ 9223372036854775807 ∧ ∀ (W' : World) (b' : Nat) (sp' : Nat → Bool) (h' : Bool), DataW.Trod enc Tryd.prog W' b' sp' h' 9 v d [] := by
  obtain ⟨s, rfl, rfl, rfl, hs⟩ := open_string Tryd.underlying9 hv h
  exact ⟨s, rfl, rfl, by unfold maxLen at hs; exact hs, fun _ _ _ _ => shut_string Tryd.underlying9 hs⟩
set_option maxRecDepth 100000 in
theorem par_int {H : Type} {enc : TypeId × Value → H} {W : World} {base : Nat} {sp : Nat → Bool} {held : Bool} {r : Reach} {b0 : Nat} {v : Value} {d : DataW H} {p : List MemPlace} (hv : Value.okWide Tryd.prog W r b0 3 v) (h : DataW.Trod enc Tryd.prog W base sp held 3 v d p) :
    ∃ n : Int, v = .int .i64 n ∧ p = [] ∧ (-9223372036854775808 ≤ n ∧ n ≤ 9223372036854775807) ∧ ∀ (W' : World) (b' : Nat) (sp' : Nat → Bool) (h' : Bool), DataW.Trod enc Tryd.prog W' b' sp' h' 3 v d [] := by
  obtain ⟨n, rfl, rfl, rfl, hw⟩ := open_int Tryd.underlying3 hv h
  exact ⟨n, rfl, rfl, wf_bounds hw, fun _ _ _ _ => shut_int Tryd.underlying3 hw⟩
set_option maxRecDepth 100000 in
theorem par_bool {H : Type} {enc : TypeId × Value → H} {W : World} {base : Nat} {sp : Nat → Bool} {held : Bool} {r : Reach} {b0 : Nat} {v : Value} {d : DataW H} {p : List MemPlace} (hv : Value.okWide Tryd.prog W r b0 4 v) (h : DataW.Trod enc Tryd.prog W base sp held 4 v d p) :
    ∃ b : Bool, v = .bool b ∧ p = [] ∧ ∀ (W' : World) (b' : Nat) (sp' : Nat → Bool) (h' : Bool), DataW.Trod enc Tryd.prog W' b' sp' h' 4 v d [] := by
  obtain ⟨b, rfl⟩ := okWide_bool Tryd.underlying4 hv
  obtain ⟨fuel, hf⟩ := h
  obtain ⟨b2, hb, hx⟩ := DataW.trod_bool Tryd.underlying4 hf
  obtain rfl : b = b2 := by simpa [Value.cells] using hb
  simp only [Prod.mk.injEq] at hx
  obtain ⟨rfl, rfl⟩ := hx
  exact ⟨b, rfl, rfl, fun _ _ _ _ => shut_bool Tryd.underlying4 b⟩
set_option maxRecDepth 100000 in
theorem par_ref {H : Type} {enc : TypeId × Value → H} {W : World} {base : Nat} {sp : Nat → Bool} {held : Bool} {r : Reach} {b0 : Nat} {v : Value} {d : DataW H} {p : List MemPlace} (hv : Value.okWide Tryd.prog W r b0 23 v) (h : DataW.Trod enc Tryd.prog W base sp held 23 v d p) :
    ∃ (c r : Int) (a b : Bool), v = .agg #[.int .i64 c, .int .i64 r, .bool a, .bool b] ∧ p = [] ∧ (-9223372036854775808 ≤ c ∧ c ≤ 9223372036854775807) ∧ (-9223372036854775808 ≤ r ∧ r ≤ 9223372036854775807) ∧ ∀ (W' : World) (b' : Nat) (sp' : Nat → Bool) (h' : Bool), DataW.Trod enc Tryd.prog W' b' sp' h' 23 v d [] := by
  obtain ⟨v0, v1, v2, v3, y0, y1, y2, y3, m, rfl, rfl, rfl, h0, h1, h2, h3⟩ := open_agg4 Tryd.underlying23 (by kernel_rfl) (by kernel_rfl) hv h
  obtain ⟨c, e0, rfl, hc⟩ := DataW.trod_int Tryd.underlying3 h0
  obtain ⟨x, e1, rfl, hx⟩ := DataW.trod_int Tryd.underlying3 h1
  obtain ⟨a, e2, rfl⟩ := DataW.trod_bool Tryd.underlying4 h2
  obtain ⟨b, e3, rfl⟩ := DataW.trod_bool Tryd.underlying4 h3
  obtain rfl : v0 = .int .i64 c := by simpa using e0
  obtain rfl : v1 = .int .i64 x := by simpa using e1
  obtain rfl : v2 = .bool a := by simpa using e2
  obtain rfl : v3 = .bool b := by simpa using e3
  refine ⟨c, x, a, b, rfl, rfl, wf_bounds hc, wf_bounds hx, fun W' b' sp' h' => ?_⟩
  exact shut_agg4 Tryd.underlying23 (by kernel_rfl) (by kernel_rfl) (field_of_Trod (shut_int Tryd.underlying3 hc) rfl) (field_of_Trod (shut_int Tryd.underlying3 hx) rfl) (field_of_Trod (shut_bool Tryd.underlying4 a) rfl) (field_of_Trod (shut_bool Tryd.underlying4 b) rfl)
end Go.Proofs.YtbbeeglfgnabmaaDoor
