/- References to cells are compared. -/
import Derived.Test.YtbbeeglfgnabmaaDoorBase
import Derived.Laws.StructEq
namespace Go.Proofs.YtbbeeglfgnabmaaDoor
set_option linter.all false
open Go.RowKit

def refEq (p0 p1 : Int) (p2 p3 : Bool) (q0 q1 : Int) (q2 q3 : Bool) : Bool := p0 == q0 && (p1 == q1 && (p2 == q2 && p3 == q3))
theorem refEq_yes (p0 p1 : Int) (p2 p3 : Bool) : refEq p0 p1 p2 p3 p0 p1 p2 p3 = true := by simp [refEq]
theorem refEq_no {p0 p1 : Int} {p2 p3 : Bool} {q0 q1 : Int} {q2 q3 : Bool} (h : ¬ (p0 = q0 ∧ p1 = q1 ∧ p2 = q2 ∧ p3 = q3)) : refEq p0 p1 p2 p3 q0 q1 q2 q3 = false := by
  unfold refEq
  rw [Bool.eq_false_iff]
  simpa using h

theorem ref_struct : Tryd.prog.underlying 23 = some (.struct (Tryd.prog.fieldsOf 23)) := by kernel_rfl
theorem ref_held : Tryd.prog.stoodInHeld 23 = false := by kernel_rfl
theorem ref_guardT : Tryd.prog.eqGuardType Tryd.prog.depth 23 = false := by kernel_rfl
theorem ref_fields : (Tryd.prog.fieldsOf 23).toList.map (fun f => (f.type, f.offset, f.name == "_")) = [(3, 0, false), (3, 1, false), (4, 2, false), (4, 3, false)] := by kernel_rfl
theorem ref_guard (op : BinOp) (x y : Operand) (xs ys : Array Value) (w : World) : (eqGuard op 23 x y (.agg xs) (.agg ys)).run Tryd.prog w = .ok () w := run_eqGuard_agg _ _ _ _ _ _ _ ref_guardT

theorem ref_equalIn (p0 p1 : Int) (p2 p3 : Bool) (q0 q1 : Int) (q2 q3 : Bool) (w : World) :
    (Op.equalIn 10000 23 (.agg #[.int .i64 p0, .int .i64 p1, .bool p2, .bool p3]) (.agg #[.int .i64 q0, .int .i64 q1, .bool q2, .bool q3])).run Tryd.prog w = .ok (refEq p0 p1 p2 p3 q0 q1 q2 q3) w := by
  rw [run_equalIn_agg _ 9999 _ _ _ ref_struct ref_held]
  have hf := ref_fields
  generalize (Tryd.prog.fieldsOf 23).toList = fs at hf
  have hl := congrArg List.length hf
  rw [List.length_map] at hl
  obtain ⟨f0, f1, f2, f3, rfl⟩ : ∃ f0 f1 f2 f3, fs = [f0, f1, f2, f3] := by
    match fs, hl with
    | [a, b, c, d], _ => exact ⟨a, b, c, d, rfl⟩
  simp only [List.map_cons, List.map_nil, List.cons.injEq, Prod.mk.injEq, and_true] at hf
  obtain ⟨⟨t0, o0, n0⟩, ⟨t1, o1, n1⟩, ⟨t2, o2, n2⟩, ⟨t3, o3, n3⟩⟩ := hf
  have m0 := beq_eq_false_iff_ne.1 n0
  have m1 := beq_eq_false_iff_ne.1 n1
  have m2 := beq_eq_false_iff_ne.1 n2
  have m3 := beq_eq_false_iff_ne.1 n3
  simp [Op.eqFields, refEq, go_sem, t0, t1, t2, t3, o0, o1, o2, o3, m0, m1, m2, m3, Tryd.underlying3, Tryd.underlying4]
  by_cases h0 : p0 = q0 <;> by_cases h1 : p1 = q1 <;> by_cases h2 : p2 = q2 <;> by_cases h3 : p3 = q3 <;> simp [h0, h1, h2, h3]

theorem ref_neq (p0 p1 : Int) (p2 p3 : Bool) (q0 q1 : Int) (q2 q3 : Bool) (w : World) :
    (binOp .neq 23 (.agg #[.int .i64 p0, .int .i64 p1, .bool p2, .bool p3]) (.agg #[.int .i64 q0, .int .i64 q1, .bool q2, .bool q3])).run Tryd.prog w = .ok (.bool (!(refEq p0 p1 p2 p3 q0 q1 q2 q3))) w := by
  rw [run_neq_struct, ref_equalIn]; rfl
theorem ref_eql (p0 p1 : Int) (p2 p3 : Bool) (q0 q1 : Int) (q2 q3 : Bool) (w : World) :
    (binOp .eql 23 (.agg #[.int .i64 p0, .int .i64 p1, .bool p2, .bool p3]) (.agg #[.int .i64 q0, .int .i64 q1, .bool q2, .bool q3])).run Tryd.prog w = .ok (.bool (refEq p0 p1 p2 p3 q0 q1 q2 q3)) w := by
  rw [run_eql_struct, ref_equalIn]; rfl
end Go.Proofs.YtbbeeglfgnabmaaDoor
