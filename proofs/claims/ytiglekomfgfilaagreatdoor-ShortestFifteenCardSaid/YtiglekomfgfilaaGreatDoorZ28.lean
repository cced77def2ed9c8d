/- The Writer in the program: names, New, says. -/
import Derived.Test.YtiglekomfgfilaaGreatDoorZ26
import Derived.Test.YtiglekomfgfilaaGreatDoorZ27
import Derived.Test.YtiglekomfgfilaaGreatDoorZ1
import Derived.Laws.StructEq
import Derived.Test.YtiglekomfgfilaaGreatDoorZ20
namespace Go.Proofs.YtiglekomfgfilaaGreatDoor
set_option maxRecDepth 100000
set_option maxHeartbeats 4000000
set_option linter.all false
open Go.RowKit
structure Wtr (w : World) (v b : Nat) : Prop where
  cell : w.cell? ⟨v, 0, none⟩ = some (.pointer (some ⟨b, 0, none⟩))
  lt : v < w.heap.size
  ne : v ≠ b
  rd : Rdr w b
theorem Wtr.on {w w' : World} {v b : Nat} (h : Wtr w v b) (hb : Below w.heap.size w w') : Wtr w' v b :=
  ⟨(hb.cell (p := ⟨v, 0, none⟩) h.lt).trans h.cell, Nat.lt_of_lt_of_le h.lt hb.size, h.ne, h.rd.on hb⟩
theorem Wtr.onl {w w' : World} {v b : Nat} (h : Wtr w v b) (ho : Onl b w w') (hr : Rdr w' b) : Wtr w' v b :=
  ⟨(ho.cell h.ne h.lt).trans h.cell, Nat.lt_of_lt_of_le h.lt ho.size, h.ne, hr⟩
theorem bs_mk (l : Dc.Bs) : (⟨l.toArray⟩ : ByteArray).data.toList = l := rfl
theorem sh_name_any (x : Nat) (w : World) (hx : x < 18446744073709551616) : Calls Tryz.prog 39 #[.int .u64 x] w (Ret0 (.string ⟨(Fl.wname x).toArray⟩) w) := by
  have hk := fun w => fl_kind_any x hx w
  obtain ⟨K, hK⟩ : ∃ K, K = Fl.kind x := ⟨_, rfl⟩
  rw [← hK] at hk
  have HK := Lib.hid hk
  by_cases h4 : K = 4
  · have hv : Fl.wname x = Fl.nanS := by rw [Fl.wname, ← hK, if_pos h4]
    rw [hv]
    have d1 : ((K : Int) == 4) = true := by rw [h4]; rfl
    clear hk hK h4 hv
    go_enter Tryz.func39, Tryz.ntmps39
    go_wp2_with (go_at_call 62; (with_reducible refine (HK.out _).mono ?_); rintro e w' ⟨rfl, rfl⟩)
    go_ret
    exact Ret0.of rfl
  · have d1 : ((K : Int) == 4) = false := by simp only [beq_eq_false_iff_ne, ne_eq]; omega
    by_cases hi : x = 9218868437227405312
    · have hv : Fl.wname x = Fl.infS := by rw [Fl.wname, ← hK, if_neg h4, if_pos hi]
      rw [hv]
      have d2 : ((x : Int) == 9218868437227405312) = true := by rw [hi]; rfl
      clear hk hK h4 hv hi
      go_enter Tryz.func39, Tryz.ntmps39
      go_wp2_with (go_at_call 62; (with_reducible refine (HK.out _).mono ?_); rintro e w' ⟨rfl, rfl⟩)
      go_ret
      exact Ret0.of rfl
    · have d2 : ((x : Int) == 9218868437227405312) = false := by simp only [beq_eq_false_iff_ne, ne_eq]; omega
      by_cases hj : x = 18442240474082181120
      · have hv : Fl.wname x = Fl.ninfS := by rw [Fl.wname, ← hK, if_neg h4, if_neg hi, if_pos hj]
        rw [hv]
        have d3 : ((x : Int) == 18442240474082181120) = true := by rw [hj]; rfl
        clear hk hK h4 hv hi hj
        go_enter Tryz.func39, Tryz.ntmps39
        go_wp2_with (go_at_call 62; (with_reducible refine (HK.out _).mono ?_); rintro e w' ⟨rfl, rfl⟩)
        go_ret
        exact Ret0.of rfl
      · have hv : Fl.wname x = [] := by rw [Fl.wname, ← hK, if_neg h4, if_neg hi, if_neg hj]
        rw [hv]
        have d3 : ((x : Int) == 18442240474082181120) = false := by simp only [beq_eq_false_iff_ne, ne_eq]; omega
        clear hk hK h4 hv hi hj
        go_enter Tryz.func39, Tryz.ntmps39
        go_wp2_with (go_at_call 62; (with_reducible refine (HK.out _).mono ?_); rintro e w' ⟨rfl, rfl⟩)
        go_ret
        exact Ret0.of rfl
theorem sh_new_any (w : World) : Calls Tryz.prog 9 #[] w (fun e w' => ∃ v b : Nat, e = .returned (.pointer (some ⟨v, 0, none⟩)) ∧ w.heap.size ≤ v ∧ w.heap.size ≤ b ∧ Wtr w' v b ∧ Below w.heap.size w w') := by
  have HN := Lib.hid (fun w1 => re_new_any w1)
  go_enter Tryz.func9, Tryz.ntmps9
  go_wp2_with (first | (go_at_call 27; (with_reducible refine (HN.out _).mono ?_); rintro e w1 ⟨rfl, rd1, hb1⟩))
  go_ret
  refine ⟨w1.heap.size, w.heap.size, rfl, hb1.size, Nat.le_refl _, ⟨?_, by simp, Nat.ne_of_gt rd1.lt, rd1.on ((Below.refl _ _).alloc (Nat.le_refl _) _)⟩, hb1.alloc hb1.size _⟩
  simp [go_sem]
theorem sh_says_any (v b x : Nat) (n : Bool) (s : ByteArray) (X_ : Int) (w : World) (hW : Wtr w v b) (hr : Dc.right s.data.toList X_ = true) :
    Calls Tryz.prog 32 #[.pointer (some ⟨v, 0, none⟩), .agg #[.bool n, .string s, .int .i64 X_], .int .u64 x] w (RetR b (.bool (decide (Fl.wsign n + Fl.bits s.data.toList X_ = x))) w) := by
  have hlen := Dc.right_len hr
  rw [bs_length] at hlen
  have hB := fun w1 (h : Rdr w1 b) => re_bits_any b n s X_ w1 (by omega) h
  rw [Fl.readOf, if_pos hr] at hB
  obtain ⟨Y, hY⟩ : ∃ Y, Y = Fl.wsign n + Fl.bits s.data.toList X_ := ⟨_, rfl⟩
  rw [← hY] at hB ⊢
  have hb0 : Below w.heap.size w (w.alloc (Obj.cells #[Value.bool n, Value.string s, Value.int IntKind.i64 X_] 27)) := (Below.refl _ _).alloc (Nat.le_refl _) _
  have dd0 := DecB.new w n s X_
  have hW0 := hW.on hb0
  obtain ⟨c0, cl, cn, cr⟩ := hW0
  have hbl := hW.rd.lt
  have HB := Lib.hid hB
  have HF := Lib.hid (fun w2 (h : Onl b (w.alloc (Obj.cells #[Value.bool n, Value.string s, Value.int IntKind.i64 X_] 27)) w2) => (hW.rd.onl hb0).trans h)
  have hd : ((Y : Int) == (x : Int)) = decide (Y = x) := by
    rw [Bool.eq_iff_iff]; simp only [beq_iff_eq, decide_eq_true_eq]; omega
  obtain ⟨D, hD⟩ : ∃ D, D = decide (Y = x) := ⟨_, rfl⟩
  rw [← hD] at hd ⊢
  obtain ⟨d0, d1, d2, dl⟩ := dd0
  clear hB hY hW hlen hr hD
  go_enter Tryz.func32, Tryz.ntmps32
  go_upto_region 1 with (fail)
  obtain ⟨X, hX⟩ : ∃ X, X = (w.alloc (Obj.cells #[Value.bool n, Value.string s, Value.int IntKind.i64 X_] 27)) := ⟨_, rfl⟩
  rw [← hX] at c0 cl cr d0 d1 d2 dl HF ⊢
  obtain ⟨g, hg⟩ : ∃ g, g = w.heap.size := ⟨_, rfl⟩
  rw [← hg] at d0 d1 d2 dl ⊢
  clear hX hb0
  have hgb : g ≠ b := by omega
  clear hg
  have HRX := Lib.hid cr
  go_region_held3 (fun w' => w'.cell? ⟨v, 0, none⟩ = some (.pointer (some ⟨b, 0, none⟩)) ∧ w'.cell? ⟨g, 0, none⟩ = some (.bool n) ∧ w'.cell? ⟨g, 1, none⟩ = some (.string s) ∧ w'.cell? ⟨g, 2, none⟩ = some (.int .i64 X_))
    (first | go_keep | (refine ⟨?_, ?_, ?_, ?_⟩ <;> (first | (rw [hr0_w2]; assumption) | (rw [hr1_w2]; assumption))) | (refine ⟨?_, ?_, ?_, ?_⟩ <;> (first | (go_simp; done) | (simp [go_sem, *]; done))))
    (first | (go_at_call 67; (with_reducible refine (HB.out _ (HRX.out.on (by (repeat (first | exact Below.refl _ _ | assumption | refine Below.setCell ?_ (by first | omega | (simp <;> omega)) _ | refine Below.alloc ?_ (by first | omega | (simp <;> omega)) _ | refine Below.drew ?_ | refine below_drewN' ?_ _))))).mono ?_); rintro e w2 ⟨rfl, ho2, rd2⟩; have hO2 := HF.out w2 (Onl.trans (Rdr.onl (by (repeat (first | exact Below.refl _ _ | assumption | refine Below.setCell ?_ (by first | omega | (simp <;> omega)) _ | refine Below.alloc ?_ (by first | omega | (simp <;> omega)) _ | refine Below.drew ?_ | refine below_drewN' ?_ _))) HRX.out) ho2); have hr0_w2 := fun o => ho2.cell (k := v) (o := o) (by omega) (by (try simp only [zD, zN, zA, zS]); omega); have hr1_w2 := fun o => ho2.cell (k := g) (o := o) (by omega) (by (try simp only [zD, zN, zA, zS]); omega)))
  all_goals (try go_wp2)
  all_goals (go_ret; exact ⟨rfl, hO2, rd2⟩)
end Go.Proofs.YtiglekomfgfilaaGreatDoor

/- Decimals are compared; so are ints of 128 bits. -/
namespace Go.Proofs.YtiglekomfgfilaaGreatDoor
set_option linter.all false
open Go.RowKit
def dcEq (p0 q0 : Bool) (p1 q1 : ByteArray) (p2 q2 : Int) : Bool := p0 == q0 && (p1.toList == q1.toList && p2 == q2)
theorem dc_struct : Tryz.prog.underlying 27 = some (.struct (Tryz.prog.fieldsOf 27)) := by kernel_rfl
theorem dc_held : Tryz.prog.stoodInHeld 27 = false := by kernel_rfl
theorem dc_guardT : Tryz.prog.eqGuardType Tryz.prog.depth 27 = false := by kernel_rfl
theorem dc_fields : (Tryz.prog.fieldsOf 27).toList.map (fun f => (f.type, f.offset, f.name == "_")) = [(4, 0, false), (9, 1, false), (3, 2, false)] := by kernel_rfl
theorem dc_guard (op : BinOp) (x y : Operand) (xs ys : Array Value) (w : World) : (eqGuard op 27 x y (.agg xs) (.agg ys)).run Tryz.prog w = .ok () w := run_eqGuard_agg _ _ _ _ _ _ _ dc_guardT
theorem dc_equalIn (p0 q0 : Bool) (p1 q1 : ByteArray) (p2 q2 : Int) (w : World) :
    (Op.equalIn 10000 27 (.agg #[.bool p0, .string p1, .int .i64 p2]) (.agg #[.bool q0, .string q1, .int .i64 q2])).run Tryz.prog w = .ok (dcEq p0 q0 p1 q1 p2 q2) w := by
  rw [run_equalIn_agg _ 9999 _ _ _ dc_struct dc_held]
  have hf := dc_fields
  generalize (Tryz.prog.fieldsOf 27).toList = fs at hf
  have hl := congrArg List.length hf
  rw [List.length_map] at hl
  obtain ⟨f0, f1, f2, rfl⟩ : ∃ f0 f1 f2, fs = [f0, f1, f2] := by
    match fs, hl with
    | [a, b, c], _ => exact ⟨a, b, c, rfl⟩
  simp only [List.map_cons, List.map_nil, List.cons.injEq, Prod.mk.injEq, and_true] at hf
  obtain ⟨⟨t0, o0, n0⟩, ⟨t1, o1, n1⟩, ⟨t2, o2, n2⟩⟩ := hf
  have m0 := beq_eq_false_iff_ne.1 n0
  have m1 := beq_eq_false_iff_ne.1 n1
  have m2 := beq_eq_false_iff_ne.1 n2
  simp [Op.eqFields, dcEq, go_sem, t0, t1, t2, o0, o1, o2, m0, m1, m2, Tryz.underlying3, Tryz.underlying4, Tryz.underlying9]
  by_cases h0 : p0 = q0 <;> by_cases h1 : p1.toList = q1.toList <;> by_cases h2 : p2 = q2 <;> simp [h0, h1, h2]
theorem dc_neq (p0 q0 : Bool) (p1 q1 : ByteArray) (p2 q2 : Int) (w : World) :
    (binOp .neq 27 (.agg #[.bool p0, .string p1, .int .i64 p2]) (.agg #[.bool q0, .string q1, .int .i64 q2])).run Tryz.prog w = .ok (.bool (!(dcEq p0 q0 p1 q1 p2 q2))) w := by
  rw [run_neq_struct, dc_equalIn]; rfl
theorem dc_eql (p0 q0 : Bool) (p1 q1 : ByteArray) (p2 q2 : Int) (w : World) :
    (binOp .eql 27 (.agg #[.bool p0, .string p1, .int .i64 p2]) (.agg #[.bool q0, .string q1, .int .i64 q2])).run Tryz.prog w = .ok (.bool (dcEq p0 q0 p1 q1 p2 q2)) w := by
  rw [run_eql_struct, dc_equalIn]; rfl
end Go.Proofs.YtiglekomfgfilaaGreatDoor

/- The Writer in the program: one number of digits is tried (the closure of Dec). -/
namespace Go.Proofs.YtiglekomfgfilaaGreatDoor
set_option maxRecDepth 100000
set_option maxHeartbeats 8000000
set_option linter.all false
open Go.RowKit
attribute [local go_sem] dc_guard
theorem Cs.onl1 {w w' : World} {b c : Nat} {vs : List Value} (h : Cs w b vs) (ho : Onl c w w') (hne : b ≠ c) : Cs w' b vs :=
  ⟨Nat.lt_of_lt_of_le h.1 ho.size, fun k hk => (ho.cell hne h.1).trans (h.2 k hk)⟩
theorem CF.onl {w w' : World} {b c : Nat} {vs : List Value} (h : CF w b vs) (ho : Onl c w w') (hne : b ≠ c) : CF w' b vs :=
  ⟨h.1.onl1 ho hne, fun o => (ho.frozen hne h.1.1).trans (h.2 o)⟩
structure Caught (w : World) (gd gv gx v b x : Nat) (n : Bool) (s : ByteArray) (X : Int) : Prop where
  cd : Cs w gd [.bool n, .string s, .int .i64 X]
  cv : Cs w gv [.pointer (some ⟨v, 0, none⟩)]
  cx : Cs w gx [.int .u64 x]
  wt : Wtr w v b
  nd : gd ≠ b
  nv : gv ≠ b
  nx : gx ≠ b
theorem Caught.on {w w' : World} {gd gv gx v b x : Nat} {n : Bool} {s : ByteArray} {X : Int} (h : Caught w gd gv gx v b x n s X) (hb : Below w.heap.size w w') : Caught w' gd gv gx v b x n s X :=
  ⟨h.cd.on hb, h.cv.on hb, h.cx.on hb, h.wt.on hb, h.nd, h.nv, h.nx⟩
theorem Caught.onl {w w' : World} {gd gv gx v b x : Nat} {n : Bool} {s : ByteArray} {X : Int} (h : Caught w gd gv gx v b x n s X) (ho : Onl b w w') (hr : Rdr w' b) : Caught w' gd gv gx v b x n s X :=
  ⟨h.cd.onl1 ho h.nd, h.cv.onl1 ho h.nv, h.cx.onl1 ho h.nx, h.wt.onl ho hr, h.nd, h.nv, h.nx⟩
theorem Onl.more {b : Nat} {w w2 Y : World} (h : Onl b w w2) (hl : b < w.heap.size) (hb : Below w2.heap.size w2 Y) : Onl b w Y := ⟨h.below.trans (hb.mono (Nat.le_trans (Nat.le_of_lt hl) h.below.size)), fun i hi hl => (hb.block i (Nat.lt_of_lt_of_le hl h.below.size)).trans (h.block i hi hl)⟩
def dag (n : Bool) (S : ByteArray) (X : Int) : Value := .agg #[.bool n, .string S, .int .i64 X]
def dcs (n : Bool) (S : ByteArray) (X : Int) : List Value := [.bool n, .string S, .int .i64 X]
def tryLoop (gd gv gx v b x : Nat) (n : Bool) (s S0 : ByteArray) (X X0 : Int) (gn gs g5 : Nat) (c2 c3 : Bool) (W : World) (iv : Value) (wr : World) : Prop :=
  (iv = .int .i64 0 ∨ iv = .int .i64 1 ∧ c2 = false ∨ iv = .int .i64 2 ∧ c2 = false ∧ c3 = false) ∧ Hid (Caught wr gd gv gx v b x n s X) ∧ Hid (Cs wr gn (dcs n S0 X0)) ∧ Hid (Cs wr gs [.int .i64 2, .int .i64 3]) ∧ Hid (CF wr g5 (dcs false ⟨#[]⟩ 0)) ∧ Hid (Onl b W wr)
theorem sh_try_walk (k : Int) (gd gv gx v b x : Nat) (n : Bool) (s S0 S2 S3 : ByteArray) (X X0 X2 X3 : Int) (A q2 q3 m2 m3 : Bool) (W : World) (hC : Caught W gd gv gx v b x n s X)
    (h0 : ∀ w1, Calls Tryz.prog 31 #[dag n s X, .int .i64 k, .int .i64 0] w1 (RetB (.tuple #[dag n S0 X0, .int .i64 0]) w1))
    (h2 : ∀ w1, Calls Tryz.prog 31 #[dag n s X, .int .i64 k, .int .i64 2] w1 (RetB (.tuple #[dag n S2 X2, .int .i64 0]) w1))
    (h3 : ∀ w1, Calls Tryz.prog 31 #[dag n s X, .int .i64 k, .int .i64 3] w1 (RetB (.tuple #[dag n S3 X3, .int .i64 0]) w1))
    (y0 : ∀ w1, Wtr w1 v b → Calls Tryz.prog 32 #[.pointer (some ⟨v, 0, none⟩), dag n S0 X0, .int .u64 x] w1 (RetR b (.bool A) w1))
    (y2 : ∀ w1, Wtr w1 v b → Calls Tryz.prog 32 #[.pointer (some ⟨v, 0, none⟩), dag n S2 X2, .int .u64 x] w1 (RetR b (.bool q2) w1))
    (y3 : ∀ w1, Wtr w1 v b → Calls Tryz.prog 32 #[.pointer (some ⟨v, 0, none⟩), dag n S3 X3, .int .u64 x] w1 (RetR b (.bool q3) w1))
    (e2 : ∀ w1, (binOp .neq 27 (.agg #[.bool n, .string S2, .int .i64 X2]) (.agg #[.bool n, .string S0, .int .i64 X0])).run Tryz.prog w1 = .ok (.bool (!m2)) w1)
    (e3 : ∀ w1, (binOp .neq 27 (.agg #[.bool n, .string S3, .int .i64 X3]) (.agg #[.bool n, .string S0, .int .i64 X0])).run Tryz.prog w1 = .ok (.bool (!m3)) w1) :
    Calls Tryz.prog 30 #[.int .i64 k, .pointer (some ⟨gd, 0, none⟩), .pointer (some ⟨gv, 0, none⟩), .pointer (some ⟨gx, 0, none⟩)] W
      (RetR b (if A = true then .tuple #[dag n S0 X0, .bool true] else if (!m2 && q2) = true then .tuple #[dag n S2 X2, .bool true] else if (!m3 && q3) = true then .tuple #[dag n S3 X3, .bool true] else .tuple #[dag n S0 X0, .bool false]) W) := by
  obtain ⟨R, hR⟩ : ∃ R, R = (if A = true then .tuple #[dag n S0 X0, .bool true] else if (!m2 && q2) = true then .tuple #[dag n S2 X2, .bool true] else if (!m3 && q3) = true then .tuple #[dag n S3 X3, .bool true] else .tuple #[dag n S0 X0, .bool false] : Value) := ⟨_, rfl⟩
  rw [← hR]
  have HR := Lib.hid hR
  clear hR
  unfold dag at h0 h2 h3 y0 y2 y3
  have H0 := Lib.hid h0; have H2 := Lib.hid h2; have H3 := Lib.hid h3; have Y0 := Lib.hid y0; have Y2 := Lib.hid y2; have Y3 := Lib.hid y3
  have HC := Lib.hid hC
  have hbl := hC.wt.rd.lt
  have hb0 : Below W.heap.size W (W.alloc (Obj.cells #[Value.bool false, Value.string ⟨#[]⟩, Value.int IntKind.i64 0] 27)) := (Below.refl _ _).alloc (Nat.le_refl _) _
  have hC0 := hC.on hb0
  have f0 := CF.new W (dcs false ⟨#[]⟩ 0) 27
  have d0 := hC0.cd.get 0 rfl; have d1 := hC0.cd.get 1 rfl; have d2 := hC0.cd.get 2 rfl; have dl := hC0.cd.1
  clear h0 h2 h3 y0 y2 y3
  go_enter Tryz.func30, Tryz.ntmps30
  go_upto_if 22 with (first
    | (go_at_call 31; (with_reducible refine (H0.out _).mono ?_); rintro e w1 ⟨rfl, hb1⟩; have hC1 := hC0.on hb1; have f1 := f0.on hb1; have a1 := hC1.on ((Below.refl w1.heap.size w1).alloc (Nat.le_refl _) (.cells #[.bool n, .string S0, .int .i64 X0] 27)); have v0 := a1.cv.get 0 rfl; have vl := a1.cv.1; have x0 := a1.cx.get 0 rfl; have xl := a1.cx.1)
    | (go_at_call 32; (with_reducible refine (Y0.out _ a1.wt).mono ?_); rintro e w2 ⟨rfl, ho2, rd2⟩; have hC2 := a1.onl ho2 rd2))
  have hz1 := hb1.size
  have hws : W.heap.size + 1 ≤ w1.heap.size := by simpa using hz1
  have f2 : CF w2 W.heap.size (dcs false ⟨#[]⟩ 0) := (f1.alloc (.cells #[.bool n, .string S0, .int .i64 X0] 27)).onl ho2 (by omega)
  have n2 : Cs w2 w1.heap.size (dcs n S0 X0) := (Cs.new w1 (dcs n S0 X0) 27).onl1 ho2 (by omega)
  have o2 : Onl b W w2 := ((Onl.of hbl (hb0.trans (hb1.mono (by simp)))).more hbl ((Below.refl _ _).alloc (Nat.le_refl _) _)).trans ho2
  have hz2 := ho2.size
  obtain ⟨g5, hg5e⟩ : ∃ g, g = W.heap.size := ⟨_, rfl⟩
  have hg5 : W.heap.size ≤ g5 := by omega
  obtain ⟨gn, hgne⟩ : ∃ g, g = w1.heap.size := ⟨_, rfl⟩
  rw [← hg5e] at f2
  rw [← hgne] at n2
  rw [← hg5e, ← hgne]
  have hgn : W.heap.size ≤ gn ∧ gn ≠ b ∧ gn ≠ g5 ∧ g5 ≠ b := by omega
  obtain ⟨hgn1, hgn2, hgn3, hgn4⟩ := hgn
  have HO2 := Lib.hid o2; have HF2 := Lib.hid f2; have HN2 := Lib.hid n2; have HC2 := Lib.hid hC2; have HRD := Lib.hid rd2
  have m0 := n2.get 0 rfl; have m1 := n2.get 1 rfl; have m2' := n2.get 2 rfl; have ml := n2.1
  have q0 := f2.2 0; have q1 := f2.2 1; have q2' := f2.2 2; have ql := f2.1.1; have r0 := f2.1.get 0 rfl; have r1 := f2.1.get 1 rfl; have r2 := f2.1.get 2 rfl
  clear hg5e hgne f1 f0 hC0 hC1 a1 v0 vl x0 xl d0 d1 d2 dl hb0 hb1 ho2 hz1 hws o2 f2 n2 hC2 rd2 H0 Y0 hC
  cases A with
  | true =>
    go_wp2_with fail
    obtain ⟨Y, hY⟩ : ∃ Y, Y = w2.setCells g5 0 (dcs n S0 X0) := ⟨_, rfl⟩
    change bodyPost _ _ _ _ _ (w2.setCells g5 0 (dcs n S0 X0))
    have D : Cs Y g5 (dcs n S0 X0) := by rw [hY]; exact Cs.stored _ HF2.out.1 rfl
    have bY : Below W.heap.size w2 Y := by rw [hY]; exact below_setCells hg5 _ _ (Below.refl _ _)
    rw [← hY]
    have u0 := D.get 0 rfl; have u1 := D.get 1 rfl; have u2 := D.get 2 rfl; have ul := D.1
    refine bodyPost_ret (v := .tuple #[.agg #[.bool n, .string S0, .int .i64 X0], .bool true]) (by (simp [results, Tryz.results30, go_sem, u0, u1, u2]; done)) rfl ⟨by rw [HR.out]; first | rfl | (simp [dag]; done), HO2.out.own bY hbl, HRD.out.below bY hbl⟩
  | false =>
    have hS2 : Cs (w2.alloc (.cells #[.int .i64 2, .int .i64 3] 3)) w2.heap.size [.int .i64 2, .int .i64 3] := Cs.new w2 [.int .i64 2, .int .i64 3] 3
    have hBS : Below w2.heap.size w2 (w2.alloc (.cells #[.int .i64 2, .int .i64 3] 3)) := (Below.refl _ _).alloc (Nat.le_refl _) _
    have hC3 := HC2.out.on hBS
    have hF3 := HF2.out.on hBS
    have hN3 := HN2.out.on hBS
    have hO3 := HO2.out.more hbl hBS
    have hsb : w2.heap.size ≠ b := by have := HRD.out.lt; omega
    have hsg5 : w2.heap.size ≠ g5 := by omega
    go_wp2_with fail
    obtain ⟨gs, hgs⟩ : ∃ g, g = w2.heap.size := ⟨_, rfl⟩
    rw [← hgs] at hS2 hsb hsg5 ⊢
    have HS2 := Lib.hid hS2; have HC3 := Lib.hid hC3; have HF3 := Lib.hid hF3; have HN3 := Lib.hid hN3; have HO3 := Lib.hid hO3
    clear hS2 hC3 hF3 hN3 hO3 hBS hgs m0 m1 m2' ml q0 q1 q2' ql hz2 r0 r1 r2
    go_loopw [26] (tryLoop gd gv gx v b x n s S0 X X0 gn gs g5 (!m2 && q2) (!m3 && q3) W) (fun iv _ => 2 - (intOf iv).toNat)
    case atStart => exact ⟨Or.inl rfl, HC3, HN3, HS2, HF3, HO3⟩
    case round =>
      clear HS2 HC3 HF3 HN3 HO3 HC2 HN2 HF2 HO2 HRD
      obtain ⟨hcase, HC, HN, HG, HF, HO⟩ := hrel
      have cd0 := HC.out.cd.get 0 rfl; have cd1 := HC.out.cd.get 1 rfl; have cd2 := HC.out.cd.get 2 rfl; have cdl := HC.out.cd.1
      have gs0 := HG.out.get 0 rfl; have gs1 := HG.out.get 1 rfl; have gsl := HG.out.1
      rcases hcase with rfl | ⟨rfl, hno⟩ | ⟨rfl, hno, hno3⟩
      · skip
        have hmq : m2 = true ∨ (m2 = false ∧ q2 = false) ∨ (m2 = false ∧ q2 = true) := by cases m2 <;> cases q2 <;> simp
        rcases hmq with rfl | ⟨rfl, rfl⟩ | ⟨rfl, rfl⟩
        · go_wp2_with (first | (go_at_call 31; (with_reducible refine (H2.out _).mono ?_); rintro e w3 ⟨rfl, hb3⟩; have C3 := HC.out.on hb3; have a3 := C3.on ((Below.refl w3.heap.size w3).alloc (Nat.le_refl _) (.cells #[.bool n, .string S2, .int .i64 X2] 27)); have n3 := (HN.out.on hb3).alloc (.cells #[.bool n, .string S2, .int .i64 X2] 27); have g3 := (HG.out.on hb3).alloc (.cells #[.bool n, .string S2, .int .i64 X2] 27); have f3 := (HF.out.on hb3).alloc (.cells #[.bool n, .string S2, .int .i64 X2] 27); have o3 := (HO.out.more hbl hb3).more hbl ((Below.refl w3.heap.size w3).alloc (Nat.le_refl _) (.cells #[.bool n, .string S2, .int .i64 X2] 27)); have x3 := Cs.new w3 (dcs n S2 X2) 27; have t0 := n3.get 0 rfl; have t1 := n3.get 1 rfl; have t2 := n3.get 2 rfl; have tl := n3.1; have v0 := a3.cv.get 0 rfl; have vl := a3.cv.1; have x0 := a3.cx.get 0 rfl; have xl := a3.cx.1; have hb3z := hb3.size))
          go_roundw
          case rel => exact ⟨Or.inr (Or.inl ⟨rfl, rfl⟩), Lib.hid a3, Lib.hid n3, Lib.hid g3, Lib.hid f3, Lib.hid o3⟩
          case measure => simp [intOf]
        · go_wp2_with (first | (go_at_call 31; (with_reducible refine (H2.out _).mono ?_); rintro e w3 ⟨rfl, hb3⟩; have C3 := HC.out.on hb3; have a3 := C3.on ((Below.refl w3.heap.size w3).alloc (Nat.le_refl _) (.cells #[.bool n, .string S2, .int .i64 X2] 27)); have n3 := (HN.out.on hb3).alloc (.cells #[.bool n, .string S2, .int .i64 X2] 27); have g3 := (HG.out.on hb3).alloc (.cells #[.bool n, .string S2, .int .i64 X2] 27); have f3 := (HF.out.on hb3).alloc (.cells #[.bool n, .string S2, .int .i64 X2] 27); have o3 := (HO.out.more hbl hb3).more hbl ((Below.refl w3.heap.size w3).alloc (Nat.le_refl _) (.cells #[.bool n, .string S2, .int .i64 X2] 27)); have x3 := Cs.new w3 (dcs n S2 X2) 27; have t0 := n3.get 0 rfl; have t1 := n3.get 1 rfl; have t2 := n3.get 2 rfl; have tl := n3.1; have v0 := a3.cv.get 0 rfl; have vl := a3.cv.1; have x0 := a3.cx.get 0 rfl; have xl := a3.cx.1; have hb3z := hb3.size; have hw3b : w3.heap.size ≠ b := (by have := C3.wt.rd.lt; omega); have hw3g : w3.heap.size ≠ g5 := (by have := HF.out.1.1; omega)) | (go_at_call 32; (with_reducible refine (Y2.out _ a3.wt).mono ?_); rintro e w4 ⟨rfl, ho4, rd4⟩; have C4 := a3.onl ho4 rd4; have n4 := n3.onl1 ho4 hgn2; have g4 := g3.onl1 ho4 hsb; have f4 := f3.onl ho4 hgn4; have o4 := o3.trans ho4; have x4 := x3.onl1 ho4 hw3b; have k0 := x4.get 0 rfl; have k1 := x4.get 1 rfl; have k2 := x4.get 2 rfl; have kl := x4.1; have fz0 := f4.2 0; have fz1 := f4.2 1; have fz2 := f4.2 2; have fl := f4.1.1; have fr0 := f4.1.get 0 rfl; have fr1 := f4.1.get 1 rfl; have fr2 := f4.1.get 2 rfl))
          go_roundw
          case rel => exact ⟨Or.inr (Or.inl ⟨rfl, rfl⟩), Lib.hid C4, Lib.hid n4, Lib.hid g4, Lib.hid f4, Lib.hid o4⟩
          case measure => simp [intOf]
        · go_wp2_with (first | (go_at_call 31; (with_reducible refine (H2.out _).mono ?_); rintro e w3 ⟨rfl, hb3⟩; have C3 := HC.out.on hb3; have a3 := C3.on ((Below.refl w3.heap.size w3).alloc (Nat.le_refl _) (.cells #[.bool n, .string S2, .int .i64 X2] 27)); have n3 := (HN.out.on hb3).alloc (.cells #[.bool n, .string S2, .int .i64 X2] 27); have g3 := (HG.out.on hb3).alloc (.cells #[.bool n, .string S2, .int .i64 X2] 27); have f3 := (HF.out.on hb3).alloc (.cells #[.bool n, .string S2, .int .i64 X2] 27); have o3 := (HO.out.more hbl hb3).more hbl ((Below.refl w3.heap.size w3).alloc (Nat.le_refl _) (.cells #[.bool n, .string S2, .int .i64 X2] 27)); have x3 := Cs.new w3 (dcs n S2 X2) 27; have t0 := n3.get 0 rfl; have t1 := n3.get 1 rfl; have t2 := n3.get 2 rfl; have tl := n3.1; have v0 := a3.cv.get 0 rfl; have vl := a3.cv.1; have x0 := a3.cx.get 0 rfl; have xl := a3.cx.1; have hb3z := hb3.size; have hw3b : w3.heap.size ≠ b := (by have := C3.wt.rd.lt; omega); have hw3g : w3.heap.size ≠ g5 := (by have := HF.out.1.1; omega)) | (go_at_call 32; (with_reducible refine (Y2.out _ a3.wt).mono ?_); rintro e w4 ⟨rfl, ho4, rd4⟩; have C4 := a3.onl ho4 rd4; have n4 := n3.onl1 ho4 hgn2; have g4 := g3.onl1 ho4 hsb; have f4 := f3.onl ho4 hgn4; have o4 := o3.trans ho4; have x4 := x3.onl1 ho4 hw3b; have k0 := x4.get 0 rfl; have k1 := x4.get 1 rfl; have k2 := x4.get 2 rfl; have kl := x4.1; have fz0 := f4.2 0; have fz1 := f4.2 1; have fz2 := f4.2 2; have fl := f4.1.1; have fr0 := f4.1.get 0 rfl; have fr1 := f4.1.get 1 rfl; have fr2 := f4.1.get 2 rfl))
          obtain ⟨Y, hY⟩ : ∃ Y, Y = w4.setCells g5 0 (dcs n S2 X2) := ⟨_, rfl⟩
          change bodyPost _ _ _ _ _ (w4.setCells g5 0 (dcs n S2 X2))
          have D : Cs Y g5 (dcs n S2 X2) := by rw [hY]; exact Cs.stored _ f4.1 rfl
          have bY : Below W.heap.size w4 Y := by rw [hY]; exact below_setCells hg5 _ _ (Below.refl _ _)
          rw [← hY]
          have u0 := D.get 0 rfl; have u1 := D.get 1 rfl; have u2 := D.get 2 rfl; have ul := D.1
          refine bodyPost_ret (v := .tuple #[.agg #[.bool n, .string S2, .int .i64 X2], .bool true]) (by (simp [results, Tryz.results30, go_sem, u0, u1, u2]; done)) rfl ⟨by rw [HR.out]; first | rfl | (simp [dag]; done), o4.own bY hbl, rd4.below bY hbl⟩
      · have HNO := Lib.hid hno
        clear hno
        have hmq : m3 = true ∨ (m3 = false ∧ q3 = false) ∨ (m3 = false ∧ q3 = true) := by cases m3 <;> cases q3 <;> simp
        rcases hmq with rfl | ⟨rfl, rfl⟩ | ⟨rfl, rfl⟩
        · go_wp2_with (first | (go_at_call 31; (with_reducible refine (H3.out _).mono ?_); rintro e w3 ⟨rfl, hb3⟩; have C3 := HC.out.on hb3; have a3 := C3.on ((Below.refl w3.heap.size w3).alloc (Nat.le_refl _) (.cells #[.bool n, .string S3, .int .i64 X3] 27)); have n3 := (HN.out.on hb3).alloc (.cells #[.bool n, .string S3, .int .i64 X3] 27); have g3 := (HG.out.on hb3).alloc (.cells #[.bool n, .string S3, .int .i64 X3] 27); have f3 := (HF.out.on hb3).alloc (.cells #[.bool n, .string S3, .int .i64 X3] 27); have o3 := (HO.out.more hbl hb3).more hbl ((Below.refl w3.heap.size w3).alloc (Nat.le_refl _) (.cells #[.bool n, .string S3, .int .i64 X3] 27)); have x3 := Cs.new w3 (dcs n S3 X3) 27; have t0 := n3.get 0 rfl; have t1 := n3.get 1 rfl; have t2 := n3.get 2 rfl; have tl := n3.1; have v0 := a3.cv.get 0 rfl; have vl := a3.cv.1; have x0 := a3.cx.get 0 rfl; have xl := a3.cx.1; have hb3z := hb3.size))
          go_roundw
          case rel => exact ⟨Or.inr (Or.inr ⟨rfl, HNO.out, rfl⟩), Lib.hid a3, Lib.hid n3, Lib.hid g3, Lib.hid f3, Lib.hid o3⟩
          case measure => simp [intOf]
        · go_wp2_with (first | (go_at_call 31; (with_reducible refine (H3.out _).mono ?_); rintro e w3 ⟨rfl, hb3⟩; have C3 := HC.out.on hb3; have a3 := C3.on ((Below.refl w3.heap.size w3).alloc (Nat.le_refl _) (.cells #[.bool n, .string S3, .int .i64 X3] 27)); have n3 := (HN.out.on hb3).alloc (.cells #[.bool n, .string S3, .int .i64 X3] 27); have g3 := (HG.out.on hb3).alloc (.cells #[.bool n, .string S3, .int .i64 X3] 27); have f3 := (HF.out.on hb3).alloc (.cells #[.bool n, .string S3, .int .i64 X3] 27); have o3 := (HO.out.more hbl hb3).more hbl ((Below.refl w3.heap.size w3).alloc (Nat.le_refl _) (.cells #[.bool n, .string S3, .int .i64 X3] 27)); have x3 := Cs.new w3 (dcs n S3 X3) 27; have t0 := n3.get 0 rfl; have t1 := n3.get 1 rfl; have t2 := n3.get 2 rfl; have tl := n3.1; have v0 := a3.cv.get 0 rfl; have vl := a3.cv.1; have x0 := a3.cx.get 0 rfl; have xl := a3.cx.1; have hb3z := hb3.size; have hw3b : w3.heap.size ≠ b := (by have := C3.wt.rd.lt; omega); have hw3g : w3.heap.size ≠ g5 := (by have := HF.out.1.1; omega)) | (go_at_call 32; (with_reducible refine (Y3.out _ a3.wt).mono ?_); rintro e w4 ⟨rfl, ho4, rd4⟩; have C4 := a3.onl ho4 rd4; have n4 := n3.onl1 ho4 hgn2; have g4 := g3.onl1 ho4 hsb; have f4 := f3.onl ho4 hgn4; have o4 := o3.trans ho4; have x4 := x3.onl1 ho4 hw3b; have k0 := x4.get 0 rfl; have k1 := x4.get 1 rfl; have k2 := x4.get 2 rfl; have kl := x4.1; have fz0 := f4.2 0; have fz1 := f4.2 1; have fz2 := f4.2 2; have fl := f4.1.1; have fr0 := f4.1.get 0 rfl; have fr1 := f4.1.get 1 rfl; have fr2 := f4.1.get 2 rfl))
          go_roundw
          case rel => exact ⟨Or.inr (Or.inr ⟨rfl, HNO.out, rfl⟩), Lib.hid C4, Lib.hid n4, Lib.hid g4, Lib.hid f4, Lib.hid o4⟩
          case measure => simp [intOf]
        · go_wp2_with (first | (go_at_call 31; (with_reducible refine (H3.out _).mono ?_); rintro e w3 ⟨rfl, hb3⟩; have C3 := HC.out.on hb3; have a3 := C3.on ((Below.refl w3.heap.size w3).alloc (Nat.le_refl _) (.cells #[.bool n, .string S3, .int .i64 X3] 27)); have n3 := (HN.out.on hb3).alloc (.cells #[.bool n, .string S3, .int .i64 X3] 27); have g3 := (HG.out.on hb3).alloc (.cells #[.bool n, .string S3, .int .i64 X3] 27); have f3 := (HF.out.on hb3).alloc (.cells #[.bool n, .string S3, .int .i64 X3] 27); have o3 := (HO.out.more hbl hb3).more hbl ((Below.refl w3.heap.size w3).alloc (Nat.le_refl _) (.cells #[.bool n, .string S3, .int .i64 X3] 27)); have x3 := Cs.new w3 (dcs n S3 X3) 27; have t0 := n3.get 0 rfl; have t1 := n3.get 1 rfl; have t2 := n3.get 2 rfl; have tl := n3.1; have v0 := a3.cv.get 0 rfl; have vl := a3.cv.1; have x0 := a3.cx.get 0 rfl; have xl := a3.cx.1; have hb3z := hb3.size; have hw3b : w3.heap.size ≠ b := (by have := C3.wt.rd.lt; omega); have hw3g : w3.heap.size ≠ g5 := (by have := HF.out.1.1; omega)) | (go_at_call 32; (with_reducible refine (Y3.out _ a3.wt).mono ?_); rintro e w4 ⟨rfl, ho4, rd4⟩; have C4 := a3.onl ho4 rd4; have n4 := n3.onl1 ho4 hgn2; have g4 := g3.onl1 ho4 hsb; have f4 := f3.onl ho4 hgn4; have o4 := o3.trans ho4; have x4 := x3.onl1 ho4 hw3b; have k0 := x4.get 0 rfl; have k1 := x4.get 1 rfl; have k2 := x4.get 2 rfl; have kl := x4.1; have fz0 := f4.2 0; have fz1 := f4.2 1; have fz2 := f4.2 2; have fl := f4.1.1; have fr0 := f4.1.get 0 rfl; have fr1 := f4.1.get 1 rfl; have fr2 := f4.1.get 2 rfl))
          obtain ⟨Y, hY⟩ : ∃ Y, Y = w4.setCells g5 0 (dcs n S3 X3) := ⟨_, rfl⟩
          change bodyPost _ _ _ _ _ (w4.setCells g5 0 (dcs n S3 X3))
          have D : Cs Y g5 (dcs n S3 X3) := by rw [hY]; exact Cs.stored _ f4.1 rfl
          have bY : Below W.heap.size w4 Y := by rw [hY]; exact below_setCells hg5 _ _ (Below.refl _ _)
          rw [← hY]
          have u0 := D.get 0 rfl; have u1 := D.get 1 rfl; have u2 := D.get 2 rfl; have ul := D.1
          refine bodyPost_ret (v := .tuple #[.agg #[.bool n, .string S3, .int .i64 X3], .bool true]) (by (simp [results, Tryz.results30, go_sem, u0, u1, u2]; done)) rfl ⟨by rw [HR.out, HNO.out]; first | rfl | (simp [dag]; done), o4.own bY hbl, rd4.below bY hbl⟩
      · have n2 := HN.out; have f2 := HF.out
        have m0 := n2.get 0 rfl; have m1 := n2.get 1 rfl; have m2' := n2.get 2 rfl; have ml := n2.1
        have p0 := f2.2 0; have p1 := f2.2 1; have p2 := f2.2 2; have pl := f2.1.1; have r0 := f2.1.get 0 rfl; have r1 := f2.1.get 1 rfl; have r2 := f2.1.get 2 rfl
        have HNO := Lib.hid hno; have HNO3 := Lib.hid hno3
        clear hno hno3 n2 f2
        go_wp2_with fail
        obtain ⟨Y, hY⟩ : ∃ Y, Y = wr.setCells g5 0 (dcs n S0 X0) := ⟨_, rfl⟩
        change bodyPost _ _ _ _ _ (wr.setCells g5 0 (dcs n S0 X0))
        have D : Cs Y g5 (dcs n S0 X0) := by rw [hY]; exact Cs.stored _ HF.out.1 rfl
        have bY : Below W.heap.size wr Y := by rw [hY]; exact below_setCells hg5 _ _ (Below.refl _ _)
        rw [← hY]
        have u0 := D.get 0 rfl; have u1 := D.get 1 rfl; have u2 := D.get 2 rfl; have ul := D.1
        refine bodyPost_ret (v := .tuple #[.agg #[.bool n, .string S0, .int .i64 X0], .bool false]) (by (simp [results, Tryz.results30, go_sem, u0, u1, u2]; done)) rfl ⟨by rw [HR.out, HNO.out, HNO3.out]; first | rfl | (simp [dag]; done), HO.out.own bY hbl, HC.out.wt.rd.below bY hbl⟩
end Go.Proofs.YtiglekomfgfilaaGreatDoor

/- The Writer in the program: the search for the fewest digits. -/
namespace Go.Proofs.YtiglekomfgfilaaGreatDoor
set_option linter.all false
open Go.RowKit
attribute [local go_sem] dc_guard
def drv (r : Dc.Res) : Value := dag r.n ⟨r.l.toArray⟩ r.x
def Fl.tryV (n : Bool) (l : Dc.Bs) (X : Int) (bb k : Nat) : Value := match Fl.tryN n l X bb k with
  | some r => .tuple #[drv r, .bool true]
  | none => .tuple #[drv (Dc.sig n l X k 0), .bool false]
theorem Fl.says_sign {x : Nat} {r : Dc.Res} (hx : x < 18446744073709551616) (hr : Dc.right r.l r.x = true) : decide (Fl.wsign (Fl.neg x) + Fl.bits r.l r.x = x) = Fl.says r (x % 9223372036854775808) := by
  unfold Fl.says
  apply decide_eq_decide.2
  have h := Fl.neg_mod hx
  have hb := Fl.bits_le hr
  constructor
  · intro h1
    exact Nat.add_left_cancel (h1.trans h.symm)
  · intro h1
    rw [h1, h]
theorem sh_try_any (k : Nat) (gd gv gx v b x : Nat) (s : ByteArray) (X : Int) (W : World) (hk : 1 ≤ k ∧ k ≤ 17) (hx : x < 18446744073709551616) (hr : Dc.right s.data.toList X = true) (hne : s.data.toList ≠ []) (hX : -2000 ≤ X ∧ X ≤ 2000) (hC : Caught W gd gv gx v b x (Fl.neg x) s X) :
    Calls Tryz.prog 30 #[.int .i64 k, .pointer (some ⟨gd, 0, none⟩), .pointer (some ⟨gv, 0, none⟩), .pointer (some ⟨gx, 0, none⟩)] W (RetR b (Fl.tryV (Fl.neg x) s.data.toList X (x % 9223372036854775808) k) W) := by
  have hsz := Dc.right_len hr
  rw [bs_length] at hsz
  obtain ⟨n, hn⟩ : ∃ n, n = Fl.neg x := ⟨_, rfl⟩
  obtain ⟨bb, hbb⟩ : ∃ n, n = x % 9223372036854775808 := ⟨_, rfl⟩
  have hs := fun (way : Int) (hw : 0 ≤ way ∧ way ≤ 5) => Fl.sig_ok (s := n) (k := k) (way := way) hr hne (by omega) hw (by omega)
  have sig : ∀ (way : Int) (hw : 0 ≤ way ∧ way ≤ 5) (w1 : World), Calls Tryz.prog 31 #[dag n s X, .int .i64 k, .int .i64 way] w1 (RetB (.tuple #[dag n ⟨(Dc.sig n s.data.toList X k way).l.toArray⟩ (Dc.sig n s.data.toList X k way).x, .int .i64 0]) w1) := fun way hw w1 => by
    have h := d_sig_any n s X k way w1 (by omega) (by omega) (by omega)
    have e : (Dc.sig n s.data.toList X k way).val = .tuple #[dag n ⟨(Dc.sig n s.data.toList X k way).l.toArray⟩ (Dc.sig n s.data.toList X k way).x, .int .i64 0] := by
      rw [Dc.Res.val, (hs way hw).n, (hs way hw).e]; rfl
    rw [e] at h
    exact h
  have say : ∀ (way : Int) (hw : 0 ≤ way ∧ way ≤ 5) (w1 : World), Wtr w1 v b → Calls Tryz.prog 32 #[.pointer (some ⟨v, 0, none⟩), dag n ⟨(Dc.sig n s.data.toList X k way).l.toArray⟩ (Dc.sig n s.data.toList X k way).x, .int .u64 x] w1 (RetR b (.bool (Fl.says (Dc.sig n s.data.toList X k way) bb)) w1) := fun way hw w1 hw1 => by
    have h := sh_says_any v b x n ⟨(Dc.sig n s.data.toList X k way).l.toArray⟩ (Dc.sig n s.data.toList X k way).x w1 hw1 (hs way hw).right
    rw [bs_mk, hn, Fl.says_sign hx (by rw [← hn]; exact (hs way hw).right), ← hbb, ← hn] at h
    exact h
  have eq : ∀ (way : Int) (w1 : World), (binOp .neq 27 (.agg #[.bool n, .string ⟨(Dc.sig n s.data.toList X k way).l.toArray⟩, .int .i64 (Dc.sig n s.data.toList X k way).x]) (.agg #[.bool n, .string ⟨(Dc.sig n s.data.toList X k 0).l.toArray⟩, .int .i64 (Dc.sig n s.data.toList X k 0).x])).run Tryz.prog w1 = .ok (.bool (!(Fl.same (Dc.sig n s.data.toList X k way) (Dc.sig n s.data.toList X k 0)))) w1 := fun way w1 => by
    rw [dc_neq]
    congr 3
    unfold dcEq Fl.same
    rw [toList_data, toList_data, bs_mk, bs_mk, Bool.eq_iff_iff]
    simp
  rw [← hn, ← hbb]
  rw [← hn] at hC
  have h := sh_try_walk k gd gv gx v b x n s _ _ _ X _ _ _ _ _ _ _ _ W hC (sig 0 (by decide)) (sig 2 (by decide)) (sig 3 (by decide)) (say 0 (by decide)) (say 2 (by decide)) (say 3 (by decide)) (eq 2) (eq 3)
  have e : Fl.tryV n s.data.toList X bb k = (if Fl.says (Dc.sig n s.data.toList X k 0) bb = true then .tuple #[dag n ⟨(Dc.sig n s.data.toList X k 0).l.toArray⟩ (Dc.sig n s.data.toList X k 0).x, .bool true]
      else if (!(Fl.same (Dc.sig n s.data.toList X k 2) (Dc.sig n s.data.toList X k 0)) && Fl.says (Dc.sig n s.data.toList X k 2) bb) = true then .tuple #[dag n ⟨(Dc.sig n s.data.toList X k 2).l.toArray⟩ (Dc.sig n s.data.toList X k 2).x, .bool true]
      else if (!(Fl.same (Dc.sig n s.data.toList X k 3) (Dc.sig n s.data.toList X k 0)) && Fl.says (Dc.sig n s.data.toList X k 3) bb) = true then .tuple #[dag n ⟨(Dc.sig n s.data.toList X k 3).l.toArray⟩ (Dc.sig n s.data.toList X k 3).x, .bool true]
      else .tuple #[dag n ⟨(Dc.sig n s.data.toList X k 0).l.toArray⟩ (Dc.sig n s.data.toList X k 0).x, .bool false]) := by
    have n0 := (hs 0 (by decide)).n; have n2 := (hs 2 (by decide)).n; have n3 := (hs 3 (by decide)).n
    unfold Fl.tryV Fl.tryN
    simp only [Bool.and_eq_true, Bool.not_eq_true']
    by_cases c0 : Fl.says (Dc.sig n s.data.toList X k 0) bb = true
    · rw [if_pos c0, if_pos c0]; simp only [drv, n0]
    · rw [if_neg c0, if_neg c0]
      by_cases c2 : Fl.same (Dc.sig n s.data.toList X k 2) (Dc.sig n s.data.toList X k 0) = false ∧ Fl.says (Dc.sig n s.data.toList X k 2) bb = true
      · rw [if_pos c2, if_pos c2]; simp only [drv, n2]
      · rw [if_neg c2, if_neg c2]
        by_cases c3 : Fl.same (Dc.sig n s.data.toList X k 3) (Dc.sig n s.data.toList X k 0) = false ∧ Fl.says (Dc.sig n s.data.toList X k 3) bb = true
        · rw [if_pos c3, if_pos c3]; simp only [drv, n3]
        · rw [if_neg c3, if_neg c3]; simp only [drv, n0]
  rw [e]
  exact h
end Go.Proofs.YtiglekomfgfilaaGreatDoor
