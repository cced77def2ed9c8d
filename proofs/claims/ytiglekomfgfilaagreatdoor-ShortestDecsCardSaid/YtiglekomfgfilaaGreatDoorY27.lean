/- The Writer in the program: one number of digits is tried (the closure of Dec). -/
import Derived.Test.YtiglekomfgfilaaGreatDoorY26
import Derived.Test.YtiglekomfgfilaaGreatDoorY19
import Derived.Test.YtiglekomfgfilaaGreatDoorY21
namespace Go.Proofs.YtiglekomfgfilaaGreatDoor
set_option maxRecDepth 100000
set_option maxHeartbeats 8000000
set_option linter.all false
open Go.RowKit
attribute [local go_sem] dc_guard
theorem Cs.onl1 {w w' : World} {b c : Nat} {vs : List Value} (h : Cs w b vs) (ho : Onl c w w') (hne : b ≠ c) : Cs w' b vs :=
  ⟨Nat.lt_of_lt_of_le h.1 ho.size, fun k hk => (ho.cell hne h.1).trans (h.2 k hk)⟩
theorem CF.onl {w w' : World} {b c : Nat} {vs : List Value} (h : CF w b vs) (ho : Onl c w w') (hne : b ≠ c) : CF w' b vs :=
  ⟨h.1.onl1 ho hne, fun o => (ho.frozen hne h.1.1).trans (h.2 o)⟩
structure Caught (w : World) (gd gv gx v b x : Nat) (n : Bool) (s : ByteArray) (X : Int) : Prop where
  cd : Cs w gd [.bool n, .string s, .int .i64 X]
  cv : Cs w gv [.pointer (some ⟨v, 0, none⟩)]
  cx : Cs w gx [.int .u64 x]
  wt : Wtr w v b
  nd : gd ≠ b
  nv : gv ≠ b
  nx : gx ≠ b
theorem Caught.on {w w' : World} {gd gv gx v b x : Nat} {n : Bool} {s : ByteArray} {X : Int} (h : Caught w gd gv gx v b x n s X) (hb : Below w.heap.size w w') : Caught w' gd gv gx v b x n s X :=
  ⟨h.cd.on hb, h.cv.on hb, h.cx.on hb, h.wt.on hb, h.nd, h.nv, h.nx⟩
theorem Caught.onl {w w' : World} {gd gv gx v b x : Nat} {n : Bool} {s : ByteArray} {X : Int} (h : Caught w gd gv gx v b x n s X) (ho : Onl b w w') (hr : Rdr w' b) : Caught w' gd gv gx v b x n s X :=
  ⟨h.cd.onl1 ho h.nd, h.cv.onl1 ho h.nv, h.cx.onl1 ho h.nx, h.wt.onl ho hr, h.nd, h.nv, h.nx⟩
theorem Onl.more {b : Nat} {w w2 Y : World} (h : Onl b w w2) (hl : b < w.heap.size) (hb : Below w2.heap.size w2 Y) : Onl b w Y := ⟨h.below.trans (hb.mono (Nat.le_trans (Nat.le_of_lt hl) h.below.size)), fun i hi hl => (hb.block i (Nat.lt_of_lt_of_le hl h.below.size)).trans (h.block i hi hl)⟩
def dag (n : Bool) (S : ByteArray) (X : Int) : Value := .agg #[.bool n, .string S, .int .i64 X]
def dcs (n : Bool) (S : ByteArray) (X : Int) : List Value := [.bool n, .string S, .int .i64 X]
def tryLoop (gd gv gx v b x : Nat) (n : Bool) (s S0 : ByteArray) (X X0 : Int) (gn gs g5 : Nat) (c2 c3 : Bool) (W : World) (iv : Value) (wr : World) : Prop :=
  (iv = .int .i64 0 ∨ iv = .int .i64 1 ∧ c2 = false ∨ iv = .int .i64 2 ∧ c2 = false ∧ c3 = false) ∧ Hid (Caught wr gd gv gx v b x n s X) ∧ Hid (Cs wr gn (dcs n S0 X0)) ∧ Hid (Cs wr gs [.int .i64 2, .int .i64 3]) ∧ Hid (CF wr g5 (dcs false ⟨#[]⟩ 0)) ∧ Hid (Onl b W wr)
theorem sh_try_walk (k : Int) (gd gv gx v b x : Nat) (n : Bool) (s S0 S2 S3 : ByteArray) (X X0 X2 X3 : Int) (A q2 q3 m2 m3 : Bool) (W : World) (hC : Caught W gd gv gx v b x n s X)
    (h0 : ∀ w1, Calls Tryz.prog 31 #[dag n s X, .int .i64 k, .int .i64 0] w1 (RetB (.tuple #[dag n S0 X0, .int .i64 0]) w1))
    (h2 : ∀ w1, Calls Tryz.prog 31 #[dag n s X, .int .i64 k, .int .i64 2] w1 (RetB (.tuple #[dag n S2 X2, .int .i64 0]) w1))
    (h3 : ∀ w1, Calls Tryz.prog 31 #[dag n s X, .int .i64 k, .int .i64 3] w1 (RetB (.tuple #[dag n S3 X3, .int .i64 0]) w1))
    (y0 : ∀ w1, Wtr w1 v b → Calls Tryz.prog 32 #[.pointer (some ⟨v, 0, none⟩), dag n S0 X0, .int .u64 x] w1 (RetR b (.bool A) w1))
    (y2 : ∀ w1, Wtr w1 v b → Calls Tryz.prog 32 #[.pointer (some ⟨v, 0, none⟩), dag n S2 X2, .int .u64 x] w1 (RetR b (.bool q2) w1))
    (y3 : ∀ w1, Wtr w1 v b → Calls Tryz.prog 32 #[.pointer (some ⟨v, 0, none⟩), dag n S3 X3, .int .u64 x] w1 (RetR b (.bool q3) w1))
    (e2 : ∀ w1, (binOp .neq 27 (.agg #[.bool n, .string S2, .int .i64 X2]) (.agg #[.bool n, .string S0, .int .i64 X0])).run Tryz.prog w1 = .ok (.bool (!m2)) w1)
    (e3 : ∀ w1, (binOp .neq 27 (.agg #[.bool n, .string S3, .int .i64 X3]) (.agg #[.bool n, .string S0, .int .i64 X0])).run Tryz.prog w1 = .ok (.bool (!m3)) w1) :
    Calls Tryz.prog 30 #[.int .i64 k, .pointer (some ⟨gd, 0, none⟩), .pointer (some ⟨gv, 0, none⟩), .pointer (some ⟨gx, 0, none⟩)] W
      (RetR b (if A = true then .tuple #[dag n S0 X0, .bool true] else if (!m2 && q2) = true then .tuple #[dag n S2 X2, .bool true] else if (!m3 && q3) = true then .tuple #[dag n S3 X3, .bool true] else .tuple #[dag n S0 X0, .bool false]) W) := by
  obtain ⟨R, hR⟩ : ∃ R, R = (if A = true then .tuple #[dag n S0 X0, .bool true] else if (!m2 && q2) = true then .tuple #[dag n S2 X2, .bool true] else if (!m3 && q3) = true then .tuple #[dag n S3 X3, .bool true] else .tuple #[dag n S0 X0, .bool false] : Value) := ⟨_, rfl⟩
  rw [← hR]
  have HR := Lib.hid hR
  clear hR
  unfold dag at h0 h2 h3 y0 y2 y3
  have H0 := Lib.hid h0; have H2 := Lib.hid h2; have H3 := Lib.hid h3; have Y0 := Lib.hid y0; have Y2 := Lib.hid y2; have Y3 := Lib.hid y3
  have HC := Lib.hid hC
  have hbl := hC.wt.rd.lt
  have hb0 : Below W.heap.size W (W.alloc (Obj.cells #[Value.bool false, Value.string ⟨#[]⟩, Value.int IntKind.i64 0] 27)) := (Below.refl _ _).alloc (Nat.le_refl _) _
  have hC0 := hC.on hb0
  have f0 := CF.new W (dcs false ⟨#[]⟩ 0) 27
  have d0 := hC0.cd.get 0 rfl; have d1 := hC0.cd.get 1 rfl; have d2 := hC0.cd.get 2 rfl; have dl := hC0.cd.1
  clear h0 h2 h3 y0 y2 y3
  go_enter Tryz.func30, Tryz.ntmps30
  go_upto_if 22 with (first
    | (go_at_call 31; (with_reducible refine (H0.out _).mono ?_); rintro e w1 ⟨rfl, hb1⟩; have hC1 := hC0.on hb1; have f1 := f0.on hb1; have a1 := hC1.on ((Below.refl w1.heap.size w1).alloc (Nat.le_refl _) (.cells #[.bool n, .string S0, .int .i64 X0] 27)); have v0 := a1.cv.get 0 rfl; have vl := a1.cv.1; have x0 := a1.cx.get 0 rfl; have xl := a1.cx.1)
    | (go_at_call 32; (with_reducible refine (Y0.out _ a1.wt).mono ?_); rintro e w2 ⟨rfl, ho2, rd2⟩; have hC2 := a1.onl ho2 rd2))
  have hz1 := hb1.size
  have hws : W.heap.size + 1 ≤ w1.heap.size := by simpa using hz1
  have f2 : CF w2 W.heap.size (dcs false ⟨#[]⟩ 0) := (f1.alloc (.cells #[.bool n, .string S0, .int .i64 X0] 27)).onl ho2 (by omega)
  have n2 : Cs w2 w1.heap.size (dcs n S0 X0) := (Cs.new w1 (dcs n S0 X0) 27).onl1 ho2 (by omega)
  have o2 : Onl b W w2 := ((Onl.of hbl (hb0.trans (hb1.mono (by simp)))).more hbl ((Below.refl _ _).alloc (Nat.le_refl _) _)).trans ho2
  have hz2 := ho2.size
  obtain ⟨g5, hg5e⟩ : ∃ g, g = W.heap.size := ⟨_, rfl⟩
  have hg5 : W.heap.size ≤ g5 := by omega
  obtain ⟨gn, hgne⟩ : ∃ g, g = w1.heap.size := ⟨_, rfl⟩
  rw [← hg5e] at f2
  rw [← hgne] at n2
  rw [← hg5e, ← hgne]
  have hgn : W.heap.size ≤ gn ∧ gn ≠ b ∧ gn ≠ g5 ∧ g5 ≠ b := by omega
  obtain ⟨hgn1, hgn2, hgn3, hgn4⟩ := hgn
  have HO2 := Lib.hid o2; have HF2 := Lib.hid f2; have HN2 := Lib.hid n2; have HC2 := Lib.hid hC2; have HRD := Lib.hid rd2
  have m0 := n2.get 0 rfl; have m1 := n2.get 1 rfl; have m2' := n2.get 2 rfl; have ml := n2.1
  have q0 := f2.2 0; have q1 := f2.2 1; have q2' := f2.2 2; have ql := f2.1.1; have r0 := f2.1.get 0 rfl; have r1 := f2.1.get 1 rfl; have r2 := f2.1.get 2 rfl
  clear hg5e hgne f1 f0 hC0 hC1 a1 v0 vl x0 xl d0 d1 d2 dl hb0 hb1 ho2 hz1 hws o2 f2 n2 hC2 rd2 H0 Y0 hC
  cases A with
  | true =>
    go_wp2_with fail
    obtain ⟨Y, hY⟩ : ∃ Y, Y = w2.setCells g5 0 (dcs n S0 X0) := ⟨_, rfl⟩
    change bodyPost _ _ _ _ _ (w2.setCells g5 0 (dcs n S0 X0))
    have D : Cs Y g5 (dcs n S0 X0) := by rw [hY]; exact Cs.stored _ HF2.out.1 rfl
    have bY : Below W.heap.size w2 Y := by rw [hY]; exact below_setCells hg5 _ _ (Below.refl _ _)
    rw [← hY]
    have u0 := D.get 0 rfl; have u1 := D.get 1 rfl; have u2 := D.get 2 rfl; have ul := D.1
    refine bodyPost_ret (v := .tuple #[.agg #[.bool n, .string S0, .int .i64 X0], .bool true]) (by (simp [results, Tryz.results30, go_sem, u0, u1, u2]; done)) rfl ⟨by rw [HR.out]; first | rfl | (simp [dag]; done), HO2.out.own bY hbl, HRD.out.below bY hbl⟩
  | false =>
    have hS2 : Cs (w2.alloc (.cells #[.int .i64 2, .int .i64 3] 3)) w2.heap.size [.int .i64 2, .int .i64 3] := Cs.new w2 [.int .i64 2, .int .i64 3] 3
    have hBS : Below w2.heap.size w2 (w2.alloc (.cells #[.int .i64 2, .int .i64 3] 3)) := (Below.refl _ _).alloc (Nat.le_refl _) _
    have hC3 := HC2.out.on hBS
    have hF3 := HF2.out.on hBS
    have hN3 := HN2.out.on hBS
    have hO3 := HO2.out.more hbl hBS
    have hsb : w2.heap.size ≠ b := by have := HRD.out.lt; omega
    have hsg5 : w2.heap.size ≠ g5 := by omega
    go_wp2_with fail
    obtain ⟨gs, hgs⟩ : ∃ g, g = w2.heap.size := ⟨_, rfl⟩
    rw [← hgs] at hS2 hsb hsg5 ⊢
    have HS2 := Lib.hid hS2; have HC3 := Lib.hid hC3; have HF3 := Lib.hid hF3; have HN3 := Lib.hid hN3; have HO3 := Lib.hid hO3
    clear hS2 hC3 hF3 hN3 hO3 hBS hgs m0 m1 m2' ml q0 q1 q2' ql hz2 r0 r1 r2
    go_loopw [26] (tryLoop gd gv gx v b x n s S0 X X0 gn gs g5 (!m2 && q2) (!m3 && q3) W) (fun iv _ => 2 - (intOf iv).toNat)
    case atStart => exact ⟨Or.inl rfl, HC3, HN3, HS2, HF3, HO3⟩
    case round =>
      clear HS2 HC3 HF3 HN3 HO3 HC2 HN2 HF2 HO2 HRD
      obtain ⟨hcase, HC, HN, HG, HF, HO⟩ := hrel
      have cd0 := HC.out.cd.get 0 rfl; have cd1 := HC.out.cd.get 1 rfl; have cd2 := HC.out.cd.get 2 rfl; have cdl := HC.out.cd.1
      have gs0 := HG.out.get 0 rfl; have gs1 := HG.out.get 1 rfl; have gsl := HG.out.1
      rcases hcase with rfl | ⟨rfl, hno⟩ | ⟨rfl, hno, hno3⟩
      · skip
        have hmq : m2 = true ∨ (m2 = false ∧ q2 = false) ∨ (m2 = false ∧ q2 = true) := by cases m2 <;> cases q2 <;> simp
        rcases hmq with rfl | ⟨rfl, rfl⟩ | ⟨rfl, rfl⟩
        · go_wp2_with (first | (go_at_call 31; (with_reducible refine (H2.out _).mono ?_); rintro e w3 ⟨rfl, hb3⟩; have C3 := HC.out.on hb3; have a3 := C3.on ((Below.refl w3.heap.size w3).alloc (Nat.le_refl _) (.cells #[.bool n, .string S2, .int .i64 X2] 27)); have n3 := (HN.out.on hb3).alloc (.cells #[.bool n, .string S2, .int .i64 X2] 27); have g3 := (HG.out.on hb3).alloc (.cells #[.bool n, .string S2, .int .i64 X2] 27); have f3 := (HF.out.on hb3).alloc (.cells #[.bool n, .string S2, .int .i64 X2] 27); have o3 := (HO.out.more hbl hb3).more hbl ((Below.refl w3.heap.size w3).alloc (Nat.le_refl _) (.cells #[.bool n, .string S2, .int .i64 X2] 27)); have x3 := Cs.new w3 (dcs n S2 X2) 27; have t0 := n3.get 0 rfl; have t1 := n3.get 1 rfl; have t2 := n3.get 2 rfl; have tl := n3.1; have v0 := a3.cv.get 0 rfl; have vl := a3.cv.1; have x0 := a3.cx.get 0 rfl; have xl := a3.cx.1; have hb3z := hb3.size))
          go_roundw
          case rel => exact ⟨Or.inr (Or.inl ⟨rfl, rfl⟩), Lib.hid a3, Lib.hid n3, Lib.hid g3, Lib.hid f3, Lib.hid o3⟩
          case measure => simp [intOf]
        · go_wp2_with (first | (go_at_call 31; (with_reducible refine (H2.out _).mono ?_); rintro e w3 ⟨rfl, hb3⟩; have C3 := HC.out.on hb3; have a3 := C3.on ((Below.refl w3.heap.size w3).alloc (Nat.le_refl _) (.cells #[.bool n, .string S2, .int .i64 X2] 27)); have n3 := (HN.out.on hb3).alloc (.cells #[.bool n, .string S2, .int .i64 X2] 27); have g3 := (HG.out.on hb3).alloc (.cells #[.bool n, .string S2, .int .i64 X2] 27); have f3 := (HF.out.on hb3).alloc (.cells #[.bool n, .string S2, .int .i64 X2] 27); have o3 := (HO.out.more hbl hb3).more hbl ((Below.refl w3.heap.size w3).alloc (Nat.le_refl _) (.cells #[.bool n, .string S2, .int .i64 X2] 27)); have x3 := Cs.new w3 (dcs n S2 X2) 27; have t0 := n3.get 0 rfl; have t1 := n3.get 1 rfl; have t2 := n3.get 2 rfl; have tl := n3.1; have v0 := a3.cv.get 0 rfl; have vl := a3.cv.1; have x0 := a3.cx.get 0 rfl; have xl := a3.cx.1; have hb3z := hb3.size; have hw3b : w3.heap.size ≠ b := (by have := C3.wt.rd.lt; omega); have hw3g : w3.heap.size ≠ g5 := (by have := HF.out.1.1; omega)) | (go_at_call 32; (with_reducible refine (Y2.out _ a3.wt).mono ?_); rintro e w4 ⟨rfl, ho4, rd4⟩; have C4 := a3.onl ho4 rd4; have n4 := n3.onl1 ho4 hgn2; have g4 := g3.onl1 ho4 hsb; have f4 := f3.onl ho4 hgn4; have o4 := o3.trans ho4; have x4 := x3.onl1 ho4 hw3b; have k0 := x4.get 0 rfl; have k1 := x4.get 1 rfl; have k2 := x4.get 2 rfl; have kl := x4.1; have fz0 := f4.2 0; have fz1 := f4.2 1; have fz2 := f4.2 2; have fl := f4.1.1; have fr0 := f4.1.get 0 rfl; have fr1 := f4.1.get 1 rfl; have fr2 := f4.1.get 2 rfl))
          go_roundw
          case rel => exact ⟨Or.inr (Or.inl ⟨rfl, rfl⟩), Lib.hid C4, Lib.hid n4, Lib.hid g4, Lib.hid f4, Lib.hid o4⟩
          case measure => simp [intOf]
        · go_wp2_with (first | (go_at_call 31; (with_reducible refine (H2.out _).mono ?_); rintro e w3 ⟨rfl, hb3⟩; have C3 := HC.out.on hb3; have a3 := C3.on ((Below.refl w3.heap.size w3).alloc (Nat.le_refl _) (.cells #[.bool n, .string S2, .int .i64 X2] 27)); have n3 := (HN.out.on hb3).alloc (.cells #[.bool n, .string S2, .int .i64 X2] 27); have g3 := (HG.out.on hb3).alloc (.cells #[.bool n, .string S2, .int .i64 X2] 27); have f3 := (HF.out.on hb3).alloc (.cells #[.bool n, .string S2, .int .i64 X2] 27); have o3 := (HO.out.more hbl hb3).more hbl ((Below.refl w3.heap.size w3).alloc (Nat.le_refl _) (.cells #[.bool n, .string S2, .int .i64 X2] 27)); have x3 := Cs.new w3 (dcs n S2 X2) 27; have t0 := n3.get 0 rfl; have t1 := n3.get 1 rfl; have t2 := n3.get 2 rfl; have tl := n3.1; have v0 := a3.cv.get 0 rfl; have vl := a3.cv.1; have x0 := a3.cx.get 0 rfl; have xl := a3.cx.1; have hb3z := hb3.size; have hw3b : w3.heap.size ≠ b := (by have := C3.wt.rd.lt; omega); have hw3g : w3.heap.size ≠ g5 := (by have := HF.out.1.1; omega)) | (go_at_call 32; (with_reducible refine (Y2.out _ a3.wt).mono ?_); rintro e w4 ⟨rfl, ho4, rd4⟩; have C4 := a3.onl ho4 rd4; have n4 := n3.onl1 ho4 hgn2; have g4 := g3.onl1 ho4 hsb; have f4 := f3.onl ho4 hgn4; have o4 := o3.trans ho4; have x4 := x3.onl1 ho4 hw3b; have k0 := x4.get 0 rfl; have k1 := x4.get 1 rfl; have k2 := x4.get 2 rfl; have kl := x4.1; have fz0 := f4.2 0; have fz1 := f4.2 1; have fz2 := f4.2 2; have fl := f4.1.1; have fr0 := f4.1.get 0 rfl; have fr1 := f4.1.get 1 rfl; have fr2 := f4.1.get 2 rfl))
          obtain ⟨Y, hY⟩ : ∃ Y, Y = w4.setCells g5 0 (dcs n S2 X2) := ⟨_, rfl⟩
          change bodyPost _ _ _ _ _ (w4.setCells g5 0 (dcs n S2 X2))
          have D : Cs Y g5 (dcs n S2 X2) := by rw [hY]; exact Cs.stored _ f4.1 rfl
          have bY : Below W.heap.size w4 Y := by rw [hY]; exact below_setCells hg5 _ _ (Below.refl _ _)
          rw [← hY]
          have u0 := D.get 0 rfl; have u1 := D.get 1 rfl; have u2 := D.get 2 rfl; have ul := D.1
          refine bodyPost_ret (v := .tuple #[.agg #[.bool n, .string S2, .int .i64 X2], .bool true]) (by (simp [results, Tryz.results30, go_sem, u0, u1, u2]; done)) rfl ⟨by rw [HR.out]; first | rfl | (simp [dag]; done), o4.own bY hbl, rd4.below bY hbl⟩
      · have HNO := Lib.hid hno
        clear hno
        have hmq : m3 = true ∨ (m3 = false ∧ q3 = false) ∨ (m3 = false ∧ q3 = true) := by cases m3 <;> cases q3 <;> simp
        rcases hmq with rfl | ⟨rfl, rfl⟩ | ⟨rfl, rfl⟩
        · go_wp2_with (first | (go_at_call 31; (with_reducible refine (H3.out _).mono ?_); rintro e w3 ⟨rfl, hb3⟩; have C3 := HC.out.on hb3; have a3 := C3.on ((Below.refl w3.heap.size w3).alloc (Nat.le_refl _) (.cells #[.bool n, .string S3, .int .i64 X3] 27)); have n3 := (HN.out.on hb3).alloc (.cells #[.bool n, .string S3, .int .i64 X3] 27); have g3 := (HG.out.on hb3).alloc (.cells #[.bool n, .string S3, .int .i64 X3] 27); have f3 := (HF.out.on hb3).alloc (.cells #[.bool n, .string S3, .int .i64 X3] 27); have o3 := (HO.out.more hbl hb3).more hbl ((Below.refl w3.heap.size w3).alloc (Nat.le_refl _) (.cells #[.bool n, .string S3, .int .i64 X3] 27)); have x3 := Cs.new w3 (dcs n S3 X3) 27; have t0 := n3.get 0 rfl; have t1 := n3.get 1 rfl; have t2 := n3.get 2 rfl; have tl := n3.1; have v0 := a3.cv.get 0 rfl; have vl := a3.cv.1; have x0 := a3.cx.get 0 rfl; have xl := a3.cx.1; have hb3z := hb3.size))
          go_roundw
          case rel => exact ⟨Or.inr (Or.inr ⟨rfl, HNO.out, rfl⟩), Lib.hid a3, Lib.hid n3, Lib.hid g3, Lib.hid f3, Lib.hid o3⟩
          case measure => simp [intOf]
        · go_wp2_with (first | (go_at_call 31; (with_reducible refine (H3.out _).mono ?_); rintro e w3 ⟨rfl, hb3⟩; have C3 := HC.out.on hb3; have a3 := C3.on ((Below.refl w3.heap.size w3).alloc (Nat.le_refl _) (.cells #[.bool n, .string S3, .int .i64 X3] 27)); have n3 := (HN.out.on hb3).alloc (.cells #[.bool n, .string S3, .int .i64 X3] 27); have g3 := (HG.out.on hb3).alloc (.cells #[.bool n, .string S3, .int .i64 X3] 27); have f3 := (HF.out.on hb3).alloc (.cells #[.bool n, .string S3, .int .i64 X3] 27); have o3 := (HO.out.more hbl hb3).more hbl ((Below.refl w3.heap.size w3).alloc (Nat.le_refl _) (.cells #[.bool n, .string S3, .int .i64 X3] 27)); have x3 := Cs.new w3 (dcs n S3 X3) 27; have t0 := n3.get 0 rfl; have t1 := n3.get 1 rfl; have t2 := n3.get 2 rfl; have tl := n3.1; have v0 := a3.cv.get 0 rfl; have vl := a3.cv.1; have x0 := a3.cx.get 0 rfl; have xl := a3.cx.1; have hb3z := hb3.size; have hw3b : w3.heap.size ≠ b := (by have := C3.wt.rd.lt; omega); have hw3g : w3.heap.size ≠ g5 := (by have := HF.out.1.1; omega)) | (go_at_call 32; (with_reducible refine (Y3.out _ a3.wt).mono ?_); rintro e w4 ⟨rfl, ho4, rd4⟩; have C4 := a3.onl ho4 rd4; have n4 := n3.onl1 ho4 hgn2; have g4 := g3.onl1 ho4 hsb; have f4 := f3.onl ho4 hgn4; have o4 := o3.trans ho4; have x4 := x3.onl1 ho4 hw3b; have k0 := x4.get 0 rfl; have k1 := x4.get 1 rfl; have k2 := x4.get 2 rfl; have kl := x4.1; have fz0 := f4.2 0; have fz1 := f4.2 1; have fz2 := f4.2 2; have fl := f4.1.1; have fr0 := f4.1.get 0 rfl; have fr1 := f4.1.get 1 rfl; have fr2 := f4.1.get 2 rfl))
          go_roundw
          case rel => exact ⟨Or.inr (Or.inr ⟨rfl, HNO.out, rfl⟩), Lib.hid C4, Lib.hid n4, Lib.hid g4, Lib.hid f4, Lib.hid o4⟩
          case measure => simp [intOf]
        · go_wp2_with (first | (go_at_call 31; (with_reducible refine (H3.out _).mono ?_); rintro e w3 ⟨rfl, hb3⟩; have C3 := HC.out.on hb3; have a3 := C3.on ((Below.refl w3.heap.size w3).alloc (Nat.le_refl _) (.cells #[.bool n, .string S3, .int .i64 X3] 27)); have n3 := (HN.out.on hb3).alloc (.cells #[.bool n, .string S3, .int .i64 X3] 27); have g3 := (HG.out.on hb3).alloc (.cells #[.bool n, .string S3, .int .i64 X3] 27); have f3 := (HF.out.on hb3).alloc (.cells #[.bool n, .string S3, .int .i64 X3] 27); have o3 := (HO.out.more hbl hb3).more hbl ((Below.refl w3.heap.size w3).alloc (Nat.le_refl _) (.cells #[.bool n, .string S3, .int .i64 X3] 27)); have x3 := Cs.new w3 (dcs n S3 X3) 27; have t0 := n3.get 0 rfl; have t1 := n3.get 1 rfl; have t2 := n3.get 2 rfl; have tl := n3.1; have v0 := a3.cv.get 0 rfl; have vl := a3.cv.1; have x0 := a3.cx.get 0 rfl; have xl := a3.cx.1; have hb3z := hb3.size; have hw3b : w3.heap.size ≠ b := (by have := C3.wt.rd.lt; omega); have hw3g : w3.heap.size ≠ g5 := (by have := HF.out.1.1; omega)) | (go_at_call 32; (with_reducible refine (Y3.out _ a3.wt).mono ?_); rintro e w4 ⟨rfl, ho4, rd4⟩; have C4 := a3.onl ho4 rd4; have n4 := n3.onl1 ho4 hgn2; have g4 := g3.onl1 ho4 hsb; have f4 := f3.onl ho4 hgn4; have o4 := o3.trans ho4; have x4 := x3.onl1 ho4 hw3b; have k0 := x4.get 0 rfl; have k1 := x4.get 1 rfl; have k2 := x4.get 2 rfl; have kl := x4.1; have fz0 := f4.2 0; have fz1 := f4.2 1; have fz2 := f4.2 2; have fl := f4.1.1; have fr0 := f4.1.get 0 rfl; have fr1 := f4.1.get 1 rfl; have fr2 := f4.1.get 2 rfl))
          obtain ⟨Y, hY⟩ : ∃ Y, Y = w4.setCells g5 0 (dcs n S3 X3) := ⟨_, rfl⟩
          change bodyPost _ _ _ _ _ (w4.setCells g5 0 (dcs n S3 X3))
          have D : Cs Y g5 (dcs n S3 X3) := by rw [hY]; exact Cs.stored _ f4.1 rfl
          have bY : Below W.heap.size w4 Y := by rw [hY]; exact below_setCells hg5 _ _ (Below.refl _ _)
          rw [← hY]
          have u0 := D.get 0 rfl; have u1 := D.get 1 rfl; have u2 := D.get 2 rfl; have ul := D.1
          refine bodyPost_ret (v := .tuple #[.agg #[.bool n, .string S3, .int .i64 X3], .bool true]) (by (simp [results, Tryz.results30, go_sem, u0, u1, u2]; done)) rfl ⟨by rw [HR.out, HNO.out]; first | rfl | (simp [dag]; done), o4.own bY hbl, rd4.below bY hbl⟩
      · have n2 := HN.out; have f2 := HF.out
        have m0 := n2.get 0 rfl; have m1 := n2.get 1 rfl; have m2' := n2.get 2 rfl; have ml := n2.1
        have p0 := f2.2 0; have p1 := f2.2 1; have p2 := f2.2 2; have pl := f2.1.1; have r0 := f2.1.get 0 rfl; have r1 := f2.1.get 1 rfl; have r2 := f2.1.get 2 rfl
        have HNO := Lib.hid hno; have HNO3 := Lib.hid hno3
        clear hno hno3 n2 f2
        go_wp2_with fail
        obtain ⟨Y, hY⟩ : ∃ Y, Y = wr.setCells g5 0 (dcs n S0 X0) := ⟨_, rfl⟩
        change bodyPost _ _ _ _ _ (wr.setCells g5 0 (dcs n S0 X0))
        have D : Cs Y g5 (dcs n S0 X0) := by rw [hY]; exact Cs.stored _ HF.out.1 rfl
        have bY : Below W.heap.size wr Y := by rw [hY]; exact below_setCells hg5 _ _ (Below.refl _ _)
        rw [← hY]
        have u0 := D.get 0 rfl; have u1 := D.get 1 rfl; have u2 := D.get 2 rfl; have ul := D.1
        refine bodyPost_ret (v := .tuple #[.agg #[.bool n, .string S0, .int .i64 X0], .bool false]) (by (simp [results, Tryz.results30, go_sem, u0, u1, u2]; done)) rfl ⟨by rw [HR.out, HNO.out, HNO3.out]; first | rfl | (simp [dag]; done), HO.out.own bY hbl, HC.out.wt.rd.below bY hbl⟩
end Go.Proofs.YtiglekomfgfilaaGreatDoor

/- The Writer in the program: the search for the fewest digits. -/
namespace Go.Proofs.YtiglekomfgfilaaGreatDoor
set_option linter.all false
open Go.RowKit
attribute [local go_sem] dc_guard
def drv (r : Dc.Res) : Value := dag r.n ⟨r.l.toArray⟩ r.x
def Fl.tryV (n : Bool) (l : Dc.Bs) (X : Int) (bb k : Nat) : Value := match Fl.tryN n l X bb k with
  | some r => .tuple #[drv r, .bool true]
  | none => .tuple #[drv (Dc.sig n l X k 0), .bool false]
theorem Fl.says_sign {x : Nat} {r : Dc.Res} (hx : x < 18446744073709551616) (hr : Dc.right r.l r.x = true) : decide (Fl.wsign (Fl.neg x) + Fl.bits r.l r.x = x) = Fl.says r (x % 9223372036854775808) := by
  unfold Fl.says
  apply decide_eq_decide.2
  have h := Fl.neg_mod hx
  have hb := Fl.bits_le hr
  constructor
  · intro h1
    exact Nat.add_left_cancel (h1.trans h.symm)
  · intro h1
    rw [h1, h]
theorem sh_try_any (k : Nat) (gd gv gx v b x : Nat) (s : ByteArray) (X : Int) (W : World) (hk : 1 ≤ k ∧ k ≤ 17) (hx : x < 18446744073709551616) (hr : Dc.right s.data.toList X = true) (hne : s.data.toList ≠ []) (hX : -2000 ≤ X ∧ X ≤ 2000) (hC : Caught W gd gv gx v b x (Fl.neg x) s X) :
    Calls Tryz.prog 30 #[.int .i64 k, .pointer (some ⟨gd, 0, none⟩), .pointer (some ⟨gv, 0, none⟩), .pointer (some ⟨gx, 0, none⟩)] W (RetR b (Fl.tryV (Fl.neg x) s.data.toList X (x % 9223372036854775808) k) W) := by
  have hsz := Dc.right_len hr
  rw [bs_length] at hsz
  obtain ⟨n, hn⟩ : ∃ n, n = Fl.neg x := ⟨_, rfl⟩
  obtain ⟨bb, hbb⟩ : ∃ n, n = x % 9223372036854775808 := ⟨_, rfl⟩
  have hs := fun (way : Int) (hw : 0 ≤ way ∧ way ≤ 5) => Fl.sig_ok (s := n) (k := k) (way := way) hr hne (by omega) hw (by omega)
  have sig : ∀ (way : Int) (hw : 0 ≤ way ∧ way ≤ 5) (w1 : World), Calls Tryz.prog 31 #[dag n s X, .int .i64 k, .int .i64 way] w1 (RetB (.tuple #[dag n ⟨(Dc.sig n s.data.toList X k way).l.toArray⟩ (Dc.sig n s.data.toList X k way).x, .int .i64 0]) w1) := fun way hw w1 => by
    have h := d_sig_any n s X k way w1 (by omega) (by omega) (by omega)
    have e : (Dc.sig n s.data.toList X k way).val = .tuple #[dag n ⟨(Dc.sig n s.data.toList X k way).l.toArray⟩ (Dc.sig n s.data.toList X k way).x, .int .i64 0] := by
      rw [Dc.Res.val, (hs way hw).n, (hs way hw).e]; rfl
    rw [e] at h
    exact h
  have say : ∀ (way : Int) (hw : 0 ≤ way ∧ way ≤ 5) (w1 : World), Wtr w1 v b → Calls Tryz.prog 32 #[.pointer (some ⟨v, 0, none⟩), dag n ⟨(Dc.sig n s.data.toList X k way).l.toArray⟩ (Dc.sig n s.data.toList X k way).x, .int .u64 x] w1 (RetR b (.bool (Fl.says (Dc.sig n s.data.toList X k way) bb)) w1) := fun way hw w1 hw1 => by
    have h := sh_says_any v b x n ⟨(Dc.sig n s.data.toList X k way).l.toArray⟩ (Dc.sig n s.data.toList X k way).x w1 hw1 (hs way hw).right
    rw [bs_mk, hn, Fl.says_sign hx (by rw [← hn]; exact (hs way hw).right), ← hbb, ← hn] at h
    exact h
  have eq : ∀ (way : Int) (w1 : World), (binOp .neq 27 (.agg #[.bool n, .string ⟨(Dc.sig n s.data.toList X k way).l.toArray⟩, .int .i64 (Dc.sig n s.data.toList X k way).x]) (.agg #[.bool n, .string ⟨(Dc.sig n s.data.toList X k 0).l.toArray⟩, .int .i64 (Dc.sig n s.data.toList X k 0).x])).run Tryz.prog w1 = .ok (.bool (!(Fl.same (Dc.sig n s.data.toList X k way) (Dc.sig n s.data.toList X k 0)))) w1 := fun way w1 => by
    rw [dc_neq]
    congr 3
    unfold dcEq Fl.same
    rw [toList_data, toList_data, bs_mk, bs_mk, Bool.eq_iff_iff]
    simp
  rw [← hn, ← hbb]
  rw [← hn] at hC
  have h := sh_try_walk k gd gv gx v b x n s _ _ _ X _ _ _ _ _ _ _ _ W hC (sig 0 (by decide)) (sig 2 (by decide)) (sig 3 (by decide)) (say 0 (by decide)) (say 2 (by decide)) (say 3 (by decide)) (eq 2) (eq 3)
  have e : Fl.tryV n s.data.toList X bb k = (if Fl.says (Dc.sig n s.data.toList X k 0) bb = true then .tuple #[dag n ⟨(Dc.sig n s.data.toList X k 0).l.toArray⟩ (Dc.sig n s.data.toList X k 0).x, .bool true]
      else if (!(Fl.same (Dc.sig n s.data.toList X k 2) (Dc.sig n s.data.toList X k 0)) && Fl.says (Dc.sig n s.data.toList X k 2) bb) = true then .tuple #[dag n ⟨(Dc.sig n s.data.toList X k 2).l.toArray⟩ (Dc.sig n s.data.toList X k 2).x, .bool true]
      else if (!(Fl.same (Dc.sig n s.data.toList X k 3) (Dc.sig n s.data.toList X k 0)) && Fl.says (Dc.sig n s.data.toList X k 3) bb) = true then .tuple #[dag n ⟨(Dc.sig n s.data.toList X k 3).l.toArray⟩ (Dc.sig n s.data.toList X k 3).x, .bool true]
      else .tuple #[dag n ⟨(Dc.sig n s.data.toList X k 0).l.toArray⟩ (Dc.sig n s.data.toList X k 0).x, .bool false]) := by
    have n0 := (hs 0 (by decide)).n; have n2 := (hs 2 (by decide)).n; have n3 := (hs 3 (by decide)).n
    unfold Fl.tryV Fl.tryN
    simp only [Bool.and_eq_true, Bool.not_eq_true']
    by_cases c0 : Fl.says (Dc.sig n s.data.toList X k 0) bb = true
    · rw [if_pos c0, if_pos c0]; simp only [drv, n0]
    · rw [if_neg c0, if_neg c0]
      by_cases c2 : Fl.same (Dc.sig n s.data.toList X k 2) (Dc.sig n s.data.toList X k 0) = false ∧ Fl.says (Dc.sig n s.data.toList X k 2) bb = true
      · rw [if_pos c2, if_pos c2]; simp only [drv, n2]
      · rw [if_neg c2, if_neg c2]
        by_cases c3 : Fl.same (Dc.sig n s.data.toList X k 3) (Dc.sig n s.data.toList X k 0) = false ∧ Fl.says (Dc.sig n s.data.toList X k 3) bb = true
        · rw [if_pos c3, if_pos c3]; simp only [drv, n3]
        · rw [if_neg c3, if_neg c3]; simp only [drv, n0]
  rw [e]
  exact h
end Go.Proofs.YtiglekomfgfilaaGreatDoor

/- The Writer in the program: first, Dec, Fifteen. -/
namespace Go.Proofs.YtiglekomfgfilaaGreatDoor
set_option maxRecDepth 100000
set_option maxHeartbeats 8000000
set_option linter.all false
open Go.RowKit
theorem Fl.search_some {n : Bool} {l : Dc.Bs} {X : Int} {bb k m : Nat} {r : Dc.Res} (h : Fl.tryN n l X bb m = some r) (hlast : k = 0 → r = Dc.sig n l X m 0) : Fl.search n l X bb k m = r := by
  cases k with
  | zero => rw [Fl.search]; exact (hlast rfl).symm
  | succ k => rw [Fl.search, h]
theorem Fl.search_none {n : Bool} {l : Dc.Bs} {X : Int} {bb k m : Nat} (h : Fl.tryN n l X bb m = none) : Fl.search n l X bb (k + 1) m = Fl.search n l X bb k (m + 1) := by rw [Fl.search, h]
theorem Fl.try_last {n : Bool} {l : Dc.Bs} {X : Int} {bb : Nat} (h : Fl.bits (Dc.sig n l X 17 0).l (Dc.sig n l X 17 0).x = bb) : Fl.tryN n l X bb 17 = some (Dc.sig n l X 17 0) := by
  unfold Fl.tryN
  exact if_pos (decide_eq_true h)
theorem frozen_setCells (b : Nat) (a : Addr) : ∀ (us : List Value) (o : Nat) (w : World), (w.setCells b o us).frozen? a = w.frozen? a
  | [], _, _ => rfl
  | v :: us, o, w => by rw [World.setCells, frozen_setCells b a us]; exact World.frozen?_setCell ..
theorem CF.other {w : World} {b b' : Nat} {vs : List Value} (us : List Value) (c : CF w b vs) (hne : b ≠ b') : CF (w.setCells b' 0 us) b vs :=
  ⟨c.1.other us hne, fun o => (frozen_setCells ..).trans (c.2 o)⟩
theorem Rdr.setCells {w : World} {b b' : Nat} (us : List Value) (h : Rdr w b) (hne : b ≠ b') : Rdr (w.setCells b' 0 us) b := by
  have hc : ∀ o', (w.setCells b' 0 us).cell? ⟨b, o', none⟩ = w.cell? ⟨b, o', none⟩ := fun o' => World.cell?_setCells_out _ _ _ _ _ (fun e => absurd e hne)
  exact ⟨by rw [size_setCells]; exact h.lt, fun o' => (frozen_setCells ..).trans (h.free o'), fun n h1 h2 => (h.slot n h1 h2).imp (fun s => s.same hc) (fun s => s.same hc)⟩
theorem Wtr.setCells {w : World} {v b b' : Nat} (us : List Value) (h : Wtr w v b) (hv : v ≠ b') (hb : b ≠ b') : Wtr (w.setCells b' 0 us) v b :=
  ⟨(World.cell?_setCells_out _ _ _ _ _ (fun e => absurd e hv)).trans h.cell, by rw [size_setCells]; exact h.lt, h.ne, h.rd.setCells us hb⟩
theorem Caught.setCells {w : World} {gd gv gx v b x b' : Nat} {n : Bool} {s : ByteArray} {X : Int} (us : List Value) (h : Caught w gd gv gx v b x n s X) (h1 : gd ≠ b') (h2 : gv ≠ b') (h3 : gx ≠ b') (h4 : v ≠ b') (h5 : b ≠ b') : Caught (w.setCells b' 0 us) gd gv gx v b x n s X :=
  ⟨h.cd.other us h1, h.cv.other us h2, h.cx.other us h3, h.wt.setCells us h4 h5, h.nd, h.nv, h.nx⟩
def firstLoop (gd gv gx v b x : Nat) (n : Bool) (s : ByteArray) (X : Int) (bb g6 g7 : Nat) (W : World) (iv : Value) (wr : World) : Prop :=
  ∃ m : Nat, 1 ≤ m ∧ m ≤ 17 ∧ iv = .int .i64 m ∧ Hid (Fl.short n s.data.toList X bb = Fl.search n s.data.toList X bb (17 - m) m) ∧ Hid (Caught wr gd gv gx v b x n s X) ∧ Hid (CF wr g6 (dcs false ⟨#[]⟩ 0)) ∧ Hid (∃ n1 S1 X1, CF wr g7 (dcs n1 S1 X1)) ∧ Hid (Onl b W wr)
theorem sh_first_any (gd gv gx v b x : Nat) (s : ByteArray) (X : Int) (W : World) (hx : x < 18446744073709551616) (hr : Dc.right s.data.toList X = true) (hne : s.data.toList ≠ []) (hX : -2000 ≤ X ∧ X ≤ 2000) (hC : Caught W gd gv gx v b x (Fl.neg x) s X)
    (h17 : Fl.bits (Dc.sig (Fl.neg x) s.data.toList X 17 0).l (Dc.sig (Fl.neg x) s.data.toList X 17 0).x = x % 9223372036854775808) :
    Calls Tryz.prog 29 #[.int .i64 1, .int .i64 17, .func (.func 30) #[] #[.pointer (some ⟨gd, 0, none⟩), .pointer (some ⟨gv, 0, none⟩), .pointer (some ⟨gx, 0, none⟩)]] W (RetR b (drv (Fl.short (Fl.neg x) s.data.toList X (x % 9223372036854775808))) W) := by
  have htry := fun (k : Nat) (hk : 1 ≤ k ∧ k ≤ 17) w1 (h : Caught w1 gd gv gx v b x (Fl.neg x) s X) => sh_try_any k gd gv gx v b x s X w1 hk hx hr hne hX h
  have hlast := Fl.try_last h17
  obtain ⟨n, hn⟩ : ∃ n, n = Fl.neg x := ⟨_, rfl⟩
  obtain ⟨bb, hbb⟩ : ∃ n, n = x % 9223372036854775808 := ⟨_, rfl⟩
  rw [← hn, ← hbb] at htry hlast
  rw [← hn] at hC
  rw [← hn, ← hbb]
  obtain ⟨R, hR⟩ : ∃ R, R = Fl.short n s.data.toList X bb := ⟨_, rfl⟩
  rw [← hR]
  have HR := Lib.hid hR
  have hbl := hC.wt.rd.lt
  have hb0 : Below W.heap.size W ((W.alloc (Obj.cells #[Value.bool false, Value.string ⟨#[]⟩, Value.int IntKind.i64 0] 27)).alloc (Obj.cells #[Value.bool false, Value.string ⟨#[]⟩, Value.int IntKind.i64 0] 27)) := ((Below.refl _ _).alloc (Nat.le_refl _) _).alloc (by simp) _
  have hC0 := hC.on hb0
  have f6 := (CF.new W (dcs false ⟨#[]⟩ 0) 27).alloc (.cells #[.bool false, .string ⟨#[]⟩, .int .i64 0] 27)
  have f7 : CF ((W.alloc (Obj.cells #[Value.bool false, Value.string ⟨#[]⟩, Value.int IntKind.i64 0] 27)).alloc (Obj.cells #[Value.bool false, Value.string ⟨#[]⟩, Value.int IntKind.i64 0] 27)) (W.heap.size + 1) (dcs false ⟨#[]⟩ 0) := by
    have h := CF.new (W.alloc (Obj.cells #[Value.bool false, Value.string ⟨#[]⟩, Value.int IntKind.i64 0] 27)) (dcs false ⟨#[]⟩ 0) 27
    rw [World.size_alloc] at h; exact h
  have ho0 := Onl.of hbl hb0
  have HT := Lib.hid htry; have HL := Lib.hid hlast
  have HC0 := Lib.hid hC0; have HF6 := Lib.hid f6; have HF7 : Hid (∃ n1 S1 X1, CF ((W.alloc (Obj.cells #[Value.bool false, Value.string ⟨#[]⟩, Value.int IntKind.i64 0] 27)).alloc (Obj.cells #[Value.bool false, Value.string ⟨#[]⟩, Value.int IntKind.i64 0] 27)) (W.heap.size + 1) (dcs n1 S1 X1)) := Lib.hid ⟨_, _, _, f7⟩
  have HO0 := Lib.hid ho0
  have hne7 : gd ≠ W.heap.size + 1 ∧ gv ≠ W.heap.size + 1 ∧ gx ≠ W.heap.size + 1 ∧ v ≠ W.heap.size + 1 ∧ b ≠ W.heap.size + 1 := by
    have k1 := hC.cd.1; have k2 := hC.cv.1; have k3 := hC.cx.1; have k4 := hC.wt.lt; omega
  have HNE := Lib.hid hne7
  clear hne7 htry hlast hC0 f6 f7 ho0 hb0 hC hR hr hne h17 hn hbb
  go_enter Tryz.func29, Tryz.ntmps29
  go_wp2_with fail
  obtain ⟨g6, hg6⟩ : ∃ g, g = W.heap.size := ⟨_, rfl⟩
  obtain ⟨g7, hg7⟩ : ∃ g, g = W.heap.size + 1 := ⟨_, rfl⟩
  have hgg : W.heap.size ≤ g6 ∧ W.heap.size ≤ g7 ∧ g6 ≠ b ∧ g7 ≠ b ∧ g6 ≠ g7 := by omega
  rw [← hg7] at HF7 HNE
  rw [← hg6] at HF6
  rw [← hg7, ← hg6]
  clear hg6 hg7
  obtain ⟨gq1, gq2, gq3, gq4, gq5⟩ := hgg
  go_loopw [8] (firstLoop gd gv gx v b x n s X bb g6 g7 W) (fun iv _ => 18 - (intOf iv).toNat)
  case atStart => exact ⟨1, by omega, by omega, rfl, Lib.hid rfl, HC0, HF6, HF7, HO0⟩
  case round =>
    clear HC0 HF6 HF7 HO0
    obtain ⟨m, hm1, hm2, rfl, HS, HC, HF6, HF7, HO⟩ := hrel
    have hgd7 : gd ≠ g7 ∧ gv ≠ g7 ∧ gx ≠ g7 ∧ v ≠ g7 ∧ b ≠ g7 := HNE.out
    have ht := HT.out m ⟨hm1, hm2⟩
    obtain ⟨n1, S1, X1, f7⟩ := HF7.out
    cases hq : Fl.tryN n s.data.toList X bb m with
    | some r =>
      have he : R = r := by
        rw [HR.out, HS.out]
        refine Fl.search_some hq fun h0 => ?_
        have hm17 : m = 17 := by omega
        subst hm17
        have hq' := HL.out
        rw [hq] at hq'
        exact Option.some.inj hq'
      rw [Fl.tryV, hq] at ht
      simp only at ht
      have HE := Lib.hid he
      clear he
      obtain ⟨rn, hrn⟩ : ∃ q, q = r.n := ⟨_, rfl⟩
      obtain ⟨rS, hrS⟩ : ∃ q : ByteArray, q = ⟨r.l.toArray⟩ := ⟨_, rfl⟩
      obtain ⟨rX, hrX⟩ : ∃ q, q = r.x := ⟨_, rfl⟩
      unfold drv dag at ht
      rw [← hrn, ← hrS, ← hrX] at ht
      have HV := Lib.hid (show drv R = .agg #[.bool rn, .string rS, .int .i64 rX] by rw [HE.out, drv, dag, hrn, hrS, hrX])
      clear hrn hrS hrX
      have HTM := Lib.hid ht
      have hgdl := HC.out.cd.1; have hgvl := HC.out.cv.1; have hgxl := HC.out.cx.1; have hvl := HC.out.wt.lt
      clear ht hq
      go_upto_region 7 with (first
        | (go_at_call 30; (with_reducible refine (HTM.out _ HC.out).mono ?_); rintro e w2 ⟨rfl, ho2, rd2⟩; have C2 := (HC.out.onl ho2 rd2).on ((Below.refl w2.heap.size w2).alloc (Nat.le_refl _) (.cells #[.bool rn, .string rS, .int .i64 rX] 27)); have f62 := (HF6.out.onl ho2 gq3).alloc (.cells #[.bool rn, .string rS, .int .i64 rX] 27); have f72 := (f7.onl ho2 gq4).alloc (.cells #[.bool rn, .string rS, .int .i64 rX] 27); have o2 := (HO.out.trans ho2).more hbl ((Below.refl w2.heap.size w2).alloc (Nat.le_refl _) (.cells #[.bool rn, .string rS, .int .i64 rX] 27)); have fz0 := f72.2 0; have fz1 := f72.2 1; have fz2 := f72.2 2; have fl := f72.1.1; have fr0 := f72.1.get 0 rfl; have fr1 := f72.1.get 1 rfl; have fr2 := f72.1.get 2 rfl; have w2z := ho2.size))
      obtain ⟨Y, hY⟩ : ∃ Y, Y = (w2.alloc (.cells #[.bool rn, .string rS, .int .i64 rX] 27)).setCells g7 0 (dcs rn rS rX) := ⟨_, rfl⟩
      change Code.wp _ _ _ _ ((w2.alloc (.cells #[.bool rn, .string rS, .int .i64 rX] 27)).setCells g7 0 (dcs rn rS rX))
      rw [← hY]
      have D7 : CF Y g7 (dcs rn rS rX) := by rw [hY]; exact f72.stored _ rfl
      have D6 : CF Y g6 (dcs false ⟨#[]⟩ 0) := by rw [hY]; exact f62.other _ gq5
      have CY : Caught Y gd gv gx v b x n s X := by rw [hY]; exact C2.setCells _ (by omega) (by omega) (by omega) (by omega) (by omega)
      have OY : Onl b W Y := by rw [hY]; exact o2.own (below_setCells gq2 _ _ (Below.refl _ _)) hbl
      have h70 := D7.1.get 0 rfl; have h71 := D7.1.get 1 rfl; have h72 := D7.1.get 2 rfl; have h7l := D7.1.1
      have h60 := D6.1.get 0 rfl; have h61 := D6.1.get 1 rfl; have h62 := D6.1.get 2 rfl; have h6l := D6.1.1; have h6f0 := D6.2 0; have h6f1 := D6.2 1; have h6f2 := D6.2 2
      have HD7 := Lib.hid D7; have HD6 := Lib.hid D6; have HCY := Lib.hid CY; have HOY := Lib.hid OY
      clear hY D7 D6 CY OY fz0 fz1 fz2 fl fr0 fr1 fr2 f72 f62 o2 C2 ho2 rd2 f7
      go_wp2_with fail
      obtain ⟨Z, hZ⟩ : ∃ Z, Z = Y.setCells g6 0 (dcs rn rS rX) := ⟨_, rfl⟩
      change bodyPost _ _ _ _ _ (Y.setCells g6 0 (dcs rn rS rX))
      rw [← hZ]
      have D : Cs Z g6 (dcs rn rS rX) := by rw [hZ]; exact Cs.stored _ HD6.out.1 rfl
      have bZ : Below W.heap.size Y Z := by rw [hZ]; exact below_setCells gq1 _ _ (Below.refl _ _)
      have u0 := D.get 0 rfl; have u1 := D.get 1 rfl; have u2 := D.get 2 rfl; have ul := D.1
      refine bodyPost_ret (v := .agg #[.bool rn, .string rS, .int .i64 rX]) (by (simp [results, Tryz.results29, go_sem, u0, u1, u2]; done)) rfl ⟨by rw [HV.out], HOY.out.own bZ hbl, HCY.out.wt.rd.below bZ hbl⟩
    | none =>
      have hm16 : m < 17 := by
        rcases Nat.lt_or_ge m 17 with h | h
        · exact h
        · exfalso
          have hm17 : m = 17 := by omega
          subst hm17
          have hq' := HL.out
          rw [hq] at hq'; cases hq'
      have hs2 : Fl.short n s.data.toList X bb = Fl.search n s.data.toList X bb (17 - (m + 1)) (m + 1) := by
        rw [HS.out, show 17 - m = (17 - (m + 1)) + 1 by omega]
        exact Fl.search_none hq
      have HS2 := Lib.hid hs2
      rw [Fl.tryV, hq] at ht
      simp only at ht
      clear hs2
      obtain ⟨rn, hrn⟩ : ∃ q, q = (Dc.sig n s.data.toList X m 0).n := ⟨_, rfl⟩
      obtain ⟨rS, hrS⟩ : ∃ q : ByteArray, q = ⟨(Dc.sig n s.data.toList X m 0).l.toArray⟩ := ⟨_, rfl⟩
      obtain ⟨rX, hrX⟩ : ∃ q, q = (Dc.sig n s.data.toList X m 0).x := ⟨_, rfl⟩
      unfold drv dag at ht
      rw [← hrn, ← hrS, ← hrX] at ht
      clear hrn hrS hrX
      have HTM := Lib.hid ht
      have hgdl := HC.out.cd.1; have hgvl := HC.out.cv.1; have hgxl := HC.out.cx.1; have hvl := HC.out.wt.lt
      clear ht hq
      go_upto_region 7 with (first
        | (go_at_call 30; (with_reducible refine (HTM.out _ HC.out).mono ?_); rintro e w2 ⟨rfl, ho2, rd2⟩; have C2 := (HC.out.onl ho2 rd2).on ((Below.refl w2.heap.size w2).alloc (Nat.le_refl _) (.cells #[.bool rn, .string rS, .int .i64 rX] 27)); have f62 := (HF6.out.onl ho2 gq3).alloc (.cells #[.bool rn, .string rS, .int .i64 rX] 27); have f72 := (f7.onl ho2 gq4).alloc (.cells #[.bool rn, .string rS, .int .i64 rX] 27); have o2 := (HO.out.trans ho2).more hbl ((Below.refl w2.heap.size w2).alloc (Nat.le_refl _) (.cells #[.bool rn, .string rS, .int .i64 rX] 27)); have fz0 := f72.2 0; have fz1 := f72.2 1; have fz2 := f72.2 2; have fl := f72.1.1; have fr0 := f72.1.get 0 rfl; have fr1 := f72.1.get 1 rfl; have fr2 := f72.1.get 2 rfl; have w2z := ho2.size))
      obtain ⟨Y, hY⟩ : ∃ Y, Y = (w2.alloc (.cells #[.bool rn, .string rS, .int .i64 rX] 27)).setCells g7 0 (dcs rn rS rX) := ⟨_, rfl⟩
      change Code.wp _ _ _ _ ((w2.alloc (.cells #[.bool rn, .string rS, .int .i64 rX] 27)).setCells g7 0 (dcs rn rS rX))
      rw [← hY]
      have D7 : CF Y g7 (dcs rn rS rX) := by rw [hY]; exact f72.stored _ rfl
      have D6 : CF Y g6 (dcs false ⟨#[]⟩ 0) := by rw [hY]; exact f62.other _ gq5
      have CY : Caught Y gd gv gx v b x n s X := by rw [hY]; exact C2.setCells _ (by omega) (by omega) (by omega) (by omega) (by omega)
      have OY : Onl b W Y := by rw [hY]; exact o2.own (below_setCells gq2 _ _ (Below.refl _ _)) hbl
      have h70 := D7.1.get 0 rfl; have h71 := D7.1.get 1 rfl; have h72 := D7.1.get 2 rfl; have h7l := D7.1.1
      have h60 := D6.1.get 0 rfl; have h61 := D6.1.get 1 rfl; have h62 := D6.1.get 2 rfl; have h6l := D6.1.1; have h6f0 := D6.2 0; have h6f1 := D6.2 1; have h6f2 := D6.2 2
      have HD7 := Lib.hid D7; have HD6 := Lib.hid D6; have HCY := Lib.hid CY; have HOY := Lib.hid OY
      clear hY D7 D6 CY OY fz0 fz1 fz2 fl fr0 fr1 fr2 f72 f62 o2 C2 ho2 rd2 f7
      go_wp2_with fail
      go_roundw
      case rel => exact ⟨m + 1, by omega, by omega, by go_num, HS2, HCY, HD6, Lib.hid ⟨rn, rS, rX, HD7.out⟩, HOY⟩
      case measure => simp [intOf]; omega
end Go.Proofs.YtiglekomfgfilaaGreatDoor

/- The Writer in the program: Dec, Fifteen. -/
namespace Go.Proofs.YtiglekomfgfilaaGreatDoor
set_option maxRecDepth 100000
set_option maxHeartbeats 8000000
set_option linter.all false
open Go.RowKit
theorem drv_val (r : Dc.Res) : r.val = .tuple #[drv r, .int .i64 r.e] := rfl
theorem sh_dec_end (v b x : Nat) (W : World) (ht : Tab W) (hx : x < 18446744073709551616) (hW : Wtr W v b) (hc : 3 ≤ Fl.kind x ∨ (Fl.kind x < 3 ∧ (Fl.dec x).l = [])) :
    Calls Tryz.prog 10 #[.pointer (some ⟨v, 0, none⟩), .int .u64 x] W (RetR b (.tuple #[drv (Fl.wdec x), .int .i64 (Fl.wdec x).e]) W) := by
  have hv : Fl.wdec x = Fl.dec x := by
    rcases hc with h | ⟨h, h2⟩
    · rw [Fl.wdec, if_pos h, Fl.dec, if_pos h]
    · rw [Fl.wdec, if_neg (by omega), if_pos h2]
  rw [hv]
  have hd := fun w1 (hb : Below W.heap.size W w1) => ex_dec_any x hx w1 (ht.below hb)
  rw [drv_val] at hd
  have hce : (Fl.dec x).e = 11 ∨ ((Fl.dec x).e = 0 ∧ (⟨(Fl.dec x).l.toArray⟩ : ByteArray).toList.isEmpty = true) := by
    rcases hc with h | ⟨h, h2⟩
    · left; rw [Fl.dec, if_pos h]
    · right; exact ⟨(Fl.decx_fine x h).1, by rw [h2]; exact isEmpty_of_zero (by decide)⟩
  rcases hq : Fl.dec x with ⟨n, l, X, e⟩
  rw [hq] at hd hce
  simp only at hce
  unfold drv dag at hd ⊢
  simp only at hd ⊢
  obtain ⟨S, hS⟩ : ∃ S : ByteArray, S = ⟨l.toArray⟩ := ⟨_, rfl⟩
  rw [← hS] at hd hce ⊢
  have hbl := hW.rd.lt
  have hbox : Below W.heap.size W (((W.alloc (Obj.cells #[.pointer (some ⟨v, 0, none⟩)] 24)).alloc (Obj.cells #[.int .u64 x] 22)).alloc (Obj.cells #[.bool false, .string ⟨#[]⟩, .int .i64 0] 27)) := (((Below.refl _ _).alloc (Nat.le_refl _) _).alloc (by simp) _).alloc (by simp; omega) _
  have f4 : CF (((W.alloc (Obj.cells #[.pointer (some ⟨v, 0, none⟩)] 24)).alloc (Obj.cells #[.int .u64 x] 22)).alloc (Obj.cells #[.bool false, .string ⟨#[]⟩, .int .i64 0] 27)) (W.heap.size + 1 + 1) (dcs false ⟨#[]⟩ 0) := by
    have h := CF.new ((W.alloc (Obj.cells #[.pointer (some ⟨v, 0, none⟩)] 24)).alloc (Obj.cells #[.int .u64 x] 22)) (dcs false ⟨#[]⟩ 0) 27
    rw [World.size_alloc, World.size_alloc] at h; exact h
  have x3 : Cs (((W.alloc (Obj.cells #[.pointer (some ⟨v, 0, none⟩)] 24)).alloc (Obj.cells #[.int .u64 x] 22)).alloc (Obj.cells #[.bool false, .string ⟨#[]⟩, .int .i64 0] 27)) (W.heap.size + 1) [.int .u64 x] := by
    have h := Cs.new (W.alloc (Obj.cells #[.pointer (some ⟨v, 0, none⟩)] 24)) [.int .u64 x] 22
    rw [World.size_alloc] at h; exact h.alloc _
  have HD := Lib.hid hd
  have HF := Lib.hid (fun w' (h : Below W.heap.size W w') => (⟨hW.rd.onl h, hW.rd.on h⟩ : Onl b W w' ∧ Rdr w' b))
  have hfin : ∀ w1, Below W.heap.size W w1 → CF w1 (W.heap.size + 1 + 1) (dcs false ⟨#[]⟩ 0) → RetR b (.tuple #[.agg #[.bool n, .string S, .int .i64 X], .int .i64 e]) W (.returned (.tuple #[.agg #[.bool n, .string S, .int .i64 X], .int .i64 e])) (w1.setCells (W.heap.size + 1 + 1) 0 (dcs n S X)) ∧ Cs (w1.setCells (W.heap.size + 1 + 1) 0 (dcs n S X)) (W.heap.size + 1 + 1) (dcs n S X) := fun w1 h1 h2 =>
    ⟨⟨rfl, HF.out _ (below_setCells (by omega) _ _ h1)⟩, Cs.stored _ h2.1 rfl⟩
  have HFIN := Lib.hid hfin
  have x30 := x3.get 0 rfl; have x3l := x3.1
  clear hfin hd hS hq hv hW
  have hcc : e = 11 ∨ e = 0 ∧ S.toList.isEmpty = true := hce
  clear hce hc
  rcases hcc with rfl | ⟨rfl, c⟩
  all_goals (
    go_enter Tryz.func10, Tryz.ntmps10
    go_upto_region 3 with (first
      | (go_at_call 28; (with_reducible refine (HD.out _ hbox).mono ?_); rintro e w1 ⟨rfl, hb1⟩; have hB1 := hbox.trans (hb1.mono hbox.size); have f1 := f4.on hb1; have hz1 := hB1.size))
    have hBY : Below W.heap.size W (w1.alloc (.cells #[.bool n, .string S, .int .i64 X] 27)) := hB1.alloc hz1 _
    have fY := f1.alloc (.cells #[.bool n, .string S, .int .i64 X] 27)
    have dY := Cs.new w1 (dcs n S X) 27
    change Cs (w1.alloc (.cells #[.bool n, .string S, .int .i64 X] 27)) _ _ at dY
    obtain ⟨V, hV⟩ : ∃ V, V = w1.alloc (.cells #[.bool n, .string S, .int .i64 X] 27) := ⟨_, rfl⟩
    rw [← hV] at hBY fY dY ⊢
    obtain ⟨g4, hg4⟩ : ∃ g, g = W.heap.size + 1 + 1 := ⟨_, rfl⟩
    obtain ⟨hr, D⟩ := HFIN.out _ hBY (by rw [← hg4] at fY ⊢; exact fY)
    rw [← hg4] at hr D fY ⊢
    have r0 := fY.1.get 0 rfl; have r1 := fY.1.get 1 rfl; have r2 := fY.1.get 2 rfl; have rl := fY.1.1; have z0 := fY.2 0; have z1 := fY.2 1; have z2 := fY.2 2
    have y0 := dY.get 0 rfl; have y1 := dY.get 1 rfl; have y2 := dY.get 2 rfl; have yl := dY.1
    have HR := Lib.hid hr; have HD2 := Lib.hid D
    clear hr D fY dY hBY hB1 hb1 f1 hz1 f4 hbox hV hg4 x30 x3l x3
    go_wp2_with fail
    have u0 := HD2.out.get 0 rfl; have u1 := HD2.out.get 1 rfl; have u2 := HD2.out.get 2 rfl; have ul := HD2.out.1
    have hr := HR.out
    obtain ⟨Z, hZ⟩ : ∃ Z, Z = V.setCells g4 0 (dcs n S X) := ⟨_, rfl⟩
    change bodyPost _ _ _ _ _ (V.setCells g4 0 (dcs n S X))
    rw [← hZ] at u0 u1 u2 ul hr ⊢
    clear hZ
    refine bodyPost_ret (v := .tuple #[.agg #[.bool n, .string S, .int .i64 X], .int .i64 _]) (by (simp [results, Tryz.results10, go_sem, u0, u1, u2]; done)) rfl hr)
end Go.Proofs.YtiglekomfgfilaaGreatDoor
