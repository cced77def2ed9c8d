/- Chapter 8's law: a greater decimal is no lesser number; the other sign turns the number's. -/
import Derived.Test.YtjnkbifafbjckaaGreatDoorZ25
import Derived.Test.YtjnkbifafbjckaaGreatDoorZ28
import Derived.Test.YtjnkbifafbjckaaGreatDoorZ24
import Derived.Test.YtjnkbifafbjckaaGreatDoorZ7
import Derived.Test.YtjnkbifafbjckaaGreatDoorZ22
import Derived.Test.YtjnkbifafbjckaaGreatDoorZ17
import Derived.Test.YtjnkbifafbjckaaGreatDoorZ13
namespace Go.Proofs.YtjnkbifafbjckaaGreatDoor
set_option linter.all false
open Go.RowKit

/-- Two decimals in two blocks. -/
def Two (W : World) (g : Nat) (m : Bool) (s : ByteArray) (x : Int) (n : Bool) (t : ByteArray) (y : Int) : Prop := Cs W g [.bool m, .string s, .int .i64 x] ∧ Cs W (g + 1) [.bool n, .string t, .int .i64 y] ∧ (∀ o, W.frozen? ⟨g, o, none⟩ = false) ∧ ∀ o, W.frozen? ⟨g + 1, o, none⟩ = false
theorem Two.new (w : World) (m n : Bool) (s t : ByteArray) (x y : Int) : Two ((w.alloc (Obj.cells #[Value.bool m, Value.string s, Value.int IntKind.i64 x] 25)).alloc (Obj.cells #[Value.bool n, Value.string t, Value.int IntKind.i64 y] 25)) w.heap.size m s x n t y := by
  refine ⟨(Cs.new w [.bool m, .string s, .int .i64 x] 25).alloc _, ?_, fun o => ?_, fun o => ?_⟩
  · have h := Cs.new (w.alloc (Obj.cells #[Value.bool m, Value.string s, Value.int IntKind.i64 x] 25)) [.bool n, .string t, .int .i64 y] 25
    rw [World.size_alloc] at h; exact h
  · simp [go_sem]
  · simp [go_sem]
theorem Two.on {W W' : World} {g : Nat} {m n : Bool} {s t : ByteArray} {x y : Int} (h : Two W g m s x n t y) (hb : Below W.heap.size W W') : Two W' g m s x n t y :=
  ⟨h.1.on hb, h.2.1.on hb, fun o => (hb.frozen (p := ⟨g, o, none⟩) h.1.1).trans (h.2.2.1 o), fun o => (hb.frozen (p := ⟨g + 1, o, none⟩) h.2.1.1).trans (h.2.2.2 o)⟩
theorem Two.onl {W W' : World} {g c : Nat} {m n : Bool} {s t : ByteArray} {x y : Int} (h : Two W g m s x n t y) (ho : Onl c W W') (h1 : g + 1 < c) : Two W' g m s x n t y :=
  ⟨h.1.onl ho (by omega), h.2.1.onl ho (by omega), fun o => (ho.frozen (k := g) (o := o) (by omega) h.1.1).trans (h.2.2.1 o), fun o => (ho.frozen (k := g + 1) (o := o) (by omega) h.2.1.1).trans (h.2.2.2 o)⟩
theorem set0 {W : World} {g : Nat} {v u : Value} {vs : List Value} (h : Cs W g (v :: vs)) : Cs (W.setCell ⟨g, 0, none⟩ u) g (u :: vs) := by
  refine ⟨by rw [World.size_setCell]; exact h.1, fun k hk => ?_⟩
  cases k with
  | zero => exact World.cell?_setCell_same _ _ _ (h.2 0 (by simp))
  | succ k =>
    rw [World.cell?_setCell_other _ ⟨g, 0, none⟩ ⟨g, k + 1, none⟩ _ (by intro e; injection e; omega)]
    exact h.2 (k + 1) hk
theorem setO {W : World} {g c o : Nat} {u : Value} {vs : List Value} (h : Cs W g vs) (hne : g ≠ c) : Cs (W.setCell ⟨c, o, none⟩ u) g vs :=
  ⟨by rw [World.size_setCell]; exact h.1, fun k hk => by
    rw [World.cell?_setCell_other _ ⟨c, o, none⟩ ⟨g, k, none⟩ _ (by intro e; injection e; omega)]; exact h.2 k hk⟩
theorem Two.fst {W : World} {g : Nat} {m n u : Bool} {s t : ByteArray} {x y : Int} (h : Two W g m s x n t y) : Two (W.setCell ⟨g, 0, none⟩ (.bool u)) g u s x n t y :=
  ⟨set0 h.1, setO h.2.1 (by omega), fun o => (World.frozen?_setCell ..).trans (h.2.2.1 o), fun o => (World.frozen?_setCell ..).trans (h.2.2.2 o)⟩
theorem Two.snd {W : World} {g : Nat} {m n u : Bool} {s t : ByteArray} {x y : Int} (h : Two W g m s x n t y) : Two (W.setCell ⟨g + 1, 0, none⟩ (.bool u)) g m s x u t y :=
  ⟨setO h.1 (by omega), set0 h.2.1, fun o => (World.frozen?_setCell ..).trans (h.2.2.1 o), fun o => (World.frozen?_setCell ..).trans (h.2.2.2 o)⟩

/-- What Bits tells where the decimal is not right. -/
theorem re_bits_no {b : Nat} {n : Bool} {s : ByteArray} {x : Int} (w : World) (hs : s.size ≤ 9223372036854775807) (hR : Rdr w b) (hr : Dc.right s.data.toList x = false) :
    Calls Tryz.prog 34 #[.pointer (some ⟨b, 0, none⟩), .agg #[.bool n, .string s, .int .i64 x]] w (RetR b (.tuple #[.int .u64 0, .int .i64 1]) w) := by
  have h := re_bits_any b n s x w hs hR
  rw [Fl.readOf, if_neg (by rw [hr]; decide)] at h
  exact h
theorem re_bits_yes {b : Nat} {n : Bool} {s : ByteArray} {x : Int} {Z Y : Nat} (w : World) (hs : s.size ≤ 9223372036854775807) (hR : Rdr w b) (hr : Dc.right s.data.toList x = true) (hZ : Z = Fl.bits s.data.toList x) (hY : Y = Fl.wsign n + Z) :
    Calls Tryz.prog 34 #[.pointer (some ⟨b, 0, none⟩), .agg #[.bool n, .string s, .int .i64 x]] w (RetR b (.tuple #[.int .u64 Y, .int .i64 0]) w) := by
  have h := re_bits_any b n s x w hs hR
  rw [Fl.readOf, if_pos hr, ← hZ, ← hY] at h
  exact h

theorem Rdr.setOther {w : World} {b c o : Nat} {u : Value} (h : Rdr w b) (hne : b ≠ c) : Rdr (w.setCell ⟨c, o, none⟩ u) b := by
  have hc : ∀ o', (w.setCell ⟨c, o, none⟩ u).cell? ⟨b, o', none⟩ = w.cell? ⟨b, o', none⟩ := fun o' => World.cell?_setCell_other _ ⟨c, o, none⟩ ⟨b, o', none⟩ _ (by intro e; injection e; omega)
  exact ⟨by rw [World.size_setCell]; exact h.lt, fun o' => (World.frozen?_setCell ..).trans (h.free o'), fun n h1 h2 => (h.slot n h1 h2).imp (fun s => s.same hc) (fun s => s.same hc)⟩
set_option maxRecDepth 100000 in
set_option maxHeartbeats 8000000 in
/-- Too long. -/
theorem l8_orders_long (m n : Bool) (s t : ByteArray) (x y : Int) (w : World) (hc : 1200 < s.size ∨ (s.size ≤ 1200 ∧ 1200 < t.size)) :
    Calls Tryz.prog 9 #[.agg #[.bool m, .string s, .int .i64 x], .agg #[.bool n, .string t, .int .i64 y]] w (RetB (.bool true) w) := by
  have HS := Lib.hid (fun w1 => l8_shown_any w1)
  have HN := Lib.hid (fun w1 => re_new_any w1)
  have HT0 := Two.new w m n s t x y
  have hb0 : Below w.heap.size w ((w.alloc (Obj.cells #[Value.bool m, Value.string s, Value.int IntKind.i64 x] 25)).alloc (Obj.cells #[Value.bool n, Value.string t, Value.int IntKind.i64 y] 25)) := ((Below.refl _ _).alloc (Nat.le_refl _) _).alloc (by simp) _
  rcases hc with hc | ⟨hc, hd⟩
  all_goals (
    go_enter Tryz.func9, Tryz.ntmps9
    go_wp2_with (first
      | (go_at_call 32; (with_reducible refine (HS.out _).mono ?_); rintro e w1 ⟨rfl, hb1⟩; have hB1 : Below w.heap.size w w1 := hb0.trans (hb1.mono (by simp; omega)); have T1 := HT0.on hb1; have a0 := T1.1.get 0 rfl; have a1 := T1.1.get 1 rfl; have a2 := T1.1.get 2 rfl; have al := T1.1.1; have b0 := T1.2.1.get 0 rfl; have b1 := T1.2.1.get 1 rfl; have b2 := T1.2.1.get 2 rfl; have bl := T1.2.1.1))
    go_ret
    exact RetB.of rfl hB1)

set_option maxRecDepth 100000 in
set_option maxHeartbeats 8000000 in
/-- The first one is not right. -/
theorem l8_orders_no1 (m n : Bool) (s t : ByteArray) (x y : Int) (w : World) (hs : s.size ≤ 1200) (ht : t.size ≤ 1200) (hr : Dc.right s.data.toList x = false) :
    Calls Tryz.prog 9 #[.agg #[.bool m, .string s, .int .i64 x], .agg #[.bool n, .string t, .int .i64 y]] w (RetB (.bool true) w) := by
  have HS := Lib.hid (fun w1 => l8_shown_any w1)
  have HN := Lib.hid (fun w1 => re_new_any w1)
  have HT0 := Two.new w m n s t x y
  have hb0 : Below w.heap.size w ((w.alloc (Obj.cells #[Value.bool m, Value.string s, Value.int IntKind.i64 x] 25)).alloc (Obj.cells #[Value.bool n, Value.string t, Value.int IntKind.i64 y] 25)) := ((Below.refl _ _).alloc (Nat.le_refl _) _).alloc (by simp) _
  have H1 := Lib.hid (fun b w1 (h : Rdr w1 b) => re_bits_no (n := false) w1 (by omega) h hr)
  have h2 := fun b w1 (h : Rdr w1 b) => re_bits_any b false t y w1 (by omega) h
  obtain ⟨Y, hY⟩ : ∃ Y, Y = (Fl.readOf false t.data.toList y).1 := ⟨_, rfl⟩
  obtain ⟨F, hF⟩ : ∃ Y, Y = (Fl.readOf false t.data.toList y).2 := ⟨_, rfl⟩
  rw [← hY, ← hF] at h2
  have H2 := Lib.hid h2
  clear h2 hY hF hr
  go_enter Tryz.func9, Tryz.ntmps9
  go_upto_region 7 with (first
    | (go_at_call 32; (with_reducible refine (HS.out _).mono ?_); rintro e w1 ⟨rfl, hb1⟩; have hB1 : Below w.heap.size w w1 := hb0.trans (hb1.mono (by simp; omega)); have T1 := HT0.on hb1; have a0 := T1.1.get 0 rfl; have a1 := T1.1.get 1 rfl; have a2 := T1.1.get 2 rfl; have al := T1.1.1; have b0 := T1.2.1.get 0 rfl; have b1 := T1.2.1.get 1 rfl; have b2 := T1.2.1.get 2 rfl; have bl := T1.2.1.1)
    | (go_at_call 33; (with_reducible refine (HN.out _).mono ?_); rintro e w2 ⟨rfl, rd2, hb2⟩; have hB2 : Below w.heap.size w w2 := hB1.trans (hb2.mono hB1.size); have T2 := T1.on hb2; clear a0 a1 a2 b0 b1 b2 al bl; have a0 := T2.1.get 0 rfl; have a1 := T2.1.get 1 rfl; have a2 := T2.1.get 2 rfl; have al := T2.1.1; have b0 := T2.2.1.get 0 rfl; have b1 := T2.2.1.get 1 rfl; have b2 := T2.2.1.get 2 rfl; have bl := T2.2.1.1; have af := T2.2.2.1 0; have bf := T2.2.2.2 0))
  have hgl : w.heap.size + 1 < w1.heap.size := T1.2.1.1
  obtain ⟨X, hX⟩ : ∃ X, X = (w2.setCell ⟨w.heap.size, 0, none⟩ (.bool false)).setCell ⟨w.heap.size + 1, 0, none⟩ (.bool false) := ⟨_, rfl⟩
  rw [← hX]
  have TX : Two X w.heap.size false s x false t y := by rw [hX]; exact T2.fst.snd
  have RX : Rdr X w1.heap.size := by rw [hX]; exact (rd2.setOther (by omega)).setOther (by omega)
  have BX : Below w.heap.size w X := by rw [hX]; exact (hB2.setCell (Nat.le_refl _) _).setCell (Nat.le_succ _) _
  obtain ⟨g, hg⟩ : ∃ g, g = w.heap.size := ⟨_, rfl⟩
  rw [← hg] at TX hgl ⊢
  have hgw : w.heap.size ≤ g := by omega
  clear hg hX a0 a1 a2 al b0 b1 b2 bl af bf hb2 rd2 hB2 T2 hb1 T1 HT0 hb0 HS HN
  have a0 := TX.1.get 0 rfl; have a1 := TX.1.get 1 rfl; have a2 := TX.1.get 2 rfl; have al := TX.1.1
  have hzX := BX.size
  go_wp2_with (first
    | (go_at_call 34; (with_reducible refine (H1.out _ _ RX).mono ?_); rintro e w3 ⟨rfl, ho_w3, rd_w3⟩; have B_w3 : Below w.heap.size w w3 := BX.trans (ho_w3.up (by omega)); have T_w3 := TX.onl ho_w3 hgl; have z_w3 := B_w3.size; have ua0 := T_w3.1.get 0 rfl; have ua1 := T_w3.1.get 1 rfl; have ua2 := T_w3.1.get 2 rfl; have ual := T_w3.1.1; have ub0 := T_w3.2.1.get 0 rfl; have ub1 := T_w3.2.1.get 1 rfl; have ub2 := T_w3.2.1.get 2 rfl; have ubl := T_w3.2.1.1)
    | (go_at_call 34; (with_reducible refine (H2.out _ _ rd_w3).mono ?_); rintro e w4 ⟨rfl, ho_w4, rd_w4⟩; have B_w4 : Below w.heap.size w w4 := B_w3.trans (ho_w4.up (by omega)); have T_w4 := T_w3.onl ho_w4 hgl; have z_w4 := B_w4.size; skip))
  go_ret
  exact RetB.of rfl B_w4

set_option maxRecDepth 100000 in
set_option maxHeartbeats 8000000 in
/-- The second one is not right. -/
theorem l8_orders_no2 (m n : Bool) (s t : ByteArray) (x y : Int) (w : World) (hs : s.size ≤ 1200) (ht : t.size ≤ 1200) (hr0 : Dc.right s.data.toList x = true) (hr : Dc.right t.data.toList y = false) :
    Calls Tryz.prog 9 #[.agg #[.bool m, .string s, .int .i64 x], .agg #[.bool n, .string t, .int .i64 y]] w (RetB (.bool true) w) := by
  have HS := Lib.hid (fun w1 => l8_shown_any w1)
  have HN := Lib.hid (fun w1 => re_new_any w1)
  have HT0 := Two.new w m n s t x y
  have hb0 : Below w.heap.size w ((w.alloc (Obj.cells #[Value.bool m, Value.string s, Value.int IntKind.i64 x] 25)).alloc (Obj.cells #[Value.bool n, Value.string t, Value.int IntKind.i64 y] 25)) := ((Below.refl _ _).alloc (Nat.le_refl _) _).alloc (by simp) _
  obtain ⟨Z, hZ⟩ : ∃ Z, Z = Fl.bits s.data.toList x := ⟨_, rfl⟩
  have H1 := Lib.hid (fun b w1 (h : Rdr w1 b) => re_bits_yes (n := false) (Y := Z) w1 (by omega) h hr0 hZ (by rw [show Fl.wsign false = 0 from rfl]; omega))
  have H2 := Lib.hid (fun b w1 (h : Rdr w1 b) => re_bits_no (n := false) w1 (by omega) h hr)
  clear hZ hr hr0
  go_enter Tryz.func9, Tryz.ntmps9
  go_upto_region 7 with (first
    | (go_at_call 32; (with_reducible refine (HS.out _).mono ?_); rintro e w1 ⟨rfl, hb1⟩; have hB1 : Below w.heap.size w w1 := hb0.trans (hb1.mono (by simp; omega)); have T1 := HT0.on hb1; have a0 := T1.1.get 0 rfl; have a1 := T1.1.get 1 rfl; have a2 := T1.1.get 2 rfl; have al := T1.1.1; have b0 := T1.2.1.get 0 rfl; have b1 := T1.2.1.get 1 rfl; have b2 := T1.2.1.get 2 rfl; have bl := T1.2.1.1)
    | (go_at_call 33; (with_reducible refine (HN.out _).mono ?_); rintro e w2 ⟨rfl, rd2, hb2⟩; have hB2 : Below w.heap.size w w2 := hB1.trans (hb2.mono hB1.size); have T2 := T1.on hb2; clear a0 a1 a2 b0 b1 b2 al bl; have a0 := T2.1.get 0 rfl; have a1 := T2.1.get 1 rfl; have a2 := T2.1.get 2 rfl; have al := T2.1.1; have b0 := T2.2.1.get 0 rfl; have b1 := T2.2.1.get 1 rfl; have b2 := T2.2.1.get 2 rfl; have bl := T2.2.1.1; have af := T2.2.2.1 0; have bf := T2.2.2.2 0))
  have hgl : w.heap.size + 1 < w1.heap.size := T1.2.1.1
  obtain ⟨X, hX⟩ : ∃ X, X = (w2.setCell ⟨w.heap.size, 0, none⟩ (.bool false)).setCell ⟨w.heap.size + 1, 0, none⟩ (.bool false) := ⟨_, rfl⟩
  rw [← hX]
  have TX : Two X w.heap.size false s x false t y := by rw [hX]; exact T2.fst.snd
  have RX : Rdr X w1.heap.size := by rw [hX]; exact (rd2.setOther (by omega)).setOther (by omega)
  have BX : Below w.heap.size w X := by rw [hX]; exact (hB2.setCell (Nat.le_refl _) _).setCell (Nat.le_succ _) _
  obtain ⟨g, hg⟩ : ∃ g, g = w.heap.size := ⟨_, rfl⟩
  rw [← hg] at TX hgl ⊢
  have hgw : w.heap.size ≤ g := by omega
  clear hg hX a0 a1 a2 al b0 b1 b2 bl af bf hb2 rd2 hB2 T2 hb1 T1 HT0 hb0 HS HN
  have a0 := TX.1.get 0 rfl; have a1 := TX.1.get 1 rfl; have a2 := TX.1.get 2 rfl; have al := TX.1.1
  have hzX := BX.size
  go_wp2_with (first
    | (go_at_call 34; (with_reducible refine (H1.out _ _ RX).mono ?_); rintro e w3 ⟨rfl, ho_w3, rd_w3⟩; have B_w3 : Below w.heap.size w w3 := BX.trans (ho_w3.up (by omega)); have T_w3 := TX.onl ho_w3 hgl; have z_w3 := B_w3.size; have ua0 := T_w3.1.get 0 rfl; have ua1 := T_w3.1.get 1 rfl; have ua2 := T_w3.1.get 2 rfl; have ual := T_w3.1.1; have ub0 := T_w3.2.1.get 0 rfl; have ub1 := T_w3.2.1.get 1 rfl; have ub2 := T_w3.2.1.get 2 rfl; have ubl := T_w3.2.1.1)
    | (go_at_call 34; (with_reducible refine (H2.out _ _ rd_w3).mono ?_); rintro e w4 ⟨rfl, ho_w4, rd_w4⟩; have B_w4 : Below w.heap.size w w4 := B_w3.trans (ho_w4.up (by omega)); have T_w4 := T_w3.onl ho_w4 hgl; have z_w4 := B_w4.size; skip))
  go_ret
  exact RetB.of rfl B_w4

set_option maxRecDepth 100000 in
set_option maxHeartbeats 8000000 in
/-- Both are right. -/
theorem l8_orders_yes (m n : Bool) (s t : ByteArray) (x y : Int) (w : World) (hs : s.size ≤ 1200) (ht : t.size ≤ 1200) (hr : Dc.right s.data.toList x = true) (hr2 : Dc.right t.data.toList y = true) :
    Calls Tryz.prog 9 #[.agg #[.bool m, .string s, .int .i64 x], .agg #[.bool n, .string t, .int .i64 y]] w (RetB (.bool true) w) := by
  have HS := Lib.hid (fun w1 => l8_shown_any w1)
  have HN := Lib.hid (fun w1 => re_new_any w1)
  have HT0 := Two.new w m n s t x y
  have hb0 : Below w.heap.size w ((w.alloc (Obj.cells #[Value.bool m, Value.string s, Value.int IntKind.i64 x] 25)).alloc (Obj.cells #[Value.bool n, Value.string t, Value.int IntKind.i64 y] 25)) := ((Below.refl _ _).alloc (Nat.le_refl _) _).alloc (by simp) _
  obtain ⟨q1, q2⟩ := Fl.bits_cmp hr hr2
  have l1 := Fl.bits_le hr
  have l2 := Fl.bits_le hr2
  have hc := fun w1 => r7_cmp_any false false s t x y w1 (by omega) (by omega)
  obtain ⟨c, hce⟩ : ∃ c, c = Dc.cmpC false s.data.toList x false t.data.toList y := ⟨_, rfl⟩
  rw [← hce] at q1 q2 hc
  obtain ⟨Z, hZ⟩ : ∃ Z, Z = Fl.bits s.data.toList x := ⟨_, rfl⟩
  obtain ⟨V, hV⟩ : ∃ Z, Z = Fl.bits t.data.toList y := ⟨_, rfl⟩
  obtain ⟨N, hN⟩ : ∃ N, N = 9223372036854775808 + Z := ⟨_, rfl⟩
  have hNi : (Z : Int) + 9223372036854775808 = (N : Int) := by omega
  have H1 := Lib.hid (fun b w1 (h : Rdr w1 b) => re_bits_yes (n := false) (Y := Z) w1 (by omega) h hr hZ (by rw [show Fl.wsign false = 0 from rfl]; omega))
  have H2 := Lib.hid (fun b w1 (h : Rdr w1 b) => re_bits_yes (n := false) (Y := V) w1 (by omega) h hr2 hV (by rw [show Fl.wsign false = 0 from rfl]; omega))
  have H3 := Lib.hid (fun b w1 (h : Rdr w1 b) => re_bits_yes (n := true) (Y := N) w1 (by omega) h hr hZ hN)
  rw [← hZ, ← hV] at q1 q2
  rw [← hZ] at l1
  rw [← hV] at l2
  have HC := Lib.hid hc
  have hNl : N < 18446744073709551616 := by omega
  have hcase : (0 < c ∧ V ≤ Z) ∨ (¬ 0 < c ∧ Z ≤ V) := by
    by_cases h : 0 < c
    · exact Or.inl ⟨h, q1 h⟩
    · exact Or.inr ⟨h, q2 h⟩
  clear hZ hV hN hr hr2 hce hc q1 q2
  rcases hcase with ⟨d1, d2⟩ | ⟨d1, d2⟩
  all_goals (
    go_enter Tryz.func9, Tryz.ntmps9
    go_upto_region 7 with (first
      | (go_at_call 32; (with_reducible refine (HS.out _).mono ?_); rintro e w1 ⟨rfl, hb1⟩; have hB1 : Below w.heap.size w w1 := hb0.trans (hb1.mono (by simp; omega)); have T1 := HT0.on hb1; have a0 := T1.1.get 0 rfl; have a1 := T1.1.get 1 rfl; have a2 := T1.1.get 2 rfl; have al := T1.1.1; have b0 := T1.2.1.get 0 rfl; have b1 := T1.2.1.get 1 rfl; have b2 := T1.2.1.get 2 rfl; have bl := T1.2.1.1)
      | (go_at_call 33; (with_reducible refine (HN.out _).mono ?_); rintro e w2 ⟨rfl, rd2, hb2⟩; have hB2 : Below w.heap.size w w2 := hB1.trans (hb2.mono hB1.size); have T2 := T1.on hb2; clear a0 a1 a2 b0 b1 b2 al bl; have a0 := T2.1.get 0 rfl; have a1 := T2.1.get 1 rfl; have a2 := T2.1.get 2 rfl; have al := T2.1.1; have b0 := T2.2.1.get 0 rfl; have b1 := T2.2.1.get 1 rfl; have b2 := T2.2.1.get 2 rfl; have bl := T2.2.1.1; have af := T2.2.2.1 0; have bf := T2.2.2.2 0))
    have hgl : w.heap.size + 1 < w1.heap.size := T1.2.1.1
    obtain ⟨X, hX⟩ : ∃ X, X = (w2.setCell ⟨w.heap.size, 0, none⟩ (.bool false)).setCell ⟨w.heap.size + 1, 0, none⟩ (.bool false) := ⟨_, rfl⟩
    rw [← hX]
    have TX : Two X w.heap.size false s x false t y := by rw [hX]; exact T2.fst.snd
    have RX : Rdr X w1.heap.size := by rw [hX]; exact (rd2.setOther (by omega)).setOther (by omega)
    have BX : Below w.heap.size w X := by rw [hX]; exact (hB2.setCell (Nat.le_refl _) _).setCell (Nat.le_succ _) _
    obtain ⟨g, hg⟩ : ∃ g, g = w.heap.size := ⟨_, rfl⟩
    rw [← hg] at TX hgl ⊢
    have hgw : w.heap.size ≤ g := by omega
    clear hg hX a0 a1 a2 al b0 b1 b2 bl af bf hb2 rd2 hB2 T2 hb1 T1 HT0 hb0 HS HN
    have a0 := TX.1.get 0 rfl; have a1 := TX.1.get 1 rfl; have a2 := TX.1.get 2 rfl; have al := TX.1.1
    have hzX := BX.size
    go_upto_region 16 with (first
      | (go_at_call 34; (with_reducible refine (H1.out _ _ RX).mono ?_); rintro e w3 ⟨rfl, ho_w3, rd_w3⟩; have B_w3 : Below w.heap.size w w3 := BX.trans (ho_w3.up (by omega)); have T_w3 := TX.onl ho_w3 hgl; have z_w3 := B_w3.size; have ua0 := T_w3.1.get 0 rfl; have ua1 := T_w3.1.get 1 rfl; have ua2 := T_w3.1.get 2 rfl; have ual := T_w3.1.1; have ub0 := T_w3.2.1.get 0 rfl; have ub1 := T_w3.2.1.get 1 rfl; have ub2 := T_w3.2.1.get 2 rfl; have ubl := T_w3.2.1.1)
      | (go_at_call 34; (with_reducible refine (H2.out _ _ rd_w3).mono ?_); rintro e w4 ⟨rfl, ho_w4, rd_w4⟩; have B_w4 : Below w.heap.size w w4 := B_w3.trans (ho_w4.up (by omega)); have T_w4 := T_w3.onl ho_w4 hgl; have z_w4 := B_w4.size; have va0 := T_w4.1.get 0 rfl; have va1 := T_w4.1.get 1 rfl; have va2 := T_w4.1.get 2 rfl; have val := T_w4.1.1; have vb0 := T_w4.2.1.get 0 rfl; have vb1 := T_w4.2.1.get 1 rfl; have vb2 := T_w4.2.1.get 2 rfl; have vbl := T_w4.2.1.1)
      | (go_at_call 41; (with_reducible refine (HC.out _).mono ?_); rintro e w5 ⟨rfl, hb5⟩; have B_w5 : Below w.heap.size w w5 := B_w4.trans (hb5.mono B_w4.size); have T_w5 := T_w4.on hb5; have rd_w5 := rd_w4.on hb5; have pa0 := T_w5.1.get 0 rfl; have pa1 := T_w5.1.get 1 rfl; have pa2 := T_w5.1.get 2 rfl; have pal := T_w5.1.1; have pb0 := T_w5.2.1.get 0 rfl; have pb1 := T_w5.2.1.get 1 rfl; have pb2 := T_w5.2.1.get 2 rfl; have pbl := T_w5.2.1.1; have pf := T_w5.2.2.1 0))
    obtain ⟨Y1, hY1⟩ : ∃ Y1, Y1 = w5.setCell ⟨g, 0, none⟩ (.bool true) := ⟨_, rfl⟩
    rw [← hY1]
    have T_y1 : Two Y1 g true s x false t y := by rw [hY1]; exact T_w5.fst
    have rd_y1 : Rdr Y1 w1.heap.size := by rw [hY1]; exact rd_w5.setOther (by omega)
    have B_y1 : Below w.heap.size w Y1 := by rw [hY1]; exact B_w5.setCell hgw _
    clear hY1 pa0 pa1 pa2 pal pb0 pb1 pb2 pbl pf
    have qa0 := T_y1.1.get 0 rfl; have qa1 := T_y1.1.get 1 rfl; have qa2 := T_y1.1.get 2 rfl; have qal := T_y1.1.1; have qb0 := T_y1.2.1.get 0 rfl; have qb1 := T_y1.2.1.get 1 rfl; have qb2 := T_y1.2.1.get 2 rfl; have qbl := T_y1.2.1.1
    go_upto_region 18 with (first
      | (go_at_call 34; (with_reducible refine (H3.out _ _ rd_y1).mono ?_); rintro e w6 ⟨rfl, ho_w6, rd_w6⟩; have B_w6 : Below w.heap.size w w6 := B_y1.trans (ho_w6.up (by omega)); have T_w6 := T_y1.onl ho_w6 hgl; have z_w6 := B_w6.size; have ra0 := T_w6.1.get 0 rfl; have ra1 := T_w6.1.get 1 rfl; have ra2 := T_w6.1.get 2 rfl; have ral := T_w6.1.1; have rb0 := T_w6.2.1.get 0 rfl; have rb1 := T_w6.2.1.get 1 rfl; have rb2 := T_w6.2.1.get 2 rfl; have rbl := T_w6.2.1.1; have rf := T_w6.2.2.1 0))
    obtain ⟨Y2, hY2⟩ : ∃ Y2, Y2 = w6.setCell ⟨g, 0, none⟩ (.bool false) := ⟨_, rfl⟩
    rw [← hY2]
    have T_y2 : Two Y2 g false s x false t y := by rw [hY2]; exact T_w6.fst
    have rd_y2 : Rdr Y2 w1.heap.size := by rw [hY2]; exact rd_w6.setOther (by omega)
    have B_y2 : Below w.heap.size w Y2 := by rw [hY2]; exact B_w6.setCell hgw _
    clear hY2 ra0 ra1 ra2 ral rb0 rb1 rb2 rbl rf
    have ka0 := T_y2.1.get 0 rfl; have ka1 := T_y2.1.get 1 rfl; have ka2 := T_y2.1.get 2 rfl; have kal := T_y2.1.1; have kb0 := T_y2.2.1.get 0 rfl; have kb1 := T_y2.2.1.get 1 rfl; have kb2 := T_y2.2.1.get 2 rfl; have kbl := T_y2.2.1.1
    go_wp2_with (first
      | (go_at_call 34; (with_reducible refine (H1.out _ _ rd_y2).mono ?_); rintro e w7 ⟨rfl, ho_w7, rd_w7⟩; have B_w7 : Below w.heap.size w w7 := B_y2.trans (ho_w7.up (by omega)); have T_w7 := T_y2.onl ho_w7 hgl; have z_w7 := B_w7.size; skip))
    go_ret
    exact RetB.of rfl B_w7)

theorem l8_orders_any (m n : Bool) (s t : ByteArray) (x y : Int) (w : World) :
    Calls Tryz.prog 9 #[.agg #[.bool m, .string s, .int .i64 x], .agg #[.bool n, .string t, .int .i64 y]] w (RetB (.bool true) w) := by
  by_cases hs : s.size ≤ 1200
  · by_cases ht : t.size ≤ 1200
    · cases hr : Dc.right s.data.toList x with
      | false => exact l8_orders_no1 m n s t x y w hs ht hr
      | true =>
        cases hr2 : Dc.right t.data.toList y with
        | false => exact l8_orders_no2 m n s t x y w hs ht hr hr2
        | true => exact l8_orders_yes m n s t x y w hs ht hr hr2
    · exact l8_orders_long m n s t x y w (Or.inr ⟨hs, by omega⟩)
  · exact l8_orders_long m n s t x y w (Or.inl (by omega))
end Go.Proofs.YtjnkbifafbjckaaGreatDoor

/- Plain Lean: ints and middles as texts: what the texts of ReadInts and of ReadHalves are read as. -/
namespace Go.Proofs.YtjnkbifafbjckaaGreatDoor.Fl
set_option linter.all false
open Go

/-- The natural of the middle above a number, and how many of its places lie behind the point. -/
def midJ (x : Nat) : Nat := (1 - expn x).toNat
def midN (x : Nat) : Nat := if 1 ≤ expn x then (2 * mant x + 1) * 2 ^ (expn x - 1).toNat else (2 * mant x + 1) * 5 ^ midJ x

theorem midN_pow {x : Nat} : midN x * 2 ^ (low + 1) = (2 * mant x + 1) * 2 ^ (expn x + 1074).toNat * 10 ^ midJ x := by
  have hb := expn_bound x
  by_cases h : 1 ≤ expn x
  · obtain ⟨k, hk⟩ : ∃ k : Nat, expn x = (k : Int) + 1 := ⟨(expn x - 1).toNat, by omega⟩
    rw [midN, if_pos h, midJ, hk, show ((k : Int) + 1 - 1).toNat = k by omega, show (1 - ((k : Int) + 1)).toNat = 0 by omega, Nat.pow_zero, Nat.mul_one, show ((k : Int) + 1 + 1074).toNat = k + (low + 1) by unfold low; omega, Nat.pow_add 2 k, Nat.mul_assoc]
  · obtain ⟨j, hj⟩ : ∃ j : Nat, expn x = 1 - (j : Int) := ⟨(1 - expn x).toNat, by omega⟩
    rw [midN, if_neg h, midJ, hj, show (1 - (1 - (j : Int))).toNat = j by omega]
    obtain ⟨k, hk⟩ : ∃ k : Nat, low + 1 = k + j := ⟨1075 - j, by unfold low; omega⟩
    rw [show (1 - (j : Int) + 1074).toNat = k by unfold low at hk; omega, hk, Nat.pow_add, show (10 : Nat) ^ j = 2 ^ j * 5 ^ j by rw [← Nat.mul_pow]]
    simp only [Nat.mul_assoc, Nat.mul_comm, Nat.mul_left_comm]

theorem fin_kind {x : Nat} (hx : x < 9218868437227405311) : kind x < 3 := by
  unfold kind expo frac
  rw [if_neg (by omega)]
  split
  · omega
  · split <;> omega
theorem V_at {x : Nat} (hx : x < 9218868437227405311) : V x = mant x * 2 ^ (expn x + 1074).toNat ∧ V (x + 1) = (mant x + 1) * 2 ^ (expn x + 1074).toNat := by
  have k := fin_kind hx
  have h1 := (V_parts x k).1
  have h2 := V_next x k
  rw [show x % 9223372036854775808 = x by omega] at h1 h2
  exact ⟨h1, h2⟩
theorem mid_sum {x : Nat} (hx : x < 9218868437227405311) : (V x + V (x + 1)) * 10 ^ midJ x = 2 * (midN x * 2 ^ low) := by
  obtain ⟨h1, h2⟩ := V_at hx
  have h3 := midN_pow (x := x)
  have h4 : ∀ n : Nat, 2 ^ (n + 1) = 2 ^ n * 2 := fun n => Nat.pow_succ 2 n
  rw [h4 low, ← Nat.mul_assoc] at h3
  rw [h1, h2, ← Nat.add_mul, show mant x + (mant x + 1) = 2 * mant x + 1 by omega, ← h3, Nat.mul_comm]
/-- One place more leaves room for one on either side. -/
theorem mid_gap {x : Nat} (hx : x < 9218868437227405311) : V x * 10 ^ (midJ x + 1) + 4 * 2 ^ low < V (x + 1) * 10 ^ (midJ x + 1) := by
  obtain ⟨h1, h2⟩ := V_at hx
  rw [h1, h2, Nat.add_mul, Nat.add_mul, Nat.one_mul]
  apply Nat.add_lt_add_left
  have hb := expn_bound x
  obtain ⟨k, hk⟩ : ∃ k : Nat, (expn x + 1074).toNat = k := ⟨_, rfl⟩
  obtain ⟨j, hj⟩ : ∃ j : Nat, midJ x = j := ⟨_, rfl⟩
  have hkj : low + 1 ≤ k + j := by unfold midJ at hj; unfold low; omega
  rw [hk, hj]
  have h5 : 2 ^ (low + 1) ≤ 2 ^ (k + j) := Nat.pow_le_pow_right (by decide) hkj
  have h6 : 2 ^ j ≤ 10 ^ j := Nat.pow_le_pow_left (by decide) j
  have h7 : 2 ^ k * 2 ^ j ≤ 2 ^ k * 10 ^ j := Nat.mul_le_mul_left _ h6
  rw [← Nat.pow_add] at h7
  rw [Nat.pow_succ, ← Nat.mul_assoc]
  have h4 : ∀ n : Nat, 2 ^ (n + 1) = 2 ^ n * 2 := fun n => Nat.pow_succ 2 n
  have h8 := h4 low
  have h9 : 0 < 2 ^ low := Nat.pow_pos (by decide)
  rw [h8] at h5
  clear h8 hkj hb
  omega

theorem half_mid {x : Nat} (hx : x < 9218868437227405311) : Near (midN x * 2 ^ low) (10 ^ midJ x) (x + x % 2) :=
  (near_mid hx (Nat.pow_pos (by decide))).1 (mid_sum hx).symm
theorem mid_sum10 {x : Nat} (hx : x < 9218868437227405311) : (V x + V (x + 1)) * 10 ^ (midJ x + 1) = 20 * (midN x * 2 ^ low) := by
  rw [Nat.pow_succ, ← Nat.mul_assoc, mid_sum hx]; omega
theorem half_up {x : Nat} (hx : x < 9218868437227405311) : Near ((10 * midN x + 1) * 2 ^ low) (10 ^ (midJ x + 1)) (x + 1) := by
  have hs := mid_sum10 hx
  have hg := mid_gap hx
  have h9 : 0 < 2 ^ low := Nat.pow_pos (by decide)
  have h2 : V (x + 1) < V (x + 2) := V_succ (x + 1)
  have e : 2 * ((10 * midN x + 1) * 2 ^ low) = 20 * (midN x * 2 ^ low) + 2 * 2 ^ low := by
    rw [Nat.add_mul, Nat.mul_assoc, Nat.one_mul]; omega
  refine (near_mid hx (Nat.pow_pos (by decide))).2.1 (by rw [e, hs]; omega) ?_
  rw [e, ← hs]
  have h3 := Nat.mul_le_mul_right (10 ^ (midJ x + 1)) (Nat.le_of_lt h2)
  rw [Nat.add_mul, Nat.add_mul]
  clear e hs
  omega
theorem midN_pos (x : Nat) : 0 < midN x := by
  unfold midN
  split <;> exact Nat.mul_pos (by omega) (Nat.pow_pos (by decide))
theorem half_down {x : Nat} (hx : x < 9218868437227405311) : Near ((10 * (midN x - 1) + 9) * 2 ^ low) (10 ^ (midJ x + 1)) x := by
  have hs := mid_sum10 hx
  have hg := mid_gap hx
  have h0 := midN_pos x
  have h9 : 0 < 2 ^ low := Nat.pow_pos (by decide)
  have e : 2 * ((10 * (midN x - 1) + 9) * 2 ^ low) + 2 * 2 ^ low = 20 * (midN x * 2 ^ low) := by
    obtain ⟨n, hn⟩ : ∃ n, midN x = n + 1 := ⟨midN x - 1, by omega⟩
    rw [hn, Nat.add_sub_cancel, Nat.add_mul, Nat.add_mul, Nat.mul_assoc, Nat.one_mul]; omega
  refine (near_mid hx (Nat.pow_pos (by decide))).2.2 (by rw [hs]; omega) ?_
  by_cases hx0 : x = 0
  · exact Or.inl hx0
  right
  have h2 := V_succ (x - 1)
  rw [show x - 1 + 1 = x by omega] at h2
  have h3 := Nat.mul_le_mul_right (10 ^ (midJ x + 1)) (Nat.le_of_lt h2)
  rw [Nat.add_mul] at hs ⊢
  omega

theorem midJ_le {x : Nat} : midJ x ≤ 1075 := by have := expn_bound x; unfold midJ; omega
theorem midN_len {x : Nat} : (Lib.decDigits (midN x)).length ≤ 800 := by
  have hb := expn_bound x
  have hm := mant_lt x
  unfold midN
  split
  · exact Nat.le_trans (up_len (by omega) (by unfold n971; omega)) (by decide)
  · exact mid_len (by omega) midJ_le (by unfold low; rfl)

/-- Digits times ten to the minus j-th: a number of the scale. -/
theorem near_down {N j b : Nat} (hj : j ≤ 1100) (h : Near (N * 2 ^ low) (10 ^ j) b) : Near (N * 10 ^ (-(j : Int) + Dc.lift).toNat * 2 ^ low) (10 ^ Dc.lift) b := by
  have hlift : Dc.lift = 200000 := rfl
  refine near_cross (Nat.pow_pos (by decide)) (Nat.pow_pos (by decide)) ?_ h
  obtain ⟨c, hc⟩ : ∃ c, Dc.lift = j + c := ⟨Dc.lift - j, by omega⟩
  rw [show (-(j : Int) + (Dc.lift : Int)).toNat = c by omega, hc, Nat.pow_add]
  simp only [Nat.mul_assoc, Nat.mul_comm, Nat.mul_left_comm]
theorem readS_of {t : Dc.Bs} {ds : Dc.Bs} {y : Int} {b : Nat} (hp : Dc.parse t = Dc.mk false ds y) (hd : Dc.allDig ds = true) (hl : ds.length ≤ 1000) (hy : -50000 ≤ y ∧ y ≤ 50000) (h : Near (Dc.nv ds * 10 ^ (y + Dc.lift).toNat * 2 ^ low) (10 ^ Dc.lift) b) : readS t = (b, 0) := by
  obtain ⟨h1, h2, h3, h4⟩ := bits_mk hd hl hy h
  rw [readS, hp, if_pos h1, h2, h4]
  show (0 + b, (0 : Int)) = _
  rw [Nat.zero_add]
theorem dec_ne (N : Nat) : Lib.decDigits N ≠ [] := (Dc.decDigits_dig N).2.2

theorem half_text_mid {x : Nat} (hx : x < 9218868437227405311) : readS (Lib.decDigits (midN x) ++ (101 :: 45 :: Lib.decDigits (midJ x))) = (x + x % 2, 0) := by
  have hj := midJ_le (x := x)
  refine readS_of (parse_dec _ 45 (midJ x) (dig_dec _) (dec_ne _) (Or.inr rfl) (by omega)) (dig_dec _) (Nat.le_trans midN_len (by decide)) (by rw [if_pos rfl]; omega) ?_
  rw [if_pos rfl, nv_dec]
  exact near_down (by omega) (half_mid hx)
theorem dig_more {N : Nat} {c : UInt8} (hc : Dc.isDig c = true) : Dc.allDig (Lib.decDigits N ++ [c]) = true ∧ Dc.nv (Lib.decDigits N ++ [c]) = 10 * N + (c.toNat - 48) := by
  constructor
  · have h := dig_dec N
    unfold Dc.allDig at h ⊢
    rw [List.all_append, h]; simp [hc]
  · have h := nv_dec N
    unfold Dc.nv at h ⊢
    rw [List.foldl_append, h]; rfl
theorem half_text_up {x : Nat} (hx : x < 9218868437227405311) : readS ((Lib.decDigits (midN x) ++ [49]) ++ (101 :: 45 :: Lib.decDigits (midJ x + 1))) = (x + 1, 0) := by
  have hj := midJ_le (x := x)
  obtain ⟨d1, d2⟩ := dig_more (N := midN x) (c := 49) (by decide)
  refine readS_of (parse_dec _ 45 (midJ x + 1) d1 (by simp) (Or.inr rfl) (by omega)) d1 (by rw [List.length_append]; have := midN_len (x := x); simp; omega) (by rw [if_pos rfl]; omega) ?_
  rw [if_pos rfl, d2, show 10 * midN x + ((49 : UInt8).toNat - 48) = 10 * midN x + 1 from rfl]
  exact near_down (by omega) (half_up hx)
/-- What the digits less one, and a nine behind them, are made. -/
def lessD (x : Nat) : Dc.Res := Dc.mk false (Lib.decDigits (midN x - 1) ++ [57]) 0
theorem less_fine (x : Nat) : (lessD x).e = 0 ∧ (lessD x).n = false ∧ Dc.right (lessD x).l (lessD x).x = true ∧ (lessD x).l.length ≤ 801 ∧ (lessD x).l ≠ [] ∧ 0 ≤ (lessD x).x ∧ (lessD x).x ≤ 900 ∧ Dc.vv (lessD x).l (lessD x).x = (10 * (midN x - 1) + 9) * 10 ^ Dc.lift := by
  have hlift : Dc.lift = 200000 := rfl
  obtain ⟨d1, d2⟩ := dig_more (N := midN x - 1) (c := 57) (by decide)
  have hle : (Lib.decDigits (midN x - 1)).length ≤ 800 := by
    have h := midN_len (x := x)
    obtain ⟨k, hk⟩ : ∃ k, (Lib.decDigits (midN x)).length = k := ⟨_, rfl⟩
    have h1 := Dc.nv_lt (dig_dec (midN x))
    rw [nv_dec, hk] at h1
    obtain ⟨n, hn⟩ : ∃ n : Nat, n = 799 := ⟨_, rfl⟩
    have h2 : midN x - 1 < 10 ^ (n + 1) := Nat.lt_of_lt_of_le (show midN x - 1 < 10 ^ k by omega) (Nat.pow_le_pow_right (by decide) (by omega))
    have h3 := len_dec h2
    omega
  have hl : (Lib.decDigits (midN x - 1) ++ [57]).length ≤ 801 := by rw [List.length_append]; simp; omega
  obtain ⟨k1, k2⟩ := mk_fine false (Lib.decDigits (midN x - 1) ++ [57]) 0 d1 (by omega) (by omega)
  obtain ⟨m1, m2, m3⟩ := Dc.mk_vv false (Lib.decDigits (midN x - 1) ++ [57]) 0 d1 (by omega) k1
  have hv : Dc.vv (lessD x).l (lessD x).x = (10 * (midN x - 1) + 9) * 10 ^ Dc.lift := by
    unfold lessD
    rw [m3, d2, show ((0 : Int) + (Dc.lift : Int)).toNat = Dc.lift by omega, show (57 : UInt8).toNat - 48 = 9 from rfl]
  have hne : (lessD x).l ≠ [] := fun h => by
    have h2 : Dc.vv (lessD x).l (lessD x).x = 0 := by rw [h, Dc.vv_zero]
    rw [hv] at h2
    have := Nat.mul_pos (show 0 < 10 * (midN x - 1) + 9 by omega) (Nat.pow_pos (n := Dc.lift) (show 0 < 10 by decide))
    omega
  have hc : Dc.core (Lib.decDigits (midN x - 1) ++ [57]) ≠ [] := fun h => by
    apply hne
    unfold lessD
    rw [Dc.mk_zero d1 h]
  have hr : Dc.right (Dc.core (Lib.decDigits (midN x - 1) ++ [57])) (0 + Dc.tz (Lib.decDigits (midN x - 1) ++ [57])) = true := by
    by_cases h : Dc.right (Dc.core (Lib.decDigits (midN x - 1) ++ [57])) (0 + Dc.tz (Lib.decDigits (midN x - 1) ++ [57])) = true
    · exact h
    · rw [Dc.mk_over d1 hc h] at k1; cases k1
  have hx : (lessD x).x = (Dc.tz (Lib.decDigits (midN x - 1) ++ [57]) : Int) := by unfold lessD; rw [Dc.mk_ok d1 hc hr]; simp
  have ht : Dc.tz (Lib.decDigits (midN x - 1) ++ [57]) ≤ 801 := by
    exact Nat.le_trans (Dc.tz_le _) hl
  exact ⟨k1, m1, m2, Nat.le_trans k2 hl, hne, by omega, by omega, hv⟩
theorem half_text_down {x : Nat} (hx : x < 9218868437227405311) (y : Int) (c : UInt8) (u : Nat) (hy : y = (lessD x).x - midJ x - 1) (hc : c = 43 ∧ y = u ∨ c = 45 ∧ y = -(u : Int)) : readS ((lessD x).l ++ (101 :: c :: Lib.decDigits u)) = (x, 0) := by
  have hlift : Dc.lift = 200000 := rfl
  have hj := midJ_le (x := x)
  obtain ⟨k1, k2, k3, k4, k5, k6, k7, k8⟩ := less_fine x
  have hd := Dc.right_dig k3
  have hcy : (if c = 45 then -(u : Int) else (u : Int)) = y := by
    rcases hc with ⟨rfl, h⟩ | ⟨rfl, h⟩
    · rw [if_neg (by decide), h]
    · rw [if_pos rfl, h]
  have hp := parse_dec (lessD x).l c u hd k5 (by rcases hc with ⟨h, -⟩ | ⟨h, -⟩ <;> simp [h]) (by rcases hc with ⟨-, h⟩ | ⟨-, h⟩ <;> omega)
  rw [hcy] at hp
  refine readS_of hp hd (by omega) (by omega) ?_
  have h := half_down hx
  refine near_cross (Nat.pow_pos (by decide)) (Nat.pow_pos (by decide)) ?_ h
  have hv : Dc.nv (lessD x).l * 10 ^ ((lessD x).x + Dc.lift).toNat = (10 * (midN x - 1) + 9) * 10 ^ Dc.lift := k8
  obtain ⟨c2, hc2⟩ : ∃ c2 : Nat, (y + Dc.lift).toNat = c2 := ⟨_, rfl⟩
  have e1 : ((lessD x).x + (Dc.lift : Int)).toNat = c2 + (midJ x + 1) := by omega
  rw [e1, Nat.pow_add] at hv
  rw [hc2]
  have e2 : Dc.nv (lessD x).l * 10 ^ c2 * 2 ^ low * 10 ^ (midJ x + 1) = Dc.nv (lessD x).l * (10 ^ c2 * 10 ^ (midJ x + 1)) * 2 ^ low := by
    simp only [Nat.mul_assoc, Nat.mul_comm, Nat.mul_left_comm]
  rw [e2, hv]
  simp only [Nat.mul_assoc, Nat.mul_comm, Nat.mul_left_comm]

/-- The texts of ReadInts. -/
theorem int_text_up {m k : Nat} (hm : m < 2 ^ 54) (hk : k ≤ n971) : readS (Lib.decDigits (m * 2 ^ k)) = (rd m k false, 0) := by
  obtain ⟨h1, h2, h3, h4⟩ := int_up hm hk
  rw [readS, parse_plain _ (dig_dec _) (dec_ne _), if_pos h1, h2, h4]
  show (0 + _, (0 : Int)) = _
  rw [Nat.zero_add]
theorem int_text_down {m j : Nat} (hm : m < 2 ^ 54) (hj : j ≤ low + 1) : readS (Lib.decDigits (m * 5 ^ j) ++ (101 :: 45 :: Lib.decDigits j)) = (rd m (-(j : Int)) false, 0) := by
  obtain ⟨h1, h2, h3, h4⟩ := int_down hm hj
  rw [readS, parse_dec _ 45 j (dig_dec _) (dec_ne _) (Or.inr rfl) (by unfold low at hj; omega), if_pos rfl, if_pos h1, h2, h4]
  show (0 + _, (0 : Int)) = _
  rw [Nat.zero_add]
end Go.Proofs.YtjnkbifafbjckaaGreatDoor.Fl

/- Chapter 8's law: an int of 53 bits, written in digits, is the int, times any power of two that is told exactly. -/
namespace Go.Proofs.YtjnkbifafbjckaaGreatDoor
set_option linter.all false
open Go.RowKit

theorem Fl.five_mid {j : Nat} (hj : j ≤ 2000) : Fl.Mid (5 ^ j) := Fl.mid_le (Nat.pow_le_pow_left (by decide) j) (Fl.ten_mid hj)
theorem l8_five_any (j : Nat) (w : World) (hj : j ≤ 1200) : Calls Tryz.prog 47 #[.int .i64 j] w (fun e w' => ∃ a c, e = .returned (.slice a (Na.limbs (5 ^ j)).length c) ∧ Sl w' a c (Na.limbs (5 ^ j)) ∧ Below w.heap.size w w') := by
  have hp := fun w => r1_pow_any 5 (j : Int) w (by omega) (by omega)
  rw [Fl.pow_five j hj] at hp
  obtain ⟨T, hT⟩ : ∃ T, T = Na.limbs (5 ^ j) := ⟨_, rfl⟩
  rw [← hT] at hp ⊢
  have HP := Lib.hid hp
  clear hp hT
  go_enter Tryz.func47, Tryz.ntmps47
  go_wp2_with (first | (go_at_call 114; (with_reducible refine (HP.out _).mono ?_); rintro e w1 ⟨a1, c1, rfl, s1, hb1⟩))
  go_ret
  exact ⟨a1, c1, rfl, s1, hb1⟩
/-- A text of digits, as the reference writes it. -/
def decS (N : Nat) : ByteArray := ⟨(Lib.decDigits N).toArray⟩
theorem decS_list (N : Nat) : (decS N).data.toList = Lib.decDigits N := rfl
theorem decS_size (N : Nat) : (decS N).size = (Lib.decDigits N).length := by rw [← bs_length]; rfl
theorem ba_app (a b : ByteArray) : (a ++ b).data.toList = a.data.toList ++ b.data.toList := by
  simp [ByteArray.append_eq]
theorem r1_digits_of (N : Nat) (a : Option Addr) (c : Nat) (w : World) (h : Sl w a c (Na.limbs N)) (hz : a = none → c = 0) (hn : (Na.limbs N).length ≤ 50000) :
    Calls Tryz.prog 42 #[.slice a (Na.limbs N).length c] w (RetB (.string (decS N)) w) := by
  have h := r1_digits_any a c (Na.limbs N) w h hz hn
  rw [Na.val_limbs] at h
  exact h
theorem Na.limbs_small {v : Nat} (hv : v < 18446744073709551616) : (Na.limbs v).length ≤ 2 := Na.limbs_len_le v 2 (by unfold Na.B; omega)

set_option maxRecDepth 100000 in
set_option maxHeartbeats 8000000 in
theorem l8_ints_any (v : Nat) (n : Int) (w : World) (hv : v < 18446744073709551616) (hn : -9223372036854775808 ≤ n ∧ n ≤ 9223372036854775807) : Calls Tryz.prog 10 #[.int .u64 v, .int .i64 n] w (RetB (.bool true) w) := by
  have HS := Lib.hid (fun w1 => l8_shown_any w1)
  have HN := Lib.hid (fun w1 => re_new_any w1)
  obtain ⟨m, hm⟩ : ∃ m, m = v / 2048 := ⟨_, rfl⟩
  have hmi : (v : Int) / 2048 = (m : Int) := by omega
  have hml : m < 9007199254740992 := by omega
  clear hm
  obtain ⟨R, hR⟩ : ∃ R, R = n.tmod 900 := ⟨_, rfl⟩
  have hRb : -900 < R ∧ R < 900 := by
    rw [hR]
    have h1 := Int.tmod_lt_of_pos n (show (0 : Int) < 900 by decide)
    have h2 := Int.lt_tmod_of_pos n (show (0 : Int) < 900 by decide)
    omega
  obtain ⟨k, hk⟩ : ∃ k : Nat, k = R.natAbs := ⟨_, rfl⟩
  have hkl : k < 900 := by omega
  obtain ⟨j, hj⟩ : ∃ j, j = k % 300 := ⟨_, rfl⟩
  have hji : (k : Int) % 300 = (j : Int) := by omega
  have hjl : j < 300 := by omega
  have h54 : m < 2 ^ 54 := by omega
  have hu := Fl.int_text_up h54 (show k ≤ Fl.n971 by unfold Fl.n971; omega)
  have hd := Fl.int_text_down h54 (show j ≤ Fl.low + 1 by unfold Fl.low; omega)
  have hul := Fl.up_len h54 (show k ≤ Fl.n971 by unfold Fl.n971; omega)
  have hdl := Fl.mid_len h54 (show j ≤ Fl.low + 1 by unfold Fl.low; omega) rfl
  have hj1 := fun w1 => fl_join_any false 0 m (k : Int) false w1 (by omega) (by omega) (by omega)
  have hj2 := fun w1 => fl_join_any false 0 m (-(j : Int)) false w1 (by omega) (by omega) (by omega)
  rw [Nat.zero_mul, Nat.zero_add, show Fl.sgn false = 0 from rfl, Nat.zero_add] at hj1 hj2
  have hof := fun w1 => r1_of_any m (by omega) w1
  have hofj := fun w1 => r1_of_any j (by omega) w1
  have hmls := Na.limbs_small (v := m) (by omega)
  have hup := fun a c w1 (s : Sl w1 a c (Na.limbs m)) (z : a = none → c = 0) => r3_up_any a c (Na.limbs m) k w1 s z (by omega) (by omega)
  rw [Na.val_limbs] at hup
  have hml1 : Na.bitLen (m * 2 ^ k) ≤ 8192 := by
    refine Nat.le_trans (Fl.bitLen_lt (k := 53 + k) ?_) (by omega)
    rw [Nat.pow_add]; exact Nat.mul_lt_mul_of_pos_right (by omega) (Nat.pow_pos (by decide))
  have hm1 := Fl.mid_bl hml1
  have hdg1 := fun a c w1 (s : Sl w1 a c (Na.limbs (m * 2 ^ k))) (z : a = none → c = 0) => r1_digits_of (m * 2 ^ k) a c w1 s z (by unfold Fl.Mid at hm1; omega)
  have hfive := fun w1 => l8_five_any j w1 (by omega)
  have h5m := Fl.five_mid (j := j) (by omega)
  have htm := fun a c b d w1 (s : Sl w1 a c (Na.limbs m)) (s' : Sl w1 b d (Na.limbs (5 ^ j))) => r1_times_any a c (Na.limbs m) b d (Na.limbs (5 ^ j)) w1 s s' (by omega) (by unfold Fl.Mid at h5m; omega)
  rw [Na.val_limbs, Na.val_limbs] at htm
  have hml2 : Na.bitLen (m * 5 ^ j) ≤ 8192 := by
    refine Nat.le_trans (Fl.bitLen_lt (k := 53 + 3 * j) ?_) (by omega)
    rw [Nat.pow_add, Nat.pow_mul]
    exact Nat.lt_of_lt_of_le (Nat.mul_lt_mul_of_pos_right (show m < 2 ^ 53 by omega) (Nat.pow_pos (by decide))) (Nat.mul_le_mul_left _ (Nat.pow_le_pow_left (by decide) j))
  have hm2 := Fl.mid_bl hml2
  have hdg2 := fun a c w1 (s : Sl w1 a c (Na.limbs (m * 5 ^ j))) (z : a = none → c = 0) => r1_digits_of (m * 5 ^ j) a c w1 s z (by unfold Fl.Mid at hm2; omega)
  have hdg3 := fun a c w1 (s : Sl w1 a c (Na.limbs j)) (z : a = none → c = 0) => r1_digits_of j a c w1 s z (by have := Na.limbs_small (v := j) (by omega); omega)
  have hjlen : (Lib.decDigits j).length ≤ 3 := Fl.len_dec (k := 2) (by omega)
  obtain ⟨r1, hr1⟩ : ∃ r, r = Fl.rd m (k : Int) false := ⟨_, rfl⟩
  obtain ⟨r2, hr2⟩ : ∃ r, r = Fl.rd m (-(j : Int)) false := ⟨_, rfl⟩
  obtain ⟨S1, hS1⟩ : ∃ S, S = decS (m * 2 ^ k) := ⟨_, rfl⟩
  obtain ⟨S2, hS2⟩ : ∃ S, S = decS (m * 5 ^ j) := ⟨_, rfl⟩
  obtain ⟨S3, hS3⟩ : ∃ S, S = decS j := ⟨_, rfl⟩
  have hS2z : S2.size ≤ 800 := by rw [hS2, decS_size]; exact hdl
  have hS3z : S3.size ≤ 3 := by rw [hS3, decS_size]; exact hjlen
  have hp1 := fun b w1 (h : Rdr w1 b) => re_parse_any b S1 w1 (by rw [hS1, decS_size]; omega) h
  have hp2 := fun b w1 (h : Rdr w1 b) => re_parse_any b (S2 ++ ⟨#[101, 45]⟩ ++ S3) w1 (by rw [← bs_length, ba_app, ba_app, hS2, hS3, decS_list, decS_list, List.length_append, List.length_append]; simp; omega) h
  rw [ba_app, ba_app, hS2, hS3, decS_list, decS_list, show (⟨#[101, 45]⟩ : ByteArray).data.toList = [101, 45] from rfl, List.append_assoc, show ([101, 45] : List UInt8) ++ Lib.decDigits j = 101 :: 45 :: Lib.decDigits j from rfl, hd, ← hS2, ← hS3, ← hr2] at hp2
  rw [hS1, decS_list, hu, ← hS1, ← hr1] at hp1
  rw [← hr1] at hj1
  rw [← hr2] at hj2
  rw [← hS1] at hdg1
  rw [← hS2] at hdg2
  rw [← hS3] at hdg3
  obtain ⟨L0, hL0⟩ : ∃ L, L = Na.limbs m := ⟨_, rfl⟩
  obtain ⟨L1, hL1⟩ : ∃ L, L = Na.limbs (m * 2 ^ k) := ⟨_, rfl⟩
  obtain ⟨L2, hL2⟩ : ∃ L, L = Na.limbs (m * 5 ^ j) := ⟨_, rfl⟩
  obtain ⟨L3, hL3⟩ : ∃ L, L = Na.limbs j := ⟨_, rfl⟩
  obtain ⟨L5, hL5⟩ : ∃ L, L = Na.limbs (5 ^ j) := ⟨_, rfl⟩
  rw [← hL0] at hof hup htm
  rw [← hL1] at hup hdg1
  rw [← hL2] at htm hdg2
  rw [← hL3] at hofj hdg3
  rw [← hL5] at hfive htm
  have HOF := Lib.hid hof; have HOJ := Lib.hid hofj; have HUP := Lib.hid hup; have HD1 := Lib.hid hdg1; have HD2 := Lib.hid hdg2; have HD3 := Lib.hid hdg3; have HFV := Lib.hid hfive; have HTM := Lib.hid htm
  have HP1 := Lib.hid hp1; have HP2 := Lib.hid hp2
  have HJ1 := Lib.hid (fun w1 => (show Calls Tryz.prog 45 #[.bool false, .agg #[.int .u64 0, .int .u64 m], .int .i64 k, .bool false] w1 (RetB (.int .u64 (r1 : Nat)) w1) from hj1 w1))
  have HJ2 := Lib.hid (fun w1 => (show Calls Tryz.prog 45 #[.bool false, .agg #[.int .u64 0, .int .u64 m], .int .i64 (-(j : Int)), .bool false] w1 (RetB (.int .u64 (r2 : Nat)) w1) from hj2 w1))
  have hkc : (R < 0 ∧ (k : Int) = -R) ∨ (0 ≤ R ∧ R = (k : Int)) := by omega
  have HKC := Lib.hid hkc
  have tok1 : True := trivial
  clear hof hofj hup hdg1 hdg2 hdg3 hfive htm hp1 hp2 hj1 hj2 hL0 hL1 hL2 hL3 hL5 hS1 hS2 hS3 hr1 hr2 hm1 hm2 hml1 hml2 h5m hmls hu hd hul hdl hjlen h54 hj hk hkc
  go_enter Tryz.func10, Tryz.ntmps10
  go_upto_if 23 with (first | (go_at_call 32; (with_reducible refine (HS.out _).mono ?_); rintro e w1 ⟨rfl, hb_w1⟩; have hB_w1 : Below (w).heap.size (w) w1 := Below.trans (by (repeat (first | exact Below.refl _ _ | assumption | refine Below.setCell ?_ (by first | omega | (simp <;> omega)) _ | refine Below.alloc ?_ (by first | omega | (simp <;> omega)) _ | refine Below.drew ?_ | refine below_drewN' ?_ _))) (hb_w1.mono (by first | omega | (simp <;> omega))); obtain ⟨hc_w1, hf_w1⟩ := bcell hb_w1; have hz_w1 := hb_w1.size; (try simp only [size_drew', size_drewN', World.size_alloc, World.size_setCell] at hz_w1)))
  rw [← hR]
  clear hR
  go_cut [7] (fun kv w' => kv = .int .i64 (k : Nat) ∧ w' = w1)
  case first =>
    rcases HKC.out with ⟨h1, h2⟩ | ⟨h1, h2⟩
    · go_wp2_with fail
      go_meet
      exact ⟨by first | rfl | rw [h2], rfl⟩
    · have h1' : ¬ R < 0 := by omega
      go_wp2_with fail
      go_meet
      exact ⟨by first | rfl | rw [h2], rfl⟩
  case rest => as_aux_lemma =>
    obtain ⟨rfl, hcut⟩ := hcut
    subst hcut
    clear HKC
    go_upto_region 14 with (first
      | (go_at_call 33; (with_reducible refine (HN.out _).mono ?_); rintro e w2 ⟨rfl, rd2, hb2⟩; have hB2 := hB_w1.trans (hb2.mono hB_w1.size))
      | (clear tok1; go_at_call 44; (with_reducible refine (HOF.out _).mono ?_); rintro e w3 ⟨a3, c3, rfl, s3, z3, -, hb3⟩; have hB3 := hB2.trans (hb3.mono hB2.size); have rd3 := rd2.on hb3)
      | (go_at_call 43; (with_reducible refine (HUP.out _ _ _ s3 z3).mono ?_); rintro e w4 ⟨a4, c4, rfl, s4, z4, -, hb4⟩; have hB4 := hB3.trans (hb4.mono hB3.size); have rd4 := rd3.on hb4)
      | (go_at_call 42; (with_reducible refine (HD1.out _ _ _ s4 z4).mono ?_); rintro e w5 ⟨rfl, hb5⟩; have hB5 := hB4.trans (hb5.mono hB4.size); have rd5 := rd4.on hb5)
      | (go_at_call 36; (with_reducible refine (HP1.out _ _ rd5).mono ?_); rintro e w6 ⟨rfl, ho6, rd6⟩; have hB6 := hB5.trans (ho6.up hB_w1.size))
      | (go_at_call 45; (with_reducible refine (HJ1.out _).mono ?_); rintro e w7 ⟨rfl, hb7⟩; have hB7 := hB6.trans (hb7.mono hB6.size); have rd7 := rd6.on hb7)
      | (go_at_call 44; (with_reducible refine (HOF.out _).mono ?_); rintro e w8 ⟨a8, c8, rfl, s8, z8, -, hb8⟩; have hB8 := hB7.trans (hb8.mono hB7.size); have rd8 := rd7.on hb8)
      | (go_at_call 47; (with_reducible refine (HFV.out _).mono ?_); rintro e w9 ⟨a9, c9, rfl, s9, hb9⟩; have hB9 := hB8.trans (hb9.mono hB8.size); have rd9 := rd8.on hb9; have s8 := s8.on hb9)
      | (go_at_call 46; (with_reducible refine (HTM.out _ _ _ _ _ s8 s9).mono ?_); rintro e w10 ⟨a10, c10, rfl, s10, z10, -, hb10⟩; have hB10 := hB9.trans (hb10.mono hB9.size); have rd10 := rd9.on hb10)
      | (go_at_call 42; (with_reducible refine (HD2.out _ _ _ s10 z10).mono ?_); rintro e w11 ⟨rfl, hb11⟩; have hB11 := hB10.trans (hb11.mono hB10.size); have rd11 := rd10.on hb11))
    go_upto_region 15 with (first
      | (go_at_call 44; (with_reducible refine (HOJ.out _).mono ?_); rintro e w12 ⟨a12, c12, rfl, s12, z12, -, hb12⟩; have hB12 := hB11.trans (hb12.mono hB11.size); have rd12 := rd11.on hb12)
      | (go_at_call 42; (with_reducible refine (HD3.out _ _ _ s12 z12).mono ?_); rintro e w13 ⟨rfl, hb13⟩; have hB13 := hB12.trans (hb13.mono hB12.size); have rd13 := rd12.on hb13)
      | (go_at_call 36; (with_reducible refine (HP2.out _ _ rd13).mono ?_); rintro e w14 ⟨rfl, ho14, rd14⟩; have hB14 := hB13.trans (ho14.up hB_w1.size)))
    go_wp2_with (first | (go_at_call 45; (with_reducible refine (HJ2.out _).mono ?_); rintro e w15 ⟨rfl, hb15⟩; have hB15 := hB14.trans (hb15.mono hB14.size)))
    go_ret
    exact RetB.of (by simp) hB15
end Go.Proofs.YtjnkbifafbjckaaGreatDoor
