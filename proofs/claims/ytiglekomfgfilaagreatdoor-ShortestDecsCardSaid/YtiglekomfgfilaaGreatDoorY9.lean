/- A block whose cells are known from the first one on. -/
import Derived.Test.YtiglekomfgfilaaGreatDoorY1
import Derived.Laws.IdiomCopy
import Derived.Test.YtiglekomfgfilaaGreatDoorY2
import Derived.Test.YtiglekomfgfilaaGreatDoorY8
import Derived.Laws.Externs
import Derived.Laws.StructEq
import Derived.Laws.Bits64b
import Derived.BigRegion
import Derived.Deep.RegionHeld3
import Derived.Test.YtiglekomfgfilaaGreatDoorY6
namespace Go.Proofs.YtiglekomfgfilaaGreatDoor
set_option linter.all false
open Go.RowKit
def Cs (w : World) (b : Nat) (vs : List Value) : Prop := b < w.heap.size ∧ ∀ k (h : k < vs.length), w.cell? ⟨b, k, none⟩ = some vs[k]
theorem Cs.get {w : World} {b : Nat} {vs : List Value} (h : Cs w b vs) (k : Nat) {v : Value} (hk : vs[k]? = some v) : w.cell? ⟨b, k, none⟩ = some v := by
  obtain ⟨h1, h2⟩ := List.getElem?_eq_some_iff.1 hk
  rw [h.2 k h1, h2]
theorem Cs.new (w : World) (vs : List Value) (t : TypeId) : Cs (w.alloc (.cells vs.toArray t)) w.heap.size vs :=
  ⟨by simp, fun k h => by
    simp only [World.cell?, World.alloc]
    simp [List.getElem?_eq_getElem h]⟩
theorem Cs.on {w w1 : World} {b : Nat} {vs : List Value} (h : Cs w b vs) (hb : Below w.heap.size w w1) : Cs w1 b vs :=
  ⟨Nat.lt_of_lt_of_le h.1 hb.size, fun k hk => (hb.cell (p := ⟨b, k, none⟩) h.1).trans (h.2 k hk)⟩
theorem Cs.alloc {w : World} {b : Nat} {vs : List Value} (h : Cs w b vs) (o : Obj) : Cs (w.alloc o) b vs := h.on ((Below.refl _ _).alloc (Nat.le_refl _) o)
theorem size_setCells (b : Nat) : ∀ (vs : List Value) (o : Nat) (w : World), (w.setCells b o vs).heap.size = w.heap.size
  | [], _, _ => rfl
  | v :: r, o, w => by rw [World.setCells, size_setCells b r]; exact World.size_setCell _ _ _
theorem below_setCells {B b : Nat} {w : World} (hb : B ≤ b) : ∀ (vs : List Value) (o : Nat) {W : World}, Below B w W → Below B w (W.setCells b o vs)
  | [], _, _, h => h
  | v :: r, o, W, h => below_setCells hb r (o + 1) (h.setCell (p := ⟨b, o, none⟩) hb v)
theorem Cs.stored {w : World} {b : Nat} {vs : List Value} (us : List Value) (h : Cs w b vs) (hl : us.length = vs.length) : Cs (w.setCells b 0 us) b us :=
  ⟨by rw [size_setCells]; exact h.1, fun k hk => by
    have := World.cell?_setCells_in b us 0 w (fun j hj => by rw [Nat.zero_add, h.2 j (by omega)]; rfl) k hk
    rwa [Nat.zero_add] at this⟩
theorem Cs.other {w : World} {b b' : Nat} {vs : List Value} (us : List Value) (h : Cs w b vs) (hne : b ≠ b') : Cs (w.setCells b' 0 us) b vs :=
  ⟨by rw [size_setCells]; exact h.1, fun k hk => by
    rw [World.cell?_setCells_out _ _ _ _ _ (fun e => absurd e hne)]; exact h.2 k hk⟩
theorem Cs.drew {w : World} {b : Nat} {vs : List Value} (h : Cs w b vs) : Cs w.drew b vs := h
end Go.Proofs.YtiglekomfgfilaaGreatDoor

/- Words in a block of the call's own. -/
namespace Go.Proofs.YtiglekomfgfilaaGreatDoor
set_option linter.all false
open Go.RowKit
def C2 (w : World) (b h l : Nat) : Prop := Cs w b [.int .u64 h, .int .u64 l] ∧ ∀ o, w.frozen? ⟨b, o, none⟩ = false
theorem C2.on {w w' : World} {b h l : Nat} (c : C2 w b h l) (hb : Below w.heap.size w w') : C2 w' b h l :=
  ⟨c.1.on hb, fun o => (hb.frozen (p := ⟨b, o, none⟩) c.1.1).trans (c.2 o)⟩
theorem C2.stored {w : World} {b h l : Nat} (c : C2 w b h l) (h' l' : Nat) : C2 (w.setCells b 0 [.int .u64 h', .int .u64 l']) b h' l' :=
  ⟨c.1.stored _ rfl, fun o => by rw [World.frozen?_setCells]; exact c.2 o⟩
theorem C2.low {w : World} {b h l : Nat} (c : C2 w b h l) (l' : Nat) : C2 (w.setCell ⟨b, 1, none⟩ (.int .u64 l')) b h l' := by
  refine ⟨⟨by have := c.1.1; simpa using this, fun k hk => ?_⟩, fun o => by rw [World.frozen?_setCell]; exact c.2 o⟩
  match k, hk with
  | 0, _ => exact (World.cell?_setCell_other _ ⟨b, 1, none⟩ ⟨b, 0, none⟩ _ (by intro e; cases e)).trans (c.1.get 0 rfl)
  | 1, _ => exact World.cell?_setCell_same _ _ _ (c.1.get 1 rfl)
theorem C2.new (w : World) (h l : Nat) : C2 (w.alloc (.cells #[.int .u64 h, .int .u64 l] 91)) w.heap.size h l :=
  ⟨Cs.new w [.int .u64 h, .int .u64 l] _, fun o => by
      unfold World.frozen?; simp only []
      rw [show (w.alloc (.cells #[.int .u64 h, .int .u64 l] 91)).heap[w.heap.size]? = some _ from heap_alloc_new w _]
      simp⟩
theorem C2.drew {w : World} {b h l : Nat} (c : C2 w b h l) : C2 w.drew b h l := c.on ((Below.refl _ _).drew)
def C3 (w : World) (b h m l : Nat) : Prop := Cs w b [.int .u64 h, .int .u64 m, .int .u64 l] ∧ ∀ o, w.frozen? ⟨b, o, none⟩ = false
theorem C3.on {w w' : World} {b h m l : Nat} (c : C3 w b h m l) (hb : Below w.heap.size w w') : C3 w' b h m l :=
  ⟨c.1.on hb, fun o => (hb.frozen (p := ⟨b, o, none⟩) c.1.1).trans (c.2 o)⟩
theorem C3.stored {w : World} {b h m l : Nat} (c : C3 w b h m l) (h' m' l' : Nat) : C3 (w.setCells b 0 [.int .u64 h', .int .u64 m', .int .u64 l']) b h' m' l' :=
  ⟨c.1.stored _ rfl, fun o => by rw [World.frozen?_setCells]; exact c.2 o⟩
theorem C3.new (w : World) (h m l : Nat) : C3 (w.alloc (.cells #[.int .u64 h, .int .u64 m, .int .u64 l] 176)) w.heap.size h m l :=
  ⟨Cs.new w [.int .u64 h, .int .u64 m, .int .u64 l] _, fun o => by
      unfold World.frozen?; simp only []
      rw [show (w.alloc (.cells #[.int .u64 h, .int .u64 m, .int .u64 l] 176)).heap[w.heap.size]? = some _ from heap_alloc_new w _]
      simp⟩
theorem C3.alloc {w : World} {b h m l : Nat} (c : C3 w b h m l) (o : Obj) : C3 (w.alloc o) b h m l := c.on ((Below.refl _ _).alloc (Nat.le_refl _) o)
theorem C3.drew {w : World} {b h m l : Nat} (c : C3 w b h m l) : C3 w.drew b h m l := c.on ((Below.refl _ _).drew)
theorem C3.setOther {w : World} {b b' h m l o : Nat} {u : Value} (c : C3 w b h m l) (hne : b ≠ b') : C3 (w.setCell ⟨b', o, none⟩ u) b h m l :=
  ⟨⟨by have := c.1.1; simpa using this, fun k hk => (World.cell?_setCell_other _ ⟨b', o, none⟩ ⟨b, k, none⟩ _ (by intro e; injection e with e1; exact hne e1.symm)).trans (c.1.2 k hk)⟩, fun o' => by rw [World.frozen?_setCell]; exact c.2 o'⟩
theorem C2.alloc {w : World} {b h l : Nat} (c : C2 w b h l) (o : Obj) : C2 (w.alloc o) b h l := c.on ((Below.refl _ _).alloc (Nat.le_refl _) o)
theorem C2.setOther {w : World} {b b' h l o : Nat} {u : Value} (c : C2 w b h l) (hne : b ≠ b') : C2 (w.setCell ⟨b', o, none⟩ u) b h l :=
  ⟨⟨by have := c.1.1; simpa using this, fun k hk => (World.cell?_setCell_other _ ⟨b', o, none⟩ ⟨b, k, none⟩ _ (by intro e; injection e with e1; exact hne e1.symm)).trans (c.1.2 k hk)⟩, fun o' => by rw [World.frozen?_setCell]; exact c.2 o'⟩
theorem C2.stored' {w : World} {b h l : Nat} (c : C2 w b h l) (h' l' : Nat) : C2 ((w.setCell ⟨b, 0, none⟩ (.int .u64 h')).setCell ⟨b, 1, none⟩ (.int .u64 l')) b h' l' := c.stored h' l'
theorem C2.new' {w : World} {b : Nat} (h l : Nat) (hb : b = w.heap.size) : C2 (w.alloc (.cells #[.int .u64 h, .int .u64 l] 91)) b h l := by rw [hb]; exact C2.new w h l
theorem C2.new0 {w : World} {b : Nat} (hb : b = w.heap.size) : C2 (w.alloc (.cells #[.int .u64 0, .int .u64 0] 91)) b 0 0 := by rw [hb]; exact C2.new w 0 0
theorem C3.new0 {w : World} {b : Nat} (hb : b = w.heap.size) : C3 (w.alloc (.cells #[.int .u64 0, .int .u64 0, .int .u64 0] 176)) b 0 0 0 := by rw [hb]; exact C3.new w 0 0 0
end Go.Proofs.YtiglekomfgfilaaGreatDoor

/- Ints of 128 and 192 bits: their lengths, shifts, sums and products. -/
namespace Go.Proofs.YtiglekomfgfilaaGreatDoor
set_option maxRecDepth 100000
set_option maxHeartbeats 4000000
set_option linter.all false
open Go.RowKit
theorem add64_run (x y c : Nat) (hc : c ≤ 1) (w : World) :
    (callFunc 185 #[.int .u64 x, .int .u64 y, .int .u64 c]).run Tryz.prog w = .ok (.value (.tuple #[.int .u64 (((x + y + c) % 18446744073709551616 : Nat) : Int), .int .u64 (((x + y + c) / 18446744073709551616 : Nat) : Int)])) w := by
  rw [run_callFunc_extern Tryz.func185 (by kernel_rfl) (by kernel_rfl) (by kernel_rfl) (e := add64Entry) (by kernel_rfl), run_add64 x y c (by omega) (by omega) (by omega) (by omega)]
  simp only [Result.andThen]
  congr 5 <;> omega
theorem Fl.wrap_pow (x n : Nat) : IntKind.u64.wrap ((x : Int) * 2 ^ n) = ((x * 2 ^ n % 18446744073709551616 : Nat) : Int) := by
  have e : ((x : Int) * 2 ^ n) = ((x * 2 ^ n : Nat) : Int) := by simp
  rw [e, IntKind.wrap_u64]
  obtain ⟨X, hX⟩ : ∃ X, X = x * 2 ^ n := ⟨_, rfl⟩
  rw [← hX]; omega
theorem Fl.div_pow (x n : Nat) : (x : Int) / 2 ^ n = ((x / 2 ^ n : Nat) : Int) := by
  have e : ((2 : Int) ^ n) = ((2 ^ n : Nat) : Int) := by simp
  rw [e]; rfl
theorem Na.lib_len (x : Nat) (hx : x < 18446744073709551616) : Lib.bitLen x = Na.bitLen x := by
  by_cases h : x = 0
  · subst h; rfl
  · rw [Na.libBitLen x h hx, Na.bitLen, if_neg h]
theorem wi_len_any (hi lo : Nat) (w : World) (hh : hi < 18446744073709551616) (hl : lo < 18446744073709551616) :
    Calls Tryz.prog 177 #[.agg #[.int .u64 hi, .int .u64 lo]] w (RetB (.int .i64 (Na.bitLen (hi * 18446744073709551616 + lo) : Nat)) w) := by
  have k1 := Na.lib_len hi hh
  have k2 := Na.lib_len lo hl
  have b1 := Lib.bitLen_le hi 64 (by omega) hh
  have b2 := Lib.bitLen_le lo 64 (by omega) hl
  obtain ⟨x, hx⟩ : ∃ x, x = Lib.bitLen hi := ⟨_, rfl⟩
  obtain ⟨y, hy⟩ : ∃ x, x = Lib.bitLen lo := ⟨_, rfl⟩
  have H1 := fun w => Lib.hid ((Tryz.bits_Len64 (hi : Int) w (by omega) (by omega)).mono fun e w' he => (⟨by rw [he.1, Int.toNat_natCast, hx], he.2.symm⟩ : Ret0 (.int .i64 (x : Nat)) w e w'))
  have H2 := fun w => Lib.hid ((Tryz.bits_Len64 (lo : Int) w (by omega) (by omega)).mono fun e w' he => (⟨by rw [he.1, Int.toNat_natCast, hy], he.2.symm⟩ : Ret0 (.int .i64 (y : Nat)) w e w'))
  by_cases h0 : hi = 0
  · have e := Lib.hid (show Na.bitLen (hi * 18446744073709551616 + lo) = y by rw [h0, Nat.zero_mul, Nat.zero_add, ← k2, ← hy])
    subst h0
    clear k1 k2 b1 b2 hx hy H1
    go_enter Tryz.func177, Tryz.ntmps177
    go_wp2_with (go_at_call 193; (with_reducible refine ((H2 _).out).mono ?_); rintro e w' ⟨rfl, rfl⟩)
    go_ret
    exact RetB.of (by rw [e.out]; rfl) (by (repeat (first | exact Below.refl _ _ | assumption | refine Below.setCell ?_ (by first | omega | (simp <;> omega)) _ | refine Below.alloc ?_ (by first | omega | (simp <;> omega)) _ | refine Below.drew ?_ | refine below_drewN' ?_ _)))
  · have e := Lib.hid (show Na.bitLen (hi * 18446744073709551616 + lo) = 64 + x by rw [Fl.len_words h0 hl, ← k1, ← hx])
    have hd : decide ((0 : Int) < (hi : Int)) = true := decide_eq_true (by omega)
    obtain ⟨z, hz⟩ : ∃ z, z = 64 + x := ⟨_, rfl⟩
    have hz128 : z ≤ 128 := by omega
    have hxi : (64 : Int) + (x : Int) = (z : Int) := by omega
    rw [← hz] at e
    clear hz
    clear k1 k2 b1 b2 hx hy H2
    go_enter Tryz.func177, Tryz.ntmps177
    go_wp2_with (go_at_call 193; (with_reducible refine ((H1 _).out).mono ?_); rintro e w' ⟨rfl, rfl⟩)
    go_ret
    exact RetB.of (by rw [e.out]; rfl) (by (repeat (first | exact Below.refl _ _ | assumption | refine Below.setCell ?_ (by first | omega | (simp <;> omega)) _ | refine Below.alloc ?_ (by first | omega | (simp <;> omega)) _ | refine Below.drew ?_ | refine below_drewN' ?_ _)))
theorem wi_shl_any (hi lo n : Nat) (w : World) (hh : hi < 18446744073709551616) (hl : lo < 18446744073709551616) (hn : n < 64) :
    Calls Tryz.prog 179 #[.agg #[.int .u64 hi, .int .u64 lo], .int .i64 n] w
      (RetB (.agg #[.int .u64 (((hi * 18446744073709551616 + lo) * 2 ^ n / 18446744073709551616 % 18446744073709551616 : Nat) : Int), .int .u64 (((hi * 18446744073709551616 + lo) * 2 ^ n % 18446744073709551616 : Nat) : Int)]) w) := by
  obtain ⟨m, hm⟩ : ∃ m : Nat, n + m = 64 := ⟨64 - n, by omega⟩
  obtain ⟨a1, a2, a3, a4, a5⟩ := Fl.shl_words (hi := hi) (lo := lo) hm hl
  have hor := Fl.or_words a1 a2 a3
  have HV := Lib.hid (And.intro a4 a5)
  have hmi : (64 : Int) - (n : Int) = (m : Int) := by omega
  have hA : IntKind.u64.wrap ((hi : Int) * 2 ^ n) = ((hi * 2 ^ n % 18446744073709551616 : Nat) : Int) := Fl.wrap_pow hi n
  have hD : IntKind.u64.wrap ((lo : Int) * 2 ^ n) = ((lo * 2 ^ n % 18446744073709551616 : Nat) : Int) := Fl.wrap_pow lo n
  have hL : (lo : Int) / 2 ^ m = ((lo / 2 ^ m : Nat) : Int) := Fl.div_pow lo m
  obtain ⟨A, hAe⟩ : ∃ A, A = hi * 2 ^ n % 18446744073709551616 := ⟨_, rfl⟩
  obtain ⟨L, hLe⟩ : ∃ A, A = lo / 2 ^ m := ⟨_, rfl⟩
  obtain ⟨D, hDe⟩ : ∃ A, A = lo * 2 ^ n % 18446744073709551616 := ⟨_, rfl⟩
  rw [← hAe] at hA hor HV
  rw [← hLe] at hL hor HV
  rw [← hDe] at hD HV
  obtain ⟨C, hC⟩ : ∃ C, C = A + L := ⟨_, rfl⟩
  rw [← hC] at hor HV
  clear a1 a2 a3 a4 a5 hAe hLe hDe hC
  have hn64 : (n : Int) < 64 := by omega
  have hd64 : decide (64 ≤ (n : Int)) = false := decide_eq_false (by omega)
  have hmi0 : (0 : Int) ≤ (m : Int) := by omega
  have hn0 : (0 : Int) ≤ (n : Int) := by omega
  go_enter Tryz.func179, Tryz.ntmps179
  go_wp2
  go_region
  go_wp2
  (refine bodyPost_ret (v := .agg #[.int .u64 (C : Nat), .int .u64 (D : Nat)]) (by (simp [results, Tryz.results179, go_sem]; done)) rfl (RetB.of (by rw [HV.out.1, HV.out.2]) (by (repeat (first | exact Below.refl _ _ | assumption | refine Below.setCell ?_ (by first | omega | (simp <;> omega)) _ | refine Below.alloc ?_ (by first | omega | (simp <;> omega)) _ | refine Below.drew ?_ | refine below_drewN' ?_ _)))))
theorem wi_low_any (h m l : Nat) (w : World) : Calls Tryz.prog 154 #[.agg #[.int .u64 h, .int .u64 m, .int .u64 l]] w (RetB (.agg #[.int .u64 m, .int .u64 l]) w) := by
  go_enter Tryz.func154, Tryz.ntmps154
  go_wp2
  (refine bodyPost_ret (v := .agg #[.int .u64 m, .int .u64 l]) (by (simp [results, Tryz.results154, go_sem]; done)) rfl (RetB.of rfl (by (repeat (first | exact Below.refl _ _ | assumption | refine Below.setCell ?_ (by first | omega | (simp <;> omega)) _ | refine Below.alloc ?_ (by first | omega | (simp <;> omega)) _ | refine Below.drew ?_ | refine below_drewN' ?_ _)))))
theorem wi_mul_any (x y : Nat) (w : World) (hx : x < 18446744073709551616) (hy : y < 18446744073709551616) :
    Calls Tryz.prog 149 #[.int .u64 x, .int .u64 y] w (RetB (.agg #[.int .u64 ((x * y / 18446744073709551616 : Nat) : Int), .int .u64 ((x * y % 18446744073709551616 : Nat) : Int)]) w) := by
  have H := fun w => Lib.hid (Tryz.bits_Mul64 x y hx hy w)
  obtain ⟨X, hX⟩ : ∃ X, X = x * y / 18446744073709551616 := ⟨_, rfl⟩
  obtain ⟨Y, hY⟩ : ∃ X, X = x * y % 18446744073709551616 := ⟨_, rfl⟩
  rw [← hX, ← hY] at H ⊢
  clear hX hY
  go_enter Tryz.func149, Tryz.ntmps149
  go_wp2_with (go_at_call 131; (with_reducible refine ((H _).out).mono ?_); rintro e w' ⟨rfl, rfl⟩)
  (refine bodyPost_ret (v := .agg #[.int .u64 (X : Nat), .int .u64 (Y : Nat)]) (by (simp [results, Tryz.results149, go_sem]; done)) rfl (RetB.of rfl (by (repeat (first | exact Below.refl _ _ | assumption | refine Below.setCell ?_ (by first | omega | (simp <;> omega)) _ | refine Below.alloc ?_ (by first | omega | (simp <;> omega)) _ | refine Below.drew ?_ | refine below_drewN' ?_ _)))))
theorem wi_add_any (a b c d : Nat) (w : World) (ha : a < 18446744073709551616) (hb : b < 18446744073709551616) (hc : c < 18446744073709551616) (hd : d < 18446744073709551616) :
    Calls Tryz.prog 153 #[.agg #[.int .u64 a, .int .u64 b], .agg #[.int .u64 c, .int .u64 d]] w
      (RetB (.tuple #[.agg #[.int .u64 (((a + c + (b + d) / 18446744073709551616) % 18446744073709551616 : Nat) : Int), .int .u64 (((b + d) % 18446744073709551616 : Nat) : Int)], .bool (decide (18446744073709551616 ≤ a + c + (b + d) / 18446744073709551616))]) w) := by
  have h1 := fun w => add64_run b d 0 (by omega) w
  rw [Nat.add_zero] at h1
  have h2 := fun w => add64_run a c ((b + d) / 18446744073709551616) (by omega) w
  obtain ⟨X, hX⟩ : ∃ X, X = (b + d) % 18446744073709551616 := ⟨_, rfl⟩
  obtain ⟨C, hC⟩ : ∃ X, X = (b + d) / 18446744073709551616 := ⟨_, rfl⟩
  rw [← hX, ← hC] at h1
  rw [← hC] at h2
  obtain ⟨Y, hY⟩ : ∃ X, X = (a + c + C) % 18446744073709551616 := ⟨_, rfl⟩
  obtain ⟨E, hE⟩ : ∃ X, X = (a + c + C) / 18446744073709551616 := ⟨_, rfl⟩
  rw [← hY, ← hE] at h2
  have hO := Lib.hid (show decide (18446744073709551616 ≤ a + c + C) = decide ((0 : Int) < (E : Int)) from by apply decide_eq_decide.2; omega)
  have h1' : ∀ w, (callFunc 185 #[.int .u64 b, .int .u64 d, .int .u64 0]).run Tryz.prog w = .ok (.value (.tuple #[.int .u64 X, .int .u64 C])) w := h1
  rw [← hX, ← hC, ← hY]
  clear hX hC hY hE h1
  go_enter Tryz.func153, Tryz.ntmps153
  go_wp2
  (refine bodyPost_ret (v := .tuple #[.agg #[.int .u64 (Y : Nat), .int .u64 (X : Nat)], .bool (decide ((0 : Int) < (E : Int)))]) (by (simp [results, Tryz.results153, go_sem]; done)) rfl (RetB.of (by rw [hO.out]) (by (repeat (first | exact Below.refl _ _ | assumption | refine Below.setCell ?_ (by first | omega | (simp <;> omega)) _ | refine Below.alloc ?_ (by first | omega | (simp <;> omega)) _ | refine Below.drew ?_ | refine below_drewN' ?_ _)))))
theorem wi_times_any (hi lo b : Nat) (w : World) (hh : hi < 18446744073709551616) (hl : lo < 18446744073709551616) (hb : b < 18446744073709551616) :
    Calls Tryz.prog 151 #[.agg #[.int .u64 hi, .int .u64 lo], .int .u64 b] w (fun e w' => ∃ p m l : Nat, e = .returned (.agg #[.int .u64 p, .int .u64 m, .int .u64 l]) ∧ p < 18446744073709551616 ∧ m < 18446744073709551616 ∧ l < 18446744073709551616 ∧ (hi * 18446744073709551616 + lo) * b = Fl.w3 p m l ∧ Below w.heap.size w w') := by
  obtain ⟨t1, t2⟩ := Fl.times_words hh hl hb
  have h1 := fun w1 => wi_mul_any lo b w1 hl hb
  have h2 := fun w1 => wi_mul_any hi b w1 hh hb
  have h3 := fun w1 => add64_run (lo * b / 18446744073709551616) (hi * b % 18446744073709551616) 0 (by omega) w1
  rw [Nat.add_zero] at h3
  obtain ⟨P, hP⟩ : ∃ P, P = hi * b / 18446744073709551616 := ⟨_, rfl⟩
  obtain ⟨Q, hQ⟩ : ∃ P, P = hi * b % 18446744073709551616 := ⟨_, rfl⟩
  obtain ⟨R, hR⟩ : ∃ P, P = lo * b / 18446744073709551616 := ⟨_, rfl⟩
  obtain ⟨S, hS⟩ : ∃ P, P = lo * b % 18446744073709551616 := ⟨_, rfl⟩
  have hSl : S < 18446744073709551616 := by omega
  rw [← hP, ← hQ, ← hR] at t1
  rw [← hP, ← hQ, ← hR, ← hS] at t2
  rw [← hR, ← hS] at h1
  rw [← hP, ← hQ] at h2
  rw [← hQ, ← hR] at h3
  obtain ⟨M, hM⟩ : ∃ P, P = (R + Q) % 18446744073709551616 := ⟨_, rfl⟩
  obtain ⟨C, hC⟩ : ∃ P, P = (R + Q) / 18446744073709551616 := ⟨_, rfl⟩
  have hMl : M < 18446744073709551616 := by omega
  rw [← hM, ← hC] at h3
  rw [← hC] at t1
  rw [← hM, ← hC] at t2
  have h3' : ∀ w, (callFunc 185 #[.int .u64 R, .int .u64 Q, .int .u64 0]).run Tryz.prog w = .ok (.value (.tuple #[.int .u64 M, .int .u64 C])) w := h3
  obtain ⟨T, hT⟩ : ∃ T, T = P + C := ⟨_, rfl⟩
  have hTi : (P : Int) + (C : Int) = (T : Int) := by omega
  rw [← hT] at t1 t2
  have H1 := Lib.hid h1; have H2 := Lib.hid h2; have HT := Lib.hid t2
  clear h1 h2 h3 t2 hP hQ hR hS hM hC hT
  have BX : C2 ((w.alloc (.cells #[.int .u64 hi, .int .u64 lo] 91)).alloc (.cells #[.int .u64 0, .int .u64 0, .int .u64 0] 176)) w.heap.size hi lo := (C2.new w hi lo).alloc _
  have BR : C3 ((w.alloc (.cells #[.int .u64 hi, .int .u64 lo] 91)).alloc (.cells #[.int .u64 0, .int .u64 0, .int .u64 0] 176)) (w.heap.size + 1) 0 0 0 := by
    have := C3.new (w.alloc (.cells #[.int .u64 hi, .int .u64 lo] 91)) 0 0 0
    rw [World.size_alloc] at this
    exact this
  have BB : Below w.heap.size w ((w.alloc (.cells #[.int .u64 hi, .int .u64 lo] 91)).alloc (.cells #[.int .u64 0, .int .u64 0, .int .u64 0] 176)) := ((Below.refl w.heap.size w).alloc (Nat.le_refl _) _).alloc (by simp) _
  go_enter Tryz.func151, Tryz.ntmps151
  go_upto_region 1 with (fail)
  obtain ⟨X, hX⟩ : ∃ X, X = ((w.alloc (.cells #[.int .u64 hi, .int .u64 lo] 91)).alloc (.cells #[.int .u64 0, .int .u64 0, .int .u64 0] 176)) := ⟨_, rfl⟩
  obtain ⟨bx, hbx⟩ : ∃ b, b = w.heap.size := ⟨_, rfl⟩
  obtain ⟨br, hbr⟩ : ∃ b, b = w.heap.size + 1 := ⟨_, rfl⟩
  rw [← hX, ← hbx] at BX
  rw [← hX, ← hbr] at BR
  rw [← hX] at BB
  rw [← hX, ← hbr, ← hbx]
  have hbxl : w.heap.size ≤ br := by omega
  clear hX hbr hbx
  have x0 := BX.1.get 0 rfl
  have x1 := BX.1.get 1 rfl
  have HBR := Lib.hid BR; have HBB := Lib.hid BB
  have xl := BX.1.1
  have rl := BR.1.1
  have bl := BB.size
  clear BX BR BB
  go_cut [5, 6] (fun u v w' => ∃ g5 g6 : Nat, u = .pointer (some ⟨g5, 0, none⟩) ∧ v = .pointer (some ⟨g6, 0, none⟩) ∧ Hid (C2 w' g5 R S) ∧ Hid (C2 w' g6 P Q) ∧ Hid (C3 w' br 0 0 0) ∧ Hid (Below w.heap.size w w') ∧ Hid (w.heap.size ≤ br))
  case first =>
    have hne0 := World.new_ne X _ x0
    have hne1 := World.new_ne X _ x1
    go_region_held3 (fun w' => w'.cell? ⟨bx, 0, none⟩ = some (.int .u64 hi) ∧ w'.cell? ⟨bx, 1, none⟩ = some (.int .u64 lo)) (first | go_keep | (refine ⟨?_, ?_⟩ <;> (first | (rw [hr0_w1]; assumption) | (rw [hr0_w2]; assumption))) | (refine ⟨?_, ?_⟩ <;> (first | (go_simp; done) | (simp [go_sem, *]; done))))
      (first | (first | (go_at_call 149; (with_reducible refine (H1.out _).mono ?_); rintro e w1 ⟨rfl, hb_w1⟩; have hB_w1 : Below (X).heap.size (X) w1 := Below.trans (by (repeat (first | exact Below.refl _ _ | assumption | refine Below.setCell ?_ (by first | omega | (simp <;> omega)) _ | refine Below.alloc ?_ (by first | omega | (simp <;> omega)) _ | refine Below.drew ?_ | refine below_drewN' ?_ _))) (hb_w1.mono (by first | omega | (simp <;> omega))); obtain ⟨hc_w1, hf_w1⟩ := bcell hb_w1; have hz_w1 := hb_w1.size; (try simp only [zD, zN, zA, zS] at hz_w1); have hk := own6 hb_w1 (bx) (by (try simp only [zD, zN, zA, zS]); omega); obtain ⟨hl0_w1, hm0_w1, hn0_w1, hq0_w1, hr0_w1, hg0_w1⟩ := hk; have hk := own6 hb_w1 (X.heap.size) (by (try simp only [zD, zN, zA, zS]); omega); obtain ⟨hl1_w1, hm1_w1, hn1_w1, hq1_w1, hr1_w1, hg1_w1⟩ := hk; have hk := own6 hb_w1 (X.heap.size + 1) (by (try simp only [zD, zN, zA, zS]); omega); obtain ⟨hl2_w1, hm2_w1, hn2_w1, hq2_w1, hr2_w1, hg2_w1⟩ := hk) | (go_at_call 149; (with_reducible refine (H1.out _).mono ?_); rintro e w1 ⟨rfl, hb_w1⟩; have hB_w1 : Below (X).heap.size (X) w1 := Below.trans (by (repeat (first | exact Below.refl _ _ | assumption | refine Below.setCell ?_ (by first | omega | (simp <;> omega)) _ | refine Below.alloc ?_ (by first | omega | (simp <;> omega)) _ | refine Below.drew ?_ | refine below_drewN' ?_ _))) (hb_w1.mono (by first | omega | (simp <;> omega))); obtain ⟨hc_w1, hf_w1⟩ := bcell hb_w1; have hz_w1 := hb_w1.size; (try simp only [zD, zN, zA, zS] at hz_w1); have hk := own6 hb_w1 (bx) (by (try simp only [zD, zN, zA, zS]); omega); obtain ⟨hl0_w1, hm0_w1, hn0_w1, hq0_w1, hr0_w1, hg0_w1⟩ := hk; have hk := own6 hb_w1 (X.heap.size) (by (try simp only [zD, zN, zA, zS]); omega); obtain ⟨hl1_w1, hm1_w1, hn1_w1, hq1_w1, hr1_w1, hg1_w1⟩ := hk) | (go_at_call 149; (with_reducible refine (H1.out _).mono ?_); rintro e w1 ⟨rfl, hb_w1⟩; have hB_w1 : Below (X).heap.size (X) w1 := Below.trans (by (repeat (first | exact Below.refl _ _ | assumption | refine Below.setCell ?_ (by first | omega | (simp <;> omega)) _ | refine Below.alloc ?_ (by first | omega | (simp <;> omega)) _ | refine Below.drew ?_ | refine below_drewN' ?_ _))) (hb_w1.mono (by first | omega | (simp <;> omega))); obtain ⟨hc_w1, hf_w1⟩ := bcell hb_w1; have hz_w1 := hb_w1.size; (try simp only [zD, zN, zA, zS] at hz_w1); have hk := own6 hb_w1 (bx) (by (try simp only [zD, zN, zA, zS]); omega); obtain ⟨hl0_w1, hm0_w1, hn0_w1, hq0_w1, hr0_w1, hg0_w1⟩ := hk)) | (first | (go_at_call 149; (with_reducible refine (H2.out _).mono ?_); rintro e w2 ⟨rfl, hb_w2⟩; have hB_w2 : Below (X).heap.size (X) w2 := Below.trans (by (repeat (first | exact Below.refl _ _ | assumption | refine Below.setCell ?_ (by first | omega | (simp <;> omega)) _ | refine Below.alloc ?_ (by first | omega | (simp <;> omega)) _ | refine Below.drew ?_ | refine below_drewN' ?_ _))) (hb_w2.mono (by first | omega | (simp <;> omega))); obtain ⟨hc_w2, hf_w2⟩ := bcell hb_w2; have hz_w2 := hb_w2.size; (try simp only [zD, zN, zA, zS] at hz_w2); have hk := own6 hb_w2 (bx) (by (try simp only [zD, zN, zA, zS]); omega); obtain ⟨hl0_w2, hm0_w2, hn0_w2, hq0_w2, hr0_w2, hg0_w2⟩ := hk; have hk := own6 hb_w2 (X.heap.size) (by (try simp only [zD, zN, zA, zS]); omega); obtain ⟨hl1_w2, hm1_w2, hn1_w2, hq1_w2, hr1_w2, hg1_w2⟩ := hk; have hk := own6 hb_w2 (X.heap.size + 1) (by (try simp only [zD, zN, zA, zS]); omega); obtain ⟨hl2_w2, hm2_w2, hn2_w2, hq2_w2, hr2_w2, hg2_w2⟩ := hk) | (go_at_call 149; (with_reducible refine (H2.out _).mono ?_); rintro e w2 ⟨rfl, hb_w2⟩; have hB_w2 : Below (X).heap.size (X) w2 := Below.trans (by (repeat (first | exact Below.refl _ _ | assumption | refine Below.setCell ?_ (by first | omega | (simp <;> omega)) _ | refine Below.alloc ?_ (by first | omega | (simp <;> omega)) _ | refine Below.drew ?_ | refine below_drewN' ?_ _))) (hb_w2.mono (by first | omega | (simp <;> omega))); obtain ⟨hc_w2, hf_w2⟩ := bcell hb_w2; have hz_w2 := hb_w2.size; (try simp only [zD, zN, zA, zS] at hz_w2); have hk := own6 hb_w2 (bx) (by (try simp only [zD, zN, zA, zS]); omega); obtain ⟨hl0_w2, hm0_w2, hn0_w2, hq0_w2, hr0_w2, hg0_w2⟩ := hk; have hk := own6 hb_w2 (X.heap.size) (by (try simp only [zD, zN, zA, zS]); omega); obtain ⟨hl1_w2, hm1_w2, hn1_w2, hq1_w2, hr1_w2, hg1_w2⟩ := hk; have hk := own6 hb_w2 (w1.heap.size) (by (try simp only [zD, zN, zA, zS]); omega); obtain ⟨hl2_w2, hm2_w2, hn2_w2, hq2_w2, hr2_w2, hg2_w2⟩ := hk) | (go_at_call 149; (with_reducible refine (H2.out _).mono ?_); rintro e w2 ⟨rfl, hb_w2⟩; have hB_w2 : Below (X).heap.size (X) w2 := Below.trans (by (repeat (first | exact Below.refl _ _ | assumption | refine Below.setCell ?_ (by first | omega | (simp <;> omega)) _ | refine Below.alloc ?_ (by first | omega | (simp <;> omega)) _ | refine Below.drew ?_ | refine below_drewN' ?_ _))) (hb_w2.mono (by first | omega | (simp <;> omega))); obtain ⟨hc_w2, hf_w2⟩ := bcell hb_w2; have hz_w2 := hb_w2.size; (try simp only [zD, zN, zA, zS] at hz_w2); have hk := own6 hb_w2 (bx) (by (try simp only [zD, zN, zA, zS]); omega); obtain ⟨hl0_w2, hm0_w2, hn0_w2, hq0_w2, hr0_w2, hg0_w2⟩ := hk; have hk := own6 hb_w2 (X.heap.size) (by (try simp only [zD, zN, zA, zS]); omega); obtain ⟨hl1_w2, hm1_w2, hn1_w2, hq1_w2, hr1_w2, hg1_w2⟩ := hk) | (go_at_call 149; (with_reducible refine (H2.out _).mono ?_); rintro e w2 ⟨rfl, hb_w2⟩; have hB_w2 : Below (X).heap.size (X) w2 := Below.trans (by (repeat (first | exact Below.refl _ _ | assumption | refine Below.setCell ?_ (by first | omega | (simp <;> omega)) _ | refine Below.alloc ?_ (by first | omega | (simp <;> omega)) _ | refine Below.drew ?_ | refine below_drewN' ?_ _))) (hb_w2.mono (by first | omega | (simp <;> omega))); obtain ⟨hc_w2, hf_w2⟩ := bcell hb_w2; have hz_w2 := hb_w2.size; (try simp only [zD, zN, zA, zS] at hz_w2); have hk := own6 hb_w2 (bx) (by (try simp only [zD, zN, zA, zS]); omega); obtain ⟨hl0_w2, hm0_w2, hn0_w2, hq0_w2, hr0_w2, hg0_w2⟩ := hk; have hk := own6 hb_w2 (w1.heap.size) (by (try simp only [zD, zN, zA, zS]); omega); obtain ⟨hl1_w2, hm1_w2, hn1_w2, hq1_w2, hr1_w2, hg1_w2⟩ := hk; have hk := own6 hb_w2 (w1.heap.size + 1) (by (try simp only [zD, zN, zA, zS]); omega); obtain ⟨hl2_w2, hm2_w2, hn2_w2, hq2_w2, hr2_w2, hg2_w2⟩ := hk) | (go_at_call 149; (with_reducible refine (H2.out _).mono ?_); rintro e w2 ⟨rfl, hb_w2⟩; have hB_w2 : Below (X).heap.size (X) w2 := Below.trans (by (repeat (first | exact Below.refl _ _ | assumption | refine Below.setCell ?_ (by first | omega | (simp <;> omega)) _ | refine Below.alloc ?_ (by first | omega | (simp <;> omega)) _ | refine Below.drew ?_ | refine below_drewN' ?_ _))) (hb_w2.mono (by first | omega | (simp <;> omega))); obtain ⟨hc_w2, hf_w2⟩ := bcell hb_w2; have hz_w2 := hb_w2.size; (try simp only [zD, zN, zA, zS] at hz_w2); have hk := own6 hb_w2 (bx) (by (try simp only [zD, zN, zA, zS]); omega); obtain ⟨hl0_w2, hm0_w2, hn0_w2, hq0_w2, hr0_w2, hg0_w2⟩ := hk; have hk := own6 hb_w2 (w1.heap.size) (by (try simp only [zD, zN, zA, zS]); omega); obtain ⟨hl1_w2, hm1_w2, hn1_w2, hq1_w2, hr1_w2, hg1_w2⟩ := hk) | (go_at_call 149; (with_reducible refine (H2.out _).mono ?_); rintro e w2 ⟨rfl, hb_w2⟩; have hB_w2 : Below (X).heap.size (X) w2 := Below.trans (by (repeat (first | exact Below.refl _ _ | assumption | refine Below.setCell ?_ (by first | omega | (simp <;> omega)) _ | refine Below.alloc ?_ (by first | omega | (simp <;> omega)) _ | refine Below.drew ?_ | refine below_drewN' ?_ _))) (hb_w2.mono (by first | omega | (simp <;> omega))); obtain ⟨hc_w2, hf_w2⟩ := bcell hb_w2; have hz_w2 := hb_w2.size; (try simp only [zD, zN, zA, zS] at hz_w2); have hk := own6 hb_w2 (bx) (by (try simp only [zD, zN, zA, zS]); omega); obtain ⟨hl0_w2, hm0_w2, hn0_w2, hq0_w2, hr0_w2, hg0_w2⟩ := hk)))
    all_goals (try go_wp2)
    all_goals go_meet
    all_goals (refine ⟨_, _, rfl, rfl, Lib.hid ?_, Lib.hid ?_, Lib.hid ?_, Lib.hid ?_, Lib.hid hbxl⟩)
    all_goals (have HB0 := HBB.out; have HR0 := HBR.out)
    all_goals first
      | (with_reducible (refine HB0.trans (Below.mono (B := X.heap.size) ?_ bl)); (repeat (first | exact Below.refl _ _ | assumption | refine Below.setCell ?_ (by first | omega | (simp <;> omega)) _ | refine Below.alloc ?_ (by first | omega | (simp <;> omega)) _ | refine Below.drew ?_ | refine below_drewN' ?_ _)); done)
      | ((repeat (with_reducible (first | assumption | refine C2.new' _ _ (by first | rfl | (simp only [zD, zN, zA, zS]; done) | (simp only [zD, zN, zA, zS]; omega)) | refine C2.new0 (by first | rfl | (simp only [zD, zN, zA, zS]; done) | (simp only [zD, zN, zA, zS]; omega)) | refine C2.setOther ?_ (by first | omega | (simp only [zD, zN, zA, zS]; omega)) | refine C2.stored' (h := 0) (l := 0) ?_ _ _ | refine C2.drew ?_ | refine C2.alloc ?_ _ | refine C2.on ?_ hb_w1 | refine C2.on ?_ hb_w2 | refine C3.setOther ?_ (by first | omega | (simp only [zD, zN, zA, zS]; omega)) | refine C3.drew ?_ | refine C3.alloc ?_ _ | refine C3.on ?_ hb_w1 | refine C3.on ?_ hb_w2))); done)
  case rest => as_aux_lemma =>
    obtain ⟨g5, g6, rfl, rfl, C5, C6, C4, HBW, hbr⟩ := hcut
    have p0 := C5.out.1.get 0 rfl
    have p1 := C5.out.1.get 1 rfl
    have q0 := C6.out.1.get 0 rfl
    have q1 := C6.out.1.get 1 rfl
    have r0 := C4.out.1.get 0 rfl
    have r1 := C4.out.1.get 1 rfl
    have r2 := C4.out.1.get 2 rfl
    have f0 := C4.out.2 0; have f1 := C4.out.2 1; have f2 := C4.out.2 2
    have HS := Lib.hid (C4.out.stored T M S)
    have HX := Lib.hid (below_setCells (b := br) hbr.out [.int .u64 (T : Int), .int .u64 (M : Int), .int .u64 (S : Int)] 0 HBW.out)
    go_wp2_with fail
    obtain ⟨Y, hY⟩ : ∃ Y, Y = wc.setCells br 0 [.int .u64 (T : Int), .int .u64 (M : Int), .int .u64 (S : Int)] := ⟨_, rfl⟩
    change bodyPost _ _ _ _ _ (wc.setCells br 0 [.int .u64 (T : Int), .int .u64 (M : Int), .int .u64 (S : Int)])
    rw [← hY] at HS HX ⊢
    have y0 := HS.out.1.get 0 rfl
    have y1 := HS.out.1.get 1 rfl
    have y2 := HS.out.1.get 2 rfl
    clear hY
    refine bodyPost_ret (v := .agg #[.int .u64 (T : Nat), .int .u64 (M : Nat), .int .u64 (S : Nat)]) (by (simp [results, Tryz.results151, go_sem, y0, y1, y2]; done)) rfl ?_
    exact ⟨T, M, S, rfl, t1, hMl, hSl, HT.out, HX.out⟩
end Go.Proofs.YtiglekomfgfilaaGreatDoor

/- binary64 in bits: kind and parts, in the program and in the reference. -/
namespace Go.Proofs.YtiglekomfgfilaaGreatDoor
set_option maxRecDepth 100000
set_option maxHeartbeats 1000000
set_option linter.all false
open Go.RowKit
theorem Fl.and_mask (x m k : Nat) (hx : x < 18446744073709551616) (hm : m = 2 ^ k - 1) (hk : k ≤ 63) : Go.bits BinOp.and IntKind.u64 (x : Int) (m : Int) = ((x % 2 ^ k : Nat) : Int) := by
  have h1 : 2 ^ k ≤ 2 ^ 63 := Nat.pow_le_pow_right (by decide) hk
  rw [bits_and_u64_nat x m hx (by omega), hm, Nat.and_two_pow_sub_one_eq_mod]
theorem Fl.and_expo (x : Nat) (hx : x < 18446744073709551616) : Go.bits BinOp.and IntKind.u64 ((x / 4503599627370496 : Nat) : Int) 2047 = (Fl.expo x : Int) := Fl.and_mask _ 2047 11 (by omega) (by decide) (by decide)
theorem Fl.and_frac (x : Nat) (hx : x < 18446744073709551616) : Go.bits BinOp.and IntKind.u64 (x : Int) 4503599627370495 = (Fl.frac x : Int) := Fl.and_mask _ 4503599627370495 52 hx (by decide) (by decide)
theorem Fl.or_one (f : Nat) (h : f < 4503599627370496) : Go.bits BinOp.or IntKind.u64 4503599627370496 (f : Int) = ((4503599627370496 + f : Nat) : Int) := by
  rw [show (4503599627370496 : Int) = ((4503599627370496 : Nat) : Int) by rfl, bits_or_u64_nat _ _ (by decide) (by omega)]
  congr 1
  have := Nat.two_pow_add_eq_or_of_lt (show f < 2 ^ 52 by omega) 1
  rw [Nat.mul_one] at this; exact this.symm
theorem Fl.kinds (x : Nat) : (Fl.expo x = 2047 ∧ Fl.frac x = 0 ∧ Fl.kind x = 3) ∨ (Fl.expo x = 2047 ∧ Fl.frac x ≠ 0 ∧ Fl.kind x = 4) ∨ (Fl.expo x ≠ 2047 ∧ 0 < Fl.expo x ∧ Fl.kind x = 2) ∨ (Fl.expo x = 0 ∧ 0 < Fl.frac x ∧ Fl.kind x = 1) ∨ (Fl.expo x = 0 ∧ Fl.frac x = 0 ∧ Fl.kind x = 0) := by
  by_cases h1 : Fl.expo x = 2047
  · by_cases h2 : Fl.frac x = 0
    · exact Or.inl ⟨h1, h2, by rw [Fl.kind, if_pos h1, if_pos h2]⟩
    · exact Or.inr (Or.inl ⟨h1, h2, by rw [Fl.kind, if_pos h1, if_neg h2]⟩)
  · by_cases h2 : 0 < Fl.expo x
    · exact Or.inr (Or.inr (Or.inl ⟨h1, h2, by rw [Fl.kind, if_neg h1, if_pos h2]⟩))
    · by_cases h3 : 0 < Fl.frac x
      · exact Or.inr (Or.inr (Or.inr (Or.inl ⟨by omega, h3, by rw [Fl.kind, if_neg h1, if_neg h2, if_pos h3]⟩)))
      · exact Or.inr (Or.inr (Or.inr (Or.inr ⟨by omega, by omega, by rw [Fl.kind, if_neg h1, if_neg h2, if_neg h3]⟩)))
theorem fl_kind_any (x : Nat) (hx : x < 18446744073709551616) (w : World) : Calls Tryz.prog 62 #[.int .u64 x] w (Ret0 (.int .i64 (Fl.kind x : Nat)) w) := by
  have hand1 := Fl.and_expo x hx
  have hand2 := Fl.and_frac x hx
  have hk := Fl.kinds x
  have he2 := Fl.expo_lt x
  have hf2 := Fl.frac_lt x
  obtain ⟨q, hq⟩ : ∃ q, q = x / 4503599627370496 := ⟨_, rfl⟩
  have hqi : (x : Int) / 4503599627370496 = (q : Int) := by omega
  rw [← hq] at hand1
  obtain ⟨e, he⟩ : ∃ e, e = Fl.expo x := ⟨_, rfl⟩
  obtain ⟨f, hf⟩ : ∃ e, e = Fl.frac x := ⟨_, rfl⟩
  obtain ⟨k, hkk⟩ : ∃ e, e = Fl.kind x := ⟨_, rfl⟩
  rw [← he, ← hf, ← hkk] at hk
  rw [← he] at hand1 he2
  rw [← hf] at hand2 hf2
  rw [← hkk]
  clear he hf hkk hq
  rcases hk with ⟨rfl, rfl, rfl⟩ | ⟨rfl, h2, rfl⟩ | ⟨h1, h2, rfl⟩ | ⟨rfl, h2, rfl⟩ | ⟨rfl, rfl, rfl⟩
  · go_enter Tryz.func62, Tryz.ntmps62
    go_wp2
    go_ret
    exact Ret0.of rfl
  · have b2 : ((f : Int) == 0) = false := by simpa using h2
    go_enter Tryz.func62, Tryz.ntmps62
    go_wp2
    go_ret
    exact Ret0.of rfl
  · have b1 : ((e : Int) == 2047) = false := by simp; omega
    go_enter Tryz.func62, Tryz.ntmps62
    go_wp2
    go_ret
    exact Ret0.of rfl
  · go_enter Tryz.func62, Tryz.ntmps62
    go_wp2
    go_ret
    exact Ret0.of rfl
  · go_enter Tryz.func62, Tryz.ntmps62
    go_wp2
    go_ret
    exact Ret0.of rfl
theorem r3_kind_any (x : Nat) (hx : x < 18446744073709551616) (w : World) : Calls Tryz.prog 12 #[.int .u64 x] w (Ret0 (.int .i64 (Fl.kind x : Nat)) w) := by
  have hk := Fl.kinds x
  have he2 := Fl.expo_lt x
  have hf2 := Fl.frac_lt x
  obtain ⟨e, he⟩ : ∃ e, e = Fl.expo x := ⟨_, rfl⟩
  obtain ⟨f, hf⟩ : ∃ e, e = Fl.frac x := ⟨_, rfl⟩
  obtain ⟨k, hkk⟩ : ∃ e, e = Fl.kind x := ⟨_, rfl⟩
  have hei : (x : Int) / 4503599627370496 % 2048 = (e : Int) := by rw [he, Fl.expo]; omega
  have hfi : (x : Int) % 4503599627370496 = (f : Int) := by rw [hf, Fl.frac]; omega
  rw [← he, ← hf, ← hkk] at hk
  rw [← he] at he2
  rw [← hf] at hf2
  rw [← hkk]
  clear he hf hkk
  rcases hk with ⟨rfl, rfl, rfl⟩ | ⟨rfl, h2, rfl⟩ | ⟨h1, h2, rfl⟩ | ⟨rfl, h2, rfl⟩ | ⟨rfl, rfl, rfl⟩
  · go_enter Tryz.func12, Tryz.ntmps12
    go_wp2
    go_ret
    exact Ret0.of rfl
  · have b2 : ((f : Int) == 0) = false := by simpa using h2
    go_enter Tryz.func12, Tryz.ntmps12
    go_wp2
    go_ret
    exact Ret0.of rfl
  · have b1 : ((e : Int) == 2047) = false := by simp; omega
    have b2 : ((e : Int) == 0) = false := by simp; omega
    go_enter Tryz.func12, Tryz.ntmps12
    go_wp2
    go_ret
    exact Ret0.of rfl
  · have b2 : ((f : Int) == 0) = false := by simp; omega
    go_enter Tryz.func12, Tryz.ntmps12
    go_wp2
    go_ret
    exact Ret0.of rfl
  · go_enter Tryz.func12, Tryz.ntmps12
    go_wp2
    go_ret
    exact Ret0.of rfl
theorem Fl.neg_int (x : Nat) : decide ((9223372036854775808 : Int) ≤ (x : Int)) = Fl.neg x := by rw [Fl.neg]; apply decide_eq_decide.2; omega
theorem Fl.parts (x : Nat) : (Fl.kind x < 2 ∧ Fl.mant x = Fl.frac x ∧ Fl.expn x = -1074) ∨ (Fl.kind x = 2 ∧ Fl.mant x = 4503599627370496 + Fl.frac x ∧ Fl.expn x = (Fl.expo x : Int) - 1075) ∨ (3 ≤ Fl.kind x ∧ Fl.mant x = 0 ∧ Fl.expn x = 0) := by
  rcases Nat.lt_trichotomy (Fl.kind x) 2 with h | h | h
  · exact Or.inl ⟨h, by rw [Fl.mant, if_neg (by omega), if_pos h], by rw [Fl.expn, if_neg (by omega), if_pos h]⟩
  · exact Or.inr (Or.inl ⟨h, by rw [Fl.mant, if_pos h], by rw [Fl.expn, if_pos h]⟩)
  · exact Or.inr (Or.inr ⟨h, by rw [Fl.mant, if_neg (by omega), if_neg (by omega)], by rw [Fl.expn, if_neg (by omega), if_neg (by omega)]⟩)
theorem fl_split_any (x : Nat) (hx : x < 18446744073709551616) (w : World) : Calls Tryz.prog 63 #[.int .u64 x] w (Ret0 (.tuple #[.bool (Fl.neg x), .int .u64 (Fl.mant x : Nat), .int .i64 (Fl.expn x)]) w) := by
  have hand1 := Fl.and_expo x hx
  have hand2 := Fl.and_frac x hx
  have hp := Fl.parts x
  have he2 := Fl.expo_lt x
  have hf2 := Fl.frac_lt x
  have hor := Fl.or_one _ hf2
  have hn := Fl.neg_int x
  have hK := fl_kind_any x hx
  obtain ⟨q, hq⟩ : ∃ q, q = x / 4503599627370496 := ⟨_, rfl⟩
  have hqi : (x : Int) / 4503599627370496 = (q : Int) := by omega
  rw [← hq] at hand1
  obtain ⟨e, he⟩ : ∃ e, e = Fl.expo x := ⟨_, rfl⟩
  obtain ⟨f, hf⟩ : ∃ e, e = Fl.frac x := ⟨_, rfl⟩
  obtain ⟨k, hkk⟩ : ∃ e, e = Fl.kind x := ⟨_, rfl⟩
  obtain ⟨m, hm⟩ : ∃ e, e = Fl.mant x := ⟨_, rfl⟩
  obtain ⟨ex, hex⟩ : ∃ e, e = Fl.expn x := ⟨_, rfl⟩
  obtain ⟨s, hs⟩ : ∃ e, e = Fl.neg x := ⟨_, rfl⟩
  rw [← he, ← hf, ← hkk, ← hm, ← hex] at hp
  rw [← he] at hand1 he2
  rw [← hf] at hand2 hf2 hor
  rw [← hkk] at hK
  rw [← hs] at hn
  rw [← hm, ← hex, ← hs]
  have HK := Lib.hid hK
  clear he hf hkk hm hex hs hq hK
  rcases hp with ⟨h1, rfl, rfl⟩ | ⟨rfl, rfl, rfl⟩ | ⟨h1, rfl, rfl⟩
  · have h01 : k = 0 ∨ k = 1 := by omega
    rcases h01 with rfl | rfl
    all_goals (
      go_enter Tryz.func63, Tryz.ntmps63
      go_wp2_with (go_at_call 62; (with_reducible refine (HK.out _).mono ?_); rintro e w' ⟨rfl, rfl⟩)
      refine bodyPost_ret (v := .tuple #[.bool s, .int .u64 m, .int .i64 (-1074)]) (by simp [results, Tryz.results63, go_sem]) rfl (Ret0.of rfl))
  · go_enter Tryz.func63, Tryz.ntmps63
    go_wp2_with (go_at_call 62; (with_reducible refine (HK.out _).mono ?_); rintro e w' ⟨rfl, rfl⟩)
    refine bodyPost_ret (v := .tuple #[.bool s, .int .u64 ((4503599627370496 + f : Nat) : Int), .int .i64 ((e : Int) - 1075)]) (by simp [results, Tryz.results63, go_sem, hor]) rfl (Ret0.of rfl)
  · have b0 : ((k : Int) == 0) = false := by simp; omega
    have b1 : ((k : Int) == 1) = false := by simp; omega
    have b2 : ((k : Int) == 2) = false := by simp; omega
    go_enter Tryz.func63, Tryz.ntmps63
    go_wp2_with (go_at_call 62; (with_reducible refine (HK.out _).mono ?_); rintro e w' ⟨rfl, rfl⟩)
    refine bodyPost_ret (v := .tuple #[.bool s, .int .u64 0, .int .i64 0]) (by simp [results, Tryz.results63, go_sem]) rfl (Ret0.of rfl)
theorem r3_is_any (x : Nat) (w : World) : Calls Tryz.prog 34 #[.int .u64 x] w (Ret0 (.bool (Fl.neg x)) w) := by
  have hn := Fl.neg_int x
  go_enter Tryz.func34, Tryz.ntmps34
  go_wp2
  refine bodyPost_ret (v := .bool (Fl.neg x)) (by simp [results, Tryz.results34, go_sem, hn]) rfl (Ret0.of rfl)
theorem r3_split_any (x : Nat) (hx : x < 18446744073709551616) (w : World) : Calls Tryz.prog 56 #[.int .u64 x] w (Ret0 (.tuple #[.bool (Fl.neg x), .int .u64 (Fl.mant x : Nat), .int .i64 (Fl.expn x)]) w) := by
  have hp := Fl.parts x
  have he2 := Fl.expo_lt x
  have hf2 := Fl.frac_lt x
  have hK := r3_kind_any x hx
  have hI := r3_is_any x
  obtain ⟨e, he⟩ : ∃ e, e = Fl.expo x := ⟨_, rfl⟩
  obtain ⟨f, hf⟩ : ∃ e, e = Fl.frac x := ⟨_, rfl⟩
  obtain ⟨k, hkk⟩ : ∃ e, e = Fl.kind x := ⟨_, rfl⟩
  obtain ⟨m, hm⟩ : ∃ e, e = Fl.mant x := ⟨_, rfl⟩
  obtain ⟨ex, hex⟩ : ∃ e, e = Fl.expn x := ⟨_, rfl⟩
  obtain ⟨s, hs⟩ : ∃ e, e = Fl.neg x := ⟨_, rfl⟩
  have hei : (x : Int) / 4503599627370496 % 2048 = (e : Int) := by rw [he, Fl.expo]; omega
  have hfi : (x : Int) % 4503599627370496 = (f : Int) := by rw [hf, Fl.frac]; omega
  rw [← he, ← hf, ← hkk, ← hm, ← hex] at hp
  rw [← he] at he2
  rw [← hf] at hf2
  rw [← hkk] at hK
  rw [← hs] at hI
  rw [← hm, ← hex, ← hs]
  have HK := Lib.hid hK; have HI := Lib.hid hI
  clear he hf hkk hm hex hs hK hI
  rcases hp with ⟨h1, rfl, rfl⟩ | ⟨rfl, rfl, rfl⟩ | ⟨h1, rfl, rfl⟩
  · have h01 : k = 0 ∨ k = 1 := by omega
    rcases h01 with rfl | rfl
    all_goals (
      go_enter Tryz.func56, Tryz.ntmps56
      go_wp2_with (first | (go_at_call 12; (with_reducible refine (HK.out _).mono ?_); rintro e w' ⟨rfl, rfl⟩) | (go_at_call 34; (with_reducible refine (HI.out _).mono ?_); rintro e w' ⟨rfl, rfl⟩))
      refine bodyPost_ret (v := .tuple #[.bool s, .int .u64 m, .int .i64 (-1074)]) (by simp [results, Tryz.results56, go_sem, hfi]) rfl (Ret0.of rfl))
  · go_enter Tryz.func56, Tryz.ntmps56
    go_wp2_with (first | (go_at_call 12; (with_reducible refine (HK.out _).mono ?_); rintro e w' ⟨rfl, rfl⟩) | (go_at_call 34; (with_reducible refine (HI.out _).mono ?_); rintro e w' ⟨rfl, rfl⟩))
    refine bodyPost_ret (v := .tuple #[.bool s, .int .u64 ((4503599627370496 + f : Nat) : Int), .int .i64 ((e : Int) - 1075)]) (by simp [results, Tryz.results56, go_sem, hfi]) rfl (Ret0.of rfl)
  · have b0 : ((k : Int) == 0) = false := by simp; omega
    have b1 : ((k : Int) == 1) = false := by simp; omega
    have b2 : ((k : Int) == 2) = false := by simp; omega
    go_enter Tryz.func56, Tryz.ntmps56
    go_wp2_with (first | (go_at_call 12; (with_reducible refine (HK.out _).mono ?_); rintro e w' ⟨rfl, rfl⟩) | (go_at_call 34; (with_reducible refine (HI.out _).mono ?_); rintro e w' ⟨rfl, rfl⟩))
    refine bodyPost_ret (v := .tuple #[.bool s, .int .u64 0, .int .i64 0]) (by simp [results, Tryz.results56, go_sem, hfi]) rfl (Ret0.of rfl)
end Go.Proofs.YtiglekomfgfilaaGreatDoor

/- binary64 in the program: a number of two words, times a power of two, is rounded (1): the parts. -/
namespace Go.Proofs.YtiglekomfgfilaaGreatDoor
set_option maxRecDepth 100000
set_option maxHeartbeats 2000000
set_option linter.all false
open Go.RowKit
theorem fl_unit_any (L : Nat) (e : Int) (w : World) (hL : L ≤ 1000000) (he : -1000000 ≤ e ∧ e ≤ 1000000) : Calls Tryz.prog 201 #[.int .i64 L, .int .i64 e] w (Ret0 (.int .i64 (max (e + (L : Int) - 53) (-1074))) w) := by
  obtain ⟨h1, h2⟩ := he
  go_enter Tryz.func201, Tryz.ntmps201
  go_wp2
  go_ret
  exact Ret0.of rfl
def Fl.pk (m : Nat) (u : Int) : Nat := if m < 4503599627370496 then m else if m = 9007199254740992 then (if 2047 ≤ u + 1076 then 9218868437227405312 else (u + 1076).toNat * 4503599627370496) else (if 2047 ≤ u + 1075 then 9218868437227405312 else (u + 1075).toNat * 4503599627370496 + m - 4503599627370496)
def Fl.sgn (neg : Bool) : Nat := if neg then 9223372036854775808 else 0
theorem Fl.pk_lt {m : Nat} {u : Int} (hm : m ≤ 9007199254740992) : Fl.pk m u < 9223372036854775808 := by
  unfold Fl.pk
  split
  · omega
  · split
    · split <;> omega
    · split <;> omega
theorem Fl.or_sign (D : Nat) (h : D < 9223372036854775808) : Go.bits BinOp.or IntKind.u64 (D : Int) 9223372036854775808 = ((9223372036854775808 + D : Nat) : Int) := by
  rw [show (9223372036854775808 : Int) = ((9223372036854775808 : Nat) : Int) by rfl, bits_or_u64_nat _ _ (by omega) (by omega)]
  congr 1
  have := Nat.two_pow_add_eq_or_of_lt (show D < 2 ^ 63 by omega) 1
  rw [Nat.mul_one, Nat.or_comm] at this
  exact this.symm
theorem fl_pack_any (neg : Bool) (m : Nat) (u : Int) (w : World) (hm : m ≤ 9007199254740992) (hu : -1074 ≤ u ∧ u ≤ 100000) :
    Calls Tryz.prog 202 #[.bool neg, .int .u64 m, .int .i64 u] w (Ret0 (.int .u64 ((Fl.sgn neg + Fl.pk m u : Nat) : Int)) w) := by
  have hlt := Fl.pk_lt (u := u) hm
  have hor := Fl.or_sign (Fl.pk m u) hlt
  obtain ⟨D, hD⟩ : ∃ D, D = Fl.pk m u := ⟨_, rfl⟩
  rw [← hD] at hlt hor ⊢
  obtain ⟨u1, u2⟩ := hu
  rw [Fl.pk] at hD
  by_cases c1 : m < 4503599627370496
  · rw [if_pos c1] at hD
    subst hD
    have n1 : ((D : Int) == 9007199254740992) = false := by simp only [beq_eq_false_iff_ne, ne_eq]; omega
    cases neg
    all_goals (
      go_enter Tryz.func202, Tryz.ntmps202
      go_wp2
      go_ret
      exact Ret0.of (by first | rfl | (simp [Fl.sgn]; done)))
  · rw [if_neg c1] at hD
    by_cases c2 : m = 9007199254740992
    · rw [if_pos c2] at hD
      subst c2
      by_cases c3 : 2047 ≤ u + 1076
      · rw [if_pos c3] at hD
        subst hD
        have c4 : 2047 ≤ u + 1 + 1075 := by omega
        cases neg
        all_goals (
          go_enter Tryz.func202, Tryz.ntmps202
          go_wp2
          go_ret
          exact Ret0.of (by first | rfl | (simp [Fl.sgn]; done)))
      · rw [if_neg c3] at hD
        have c4 : ¬ 2047 ≤ u + 1 + 1075 := by omega
        obtain ⟨z, hz⟩ : ∃ z : Nat, u + 1 + 1075 - 1 = (z : Int) := ⟨(u + 1075).toNat, by omega⟩
        have hzl : z < 2046 := by omega
        obtain ⟨Z, hZ⟩ : ∃ Z, Z = z * 4503599627370496 := ⟨_, rfl⟩
        have hZi : (z : Int) * 4503599627370496 = (Z : Int) := by omega
        have hZl : Z ≤ 9209861237972664320 := by omega
        have hsum : (4503599627370496 : Int) + (Z : Int) = (D : Int) := by omega
        clear hD hZ
        cases neg
        all_goals (
          go_enter Tryz.func202, Tryz.ntmps202
          go_wp2
          go_ret
          exact Ret0.of (by first | rfl | (simp [Fl.sgn]; done)))
    · rw [if_neg c2] at hD
      have n1 : ((m : Int) == 9007199254740992) = false := by simp only [beq_eq_false_iff_ne, ne_eq]; omega
      by_cases c3 : 2047 ≤ u + 1075
      · rw [if_pos c3] at hD
        subst hD
        cases neg
        all_goals (
          go_enter Tryz.func202, Tryz.ntmps202
          go_wp2
          go_ret
          exact Ret0.of (by first | rfl | (simp [Fl.sgn]; done)))
      · rw [if_neg c3] at hD
        obtain ⟨z, hz⟩ : ∃ z : Nat, u + 1075 - 1 = (z : Int) := ⟨(u + 1074).toNat, by omega⟩
        have hzl : z < 2046 := by omega
        obtain ⟨Z, hZ⟩ : ∃ Z, Z = z * 4503599627370496 := ⟨_, rfl⟩
        have hZi : (z : Int) * 4503599627370496 = (Z : Int) := by omega
        have hZl : Z ≤ 9209861237972664320 := by omega
        have hsum : (m : Int) + (Z : Int) = (D : Int) := by omega
        clear hD hZ
        cases neg
        all_goals (
          go_enter Tryz.func202, Tryz.ntmps202
          go_wp2
          go_ret
          exact Ret0.of (by first | rfl | (simp [Fl.sgn]; done)))
theorem fl_far_zero (neg : Bool) (e : Int) (w : World) (he : -9000000000000000000 ≤ e ∧ e ≤ 9000000000000000000) :
    Calls Tryz.prog 200 #[.bool neg, .int .i64 0, .int .i64 e] w (Ret0 (.tuple #[.int .u64 ((Fl.sgn neg : Nat) : Int), .bool true]) w) := by
  have H := Lib.hid (fun w1 => (show Calls Tryz.prog 202 #[.bool neg, .int .u64 0, .int .i64 0] w1 (Ret0 (.int .u64 ((Fl.sgn neg : Nat) : Int)) w1) from fl_pack_any neg 0 0 w1 (by omega) (by omega)))
  obtain ⟨h1, h2⟩ := he
  go_enter Tryz.func200, Tryz.ntmps200
  go_wp2_with (go_at_call 202; (with_reducible refine (H.out _).mono ?_); rintro e w' ⟨rfl, rfl⟩)
  refine bodyPost_ret (v := .tuple #[.int .u64 ((Fl.sgn neg : Nat) : Int), .bool true]) (by simp [results, Tryz.results200, go_sem]) rfl (Ret0.of rfl)
theorem fl_far_no (neg : Bool) (L : Nat) (e : Int) (w : World) (hL : 0 < L ∧ L ≤ 1000000) (he : -10000 ≤ e ∧ e ≤ 2000) :
    Calls Tryz.prog 200 #[.bool neg, .int .i64 L, .int .i64 e] w (Ret0 (.tuple #[.int .u64 0, .bool false]) w) := by
  obtain ⟨h1, h2⟩ := he
  obtain ⟨h3, h4⟩ := hL
  have d0 : ((L : Int) == 0) = false := by simp only [beq_eq_false_iff_ne, ne_eq]; omega
  have d1 : decide (e < -10000) = false := decide_eq_false (by omega)
  have d2 : decide (2000 < e) = false := decide_eq_false (by omega)
  go_enter Tryz.func200, Tryz.ntmps200
  go_wp2
  refine bodyPost_ret (v := .tuple #[.int .u64 0, .bool false]) (by simp [results, Tryz.results200, go_sem]) rfl (Ret0.of rfl)
end Go.Proofs.YtiglekomfgfilaaGreatDoor
