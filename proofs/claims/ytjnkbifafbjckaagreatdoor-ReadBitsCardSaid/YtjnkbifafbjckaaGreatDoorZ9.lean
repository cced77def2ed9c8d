/- Words in a block of the call's own. -/
import Derived.Test.YtjnkbifafbjckaaGreatDoorZ1
import Derived.Test.YtjnkbifafbjckaaGreatDoorZ8
import Derived.Test.YtjnkbifafbjckaaGreatDoorZ2
import Derived.Laws.Externs
import Derived.Laws.StructEq
import Derived.Laws.Bits64b
import Derived.BigRegion
import Derived.Deep.RegionHeld3
namespace Go.Proofs.YtjnkbifafbjckaaGreatDoor
set_option linter.all false
open Go.RowKit

/-- Two words in a block of their own. -/
def C2 (w : World) (b h l : Nat) : Prop := Cs w b [.int .u64 h, .int .u64 l] ∧ ∀ o, w.frozen? ⟨b, o, none⟩ = false
theorem C2.on {w w' : World} {b h l : Nat} (c : C2 w b h l) (hb : Below w.heap.size w w') : C2 w' b h l :=
  ⟨c.1.on hb, fun o => (hb.frozen (p := ⟨b, o, none⟩) c.1.1).trans (c.2 o)⟩
theorem C2.stored {w : World} {b h l : Nat} (c : C2 w b h l) (h' l' : Nat) : C2 (w.setCells b 0 [.int .u64 h', .int .u64 l']) b h' l' :=
  ⟨c.1.stored _ rfl, fun o => by rw [World.frozen?_setCells]; exact c.2 o⟩
theorem C2.low {w : World} {b h l : Nat} (c : C2 w b h l) (l' : Nat) : C2 (w.setCell ⟨b, 1, none⟩ (.int .u64 l')) b h l' := by
  refine ⟨⟨by have := c.1.1; simpa using this, fun k hk => ?_⟩, fun o => by rw [World.frozen?_setCell]; exact c.2 o⟩
  match k, hk with
  | 0, _ => exact (World.cell?_setCell_other _ ⟨b, 1, none⟩ ⟨b, 0, none⟩ _ (by intro e; cases e)).trans (c.1.get 0 rfl)
  | 1, _ => exact World.cell?_setCell_same _ _ _ (c.1.get 1 rfl)
theorem C2.new (w : World) (h l : Nat) : C2 (w.alloc (.cells #[.int .u64 h, .int .u64 l] 57)) w.heap.size h l :=
  ⟨Cs.new w [.int .u64 h, .int .u64 l] _, fun o => by
      unfold World.frozen?; simp only []
      rw [show (w.alloc (.cells #[.int .u64 h, .int .u64 l] 57)).heap[w.heap.size]? = some _ from heap_alloc_new w _]
      simp⟩
theorem C2.drew {w : World} {b h l : Nat} (c : C2 w b h l) : C2 w.drew b h l := c.on ((Below.refl _ _).drew)

/-- Three words in a block of their own. -/
def C3 (w : World) (b h m l : Nat) : Prop := Cs w b [.int .u64 h, .int .u64 m, .int .u64 l] ∧ ∀ o, w.frozen? ⟨b, o, none⟩ = false
theorem C3.on {w w' : World} {b h m l : Nat} (c : C3 w b h m l) (hb : Below w.heap.size w w') : C3 w' b h m l :=
  ⟨c.1.on hb, fun o => (hb.frozen (p := ⟨b, o, none⟩) c.1.1).trans (c.2 o)⟩
theorem C3.stored {w : World} {b h m l : Nat} (c : C3 w b h m l) (h' m' l' : Nat) : C3 (w.setCells b 0 [.int .u64 h', .int .u64 m', .int .u64 l']) b h' m' l' :=
  ⟨c.1.stored _ rfl, fun o => by rw [World.frozen?_setCells]; exact c.2 o⟩
theorem C3.stored' {w : World} {b h m l : Nat} (c : C3 w b h m l) (h' m' l' : Nat) : C3 (((w.setCell ⟨b, 0, none⟩ (.int .u64 h')).setCell ⟨b, 1, none⟩ (.int .u64 m')).setCell ⟨b, 2, none⟩ (.int .u64 l')) b h' m' l' :=
  c.stored h' m' l'
theorem C3.new (w : World) (h m l : Nat) : C3 (w.alloc (.cells #[.int .u64 h, .int .u64 m, .int .u64 l] 182)) w.heap.size h m l :=
  ⟨Cs.new w [.int .u64 h, .int .u64 m, .int .u64 l] _, fun o => by
      unfold World.frozen?; simp only []
      rw [show (w.alloc (.cells #[.int .u64 h, .int .u64 m, .int .u64 l] 182)).heap[w.heap.size]? = some _ from heap_alloc_new w _]
      simp⟩
theorem C3.alloc {w : World} {b h m l : Nat} (c : C3 w b h m l) (o : Obj) : C3 (w.alloc o) b h m l := c.on ((Below.refl _ _).alloc (Nat.le_refl _) o)
theorem C3.drew {w : World} {b h m l : Nat} (c : C3 w b h m l) : C3 w.drew b h m l := c.on ((Below.refl _ _).drew)
theorem C3.setOther {w : World} {b b' h m l o : Nat} {u : Value} (c : C3 w b h m l) (hne : b ≠ b') : C3 (w.setCell ⟨b', o, none⟩ u) b h m l :=
  ⟨⟨by have := c.1.1; simpa using this, fun k hk => (World.cell?_setCell_other _ ⟨b', o, none⟩ ⟨b, k, none⟩ _ (by intro e; injection e with e1; exact hne e1.symm)).trans (c.1.2 k hk)⟩, fun o' => by rw [World.frozen?_setCell]; exact c.2 o'⟩
theorem C2.alloc {w : World} {b h l : Nat} (c : C2 w b h l) (o : Obj) : C2 (w.alloc o) b h l := c.on ((Below.refl _ _).alloc (Nat.le_refl _) o)
theorem C2.setOther {w : World} {b b' h l o : Nat} {u : Value} (c : C2 w b h l) (hne : b ≠ b') : C2 (w.setCell ⟨b', o, none⟩ u) b h l :=
  ⟨⟨by have := c.1.1; simpa using this, fun k hk => (World.cell?_setCell_other _ ⟨b', o, none⟩ ⟨b, k, none⟩ _ (by intro e; injection e with e1; exact hne e1.symm)).trans (c.1.2 k hk)⟩, fun o' => by rw [World.frozen?_setCell]; exact c.2 o'⟩
theorem C2.stored' {w : World} {b h l : Nat} (c : C2 w b h l) (h' l' : Nat) : C2 ((w.setCell ⟨b, 0, none⟩ (.int .u64 h')).setCell ⟨b, 1, none⟩ (.int .u64 l')) b h' l' := c.stored h' l'
theorem C2.new' {w : World} {b : Nat} (h l : Nat) (hb : b = w.heap.size) : C2 (w.alloc (.cells #[.int .u64 h, .int .u64 l] 57)) b h l := by rw [hb]; exact C2.new w h l
theorem C2.new0 {w : World} {b : Nat} (hb : b = w.heap.size) : C2 (w.alloc (.cells #[.int .u64 0, .int .u64 0] 57)) b 0 0 := by rw [hb]; exact C2.new w 0 0
theorem C3.new' {w : World} {b : Nat} (h m l : Nat) (hb : b = w.heap.size) : C3 (w.alloc (.cells #[.int .u64 h, .int .u64 m, .int .u64 l] 182)) b h m l := by rw [hb]; exact C3.new w h m l
theorem C3.new0 {w : World} {b : Nat} (hb : b = w.heap.size) : C3 (w.alloc (.cells #[.int .u64 0, .int .u64 0, .int .u64 0] 182)) b 0 0 0 := by rw [hb]; exact C3.new w 0 0 0
end Go.Proofs.YtjnkbifafbjckaaGreatDoor

/- Ints of 128 and 192 bits: their lengths, shifts, sums and products. -/
namespace Go.Proofs.YtjnkbifafbjckaaGreatDoor
set_option linter.all false
open Go.RowKit

theorem add64_run (x y c : Nat) (hc : c ≤ 1) (w : World) :
    (callFunc 220 #[.int .u64 x, .int .u64 y, .int .u64 c]).run Tryz.prog w = .ok (.value (.tuple #[.int .u64 (((x + y + c) % 18446744073709551616 : Nat) : Int), .int .u64 (((x + y + c) / 18446744073709551616 : Nat) : Int)])) w := by
  rw [run_callFunc_extern Tryz.func220 (by kernel_rfl) (by kernel_rfl) (by kernel_rfl) (e := add64Entry) (by kernel_rfl), run_add64 x y c (by omega) (by omega) (by omega) (by omega)]
  simp only [Result.andThen]
  congr 5 <;> omega

theorem Fl.wrap_pow (x n : Nat) : IntKind.u64.wrap ((x : Int) * 2 ^ n) = ((x * 2 ^ n % 18446744073709551616 : Nat) : Int) := by
  have e : ((x : Int) * 2 ^ n) = ((x * 2 ^ n : Nat) : Int) := by simp
  rw [e, IntKind.wrap_u64]
  obtain ⟨X, hX⟩ : ∃ X, X = x * 2 ^ n := ⟨_, rfl⟩
  rw [← hX]; omega
theorem Fl.div_pow (x n : Nat) : (x : Int) / 2 ^ n = ((x / 2 ^ n : Nat) : Int) := by
  have e : ((2 : Int) ^ n) = ((2 ^ n : Nat) : Int) := by simp
  rw [e]; rfl

theorem Na.lib_len (x : Nat) (hx : x < 18446744073709551616) : Lib.bitLen x = Na.bitLen x := by
  by_cases h : x = 0
  · subst h; rfl
  · rw [Na.libBitLen x h hx, Na.bitLen, if_neg h]

set_option maxHeartbeats 1000000 in
theorem wi_len_any (hi lo : Nat) (w : World) (hh : hi < 18446744073709551616) (hl : lo < 18446744073709551616) :
    Calls Tryz.prog 110 #[.agg #[.int .u64 hi, .int .u64 lo]] w (RetB (.int .i64 (Na.bitLen (hi * 18446744073709551616 + lo) : Nat)) w) := by
  have k1 := Na.lib_len hi hh
  have k2 := Na.lib_len lo hl
  have b1 := Lib.bitLen_le hi 64 (by omega) hh
  have b2 := Lib.bitLen_le lo 64 (by omega) hl
  obtain ⟨x, hx⟩ : ∃ x, x = Lib.bitLen hi := ⟨_, rfl⟩
  obtain ⟨y, hy⟩ : ∃ x, x = Lib.bitLen lo := ⟨_, rfl⟩
  have H1 := fun w => Lib.hid ((Tryz.bits_Len64 (hi : Int) w (by omega) (by omega)).mono fun e w' he => (⟨by rw [he.1, Int.toNat_natCast, hx], he.2.symm⟩ : Ret0 (.int .i64 (x : Nat)) w e w'))
  have H2 := fun w => Lib.hid ((Tryz.bits_Len64 (lo : Int) w (by omega) (by omega)).mono fun e w' he => (⟨by rw [he.1, Int.toNat_natCast, hy], he.2.symm⟩ : Ret0 (.int .i64 (y : Nat)) w e w'))
  by_cases h0 : hi = 0
  · have e := Lib.hid (show Na.bitLen (hi * 18446744073709551616 + lo) = y by rw [h0, Nat.zero_mul, Nat.zero_add, ← k2, ← hy])
    subst h0
    clear k1 k2 b1 b2 hx hy H1
    go_enter Tryz.func110, Tryz.ntmps110
    go_wp2_with (go_at_call 164; (with_reducible refine ((H2 _).out).mono ?_); rintro e w' ⟨rfl, rfl⟩)
    go_ret
    exact RetB.of (by rw [e.out]; rfl) (by (repeat (first | exact Below.refl _ _ | assumption | refine Below.setCell ?_ (by first | omega | (simp <;> omega)) _ | refine Below.alloc ?_ (by first | omega | (simp <;> omega)) _ | refine Below.drew ?_ | refine below_drewN' ?_ _)))
  · have e := Lib.hid (show Na.bitLen (hi * 18446744073709551616 + lo) = 64 + x by rw [Fl.len_words h0 hl, ← k1, ← hx])
    have hd : decide ((0 : Int) < (hi : Int)) = true := decide_eq_true (by omega)
    obtain ⟨z, hz⟩ : ∃ z, z = 64 + x := ⟨_, rfl⟩
    have hz128 : z ≤ 128 := by omega
    have hxi : (64 : Int) + (x : Int) = (z : Int) := by omega
    rw [← hz] at e
    clear hz
    clear k1 k2 b1 b2 hx hy H2
    go_enter Tryz.func110, Tryz.ntmps110
    go_wp2_with (go_at_call 164; (with_reducible refine ((H1 _).out).mono ?_); rintro e w' ⟨rfl, rfl⟩)
    go_ret
    exact RetB.of (by rw [e.out]; rfl) (by (repeat (first | exact Below.refl _ _ | assumption | refine Below.setCell ?_ (by first | omega | (simp <;> omega)) _ | refine Below.alloc ?_ (by first | omega | (simp <;> omega)) _ | refine Below.drew ?_ | refine below_drewN' ?_ _)))

set_option maxHeartbeats 1000000 in
theorem wi_shl_any (hi lo n : Nat) (w : World) (hh : hi < 18446744073709551616) (hl : lo < 18446744073709551616) (hn : n < 64) :
    Calls Tryz.prog 112 #[.agg #[.int .u64 hi, .int .u64 lo], .int .i64 n] w
      (RetB (.agg #[.int .u64 (((hi * 18446744073709551616 + lo) * 2 ^ n / 18446744073709551616 % 18446744073709551616 : Nat) : Int), .int .u64 (((hi * 18446744073709551616 + lo) * 2 ^ n % 18446744073709551616 : Nat) : Int)]) w) := by
  obtain ⟨m, hm⟩ : ∃ m : Nat, n + m = 64 := ⟨64 - n, by omega⟩
  obtain ⟨a1, a2, a3, a4, a5⟩ := Fl.shl_words (hi := hi) (lo := lo) hm hl
  have hor := Fl.or_words a1 a2 a3
  have HV := Lib.hid (And.intro a4 a5)
  have hmi : (64 : Int) - (n : Int) = (m : Int) := by omega
  have hA : IntKind.u64.wrap ((hi : Int) * 2 ^ n) = ((hi * 2 ^ n % 18446744073709551616 : Nat) : Int) := Fl.wrap_pow hi n
  have hD : IntKind.u64.wrap ((lo : Int) * 2 ^ n) = ((lo * 2 ^ n % 18446744073709551616 : Nat) : Int) := Fl.wrap_pow lo n
  have hL : (lo : Int) / 2 ^ m = ((lo / 2 ^ m : Nat) : Int) := Fl.div_pow lo m
  obtain ⟨A, hAe⟩ : ∃ A, A = hi * 2 ^ n % 18446744073709551616 := ⟨_, rfl⟩
  obtain ⟨L, hLe⟩ : ∃ A, A = lo / 2 ^ m := ⟨_, rfl⟩
  obtain ⟨D, hDe⟩ : ∃ A, A = lo * 2 ^ n % 18446744073709551616 := ⟨_, rfl⟩
  rw [← hAe] at hA hor HV
  rw [← hLe] at hL hor HV
  rw [← hDe] at hD HV
  obtain ⟨C, hC⟩ : ∃ C, C = A + L := ⟨_, rfl⟩
  rw [← hC] at hor HV
  clear a1 a2 a3 a4 a5 hAe hLe hDe hC
  have hn64 : (n : Int) < 64 := by omega
  have hd64 : decide (64 ≤ (n : Int)) = false := decide_eq_false (by omega)
  have hmi0 : (0 : Int) ≤ (m : Int) := by omega
  have hn0 : (0 : Int) ≤ (n : Int) := by omega
  go_enter Tryz.func112, Tryz.ntmps112
  go_wp2
  go_region
  go_wp2
  (refine bodyPost_ret (v := .agg #[.int .u64 (C : Nat), .int .u64 (D : Nat)]) (by (simp [results, Tryz.results112, go_sem]; done)) rfl (RetB.of (by rw [HV.out.1, HV.out.2]) (by (repeat (first | exact Below.refl _ _ | assumption | refine Below.setCell ?_ (by first | omega | (simp <;> omega)) _ | refine Below.alloc ?_ (by first | omega | (simp <;> omega)) _ | refine Below.drew ?_ | refine below_drewN' ?_ _)))))

theorem wi_low_any (h m l : Nat) (w : World) : Calls Tryz.prog 166 #[.agg #[.int .u64 h, .int .u64 m, .int .u64 l]] w (RetB (.agg #[.int .u64 m, .int .u64 l]) w) := by
  go_enter Tryz.func166, Tryz.ntmps166
  go_wp2
  (refine bodyPost_ret (v := .agg #[.int .u64 m, .int .u64 l]) (by (simp [results, Tryz.results166, go_sem]; done)) rfl (RetB.of rfl (by (repeat (first | exact Below.refl _ _ | assumption | refine Below.setCell ?_ (by first | omega | (simp <;> omega)) _ | refine Below.alloc ?_ (by first | omega | (simp <;> omega)) _ | refine Below.drew ?_ | refine below_drewN' ?_ _)))))

theorem wi_mul_any (x y : Nat) (w : World) (hx : x < 18446744073709551616) (hy : y < 18446744073709551616) :
    Calls Tryz.prog 185 #[.int .u64 x, .int .u64 y] w (RetB (.agg #[.int .u64 ((x * y / 18446744073709551616 : Nat) : Int), .int .u64 ((x * y % 18446744073709551616 : Nat) : Int)]) w) := by
  have H := fun w => Lib.hid (Tryz.bits_Mul64 x y hx hy w)
  obtain ⟨X, hX⟩ : ∃ X, X = x * y / 18446744073709551616 := ⟨_, rfl⟩
  obtain ⟨Y, hY⟩ : ∃ X, X = x * y % 18446744073709551616 := ⟨_, rfl⟩
  rw [← hX, ← hY] at H ⊢
  clear hX hY
  go_enter Tryz.func185, Tryz.ntmps185
  go_wp2_with (go_at_call 219; (with_reducible refine ((H _).out).mono ?_); rintro e w' ⟨rfl, rfl⟩)
  (refine bodyPost_ret (v := .agg #[.int .u64 (X : Nat), .int .u64 (Y : Nat)]) (by (simp [results, Tryz.results185, go_sem]; done)) rfl (RetB.of rfl (by (repeat (first | exact Below.refl _ _ | assumption | refine Below.setCell ?_ (by first | omega | (simp <;> omega)) _ | refine Below.alloc ?_ (by first | omega | (simp <;> omega)) _ | refine Below.drew ?_ | refine below_drewN' ?_ _)))))

set_option maxHeartbeats 1000000 in
theorem wi_add_any (a b c d : Nat) (w : World) (ha : a < 18446744073709551616) (hb : b < 18446744073709551616) (hc : c < 18446744073709551616) (hd : d < 18446744073709551616) :
    Calls Tryz.prog 188 #[.agg #[.int .u64 a, .int .u64 b], .agg #[.int .u64 c, .int .u64 d]] w
      (RetB (.tuple #[.agg #[.int .u64 (((a + c + (b + d) / 18446744073709551616) % 18446744073709551616 : Nat) : Int), .int .u64 (((b + d) % 18446744073709551616 : Nat) : Int)], .bool (decide (18446744073709551616 ≤ a + c + (b + d) / 18446744073709551616))]) w) := by
  have h1 := fun w => add64_run b d 0 (by omega) w
  rw [Nat.add_zero] at h1
  have h2 := fun w => add64_run a c ((b + d) / 18446744073709551616) (by omega) w
  obtain ⟨X, hX⟩ : ∃ X, X = (b + d) % 18446744073709551616 := ⟨_, rfl⟩
  obtain ⟨C, hC⟩ : ∃ X, X = (b + d) / 18446744073709551616 := ⟨_, rfl⟩
  rw [← hX, ← hC] at h1
  rw [← hC] at h2
  obtain ⟨Y, hY⟩ : ∃ X, X = (a + c + C) % 18446744073709551616 := ⟨_, rfl⟩
  obtain ⟨E, hE⟩ : ∃ X, X = (a + c + C) / 18446744073709551616 := ⟨_, rfl⟩
  rw [← hY, ← hE] at h2
  have hO := Lib.hid (show decide (18446744073709551616 ≤ a + c + C) = decide ((0 : Int) < (E : Int)) from by apply decide_eq_decide.2; omega)
  have h1' : ∀ w, (callFunc 220 #[.int .u64 b, .int .u64 d, .int .u64 0]).run Tryz.prog w = .ok (.value (.tuple #[.int .u64 X, .int .u64 C])) w := h1
  rw [← hX, ← hC, ← hY]
  clear hX hC hY hE h1
  go_enter Tryz.func188, Tryz.ntmps188
  go_wp2
  (refine bodyPost_ret (v := .tuple #[.agg #[.int .u64 (Y : Nat), .int .u64 (X : Nat)], .bool (decide ((0 : Int) < (E : Int)))]) (by (simp [results, Tryz.results188, go_sem]; done)) rfl (RetB.of (by rw [hO.out]) (by (repeat (first | exact Below.refl _ _ | assumption | refine Below.setCell ?_ (by first | omega | (simp <;> omega)) _ | refine Below.alloc ?_ (by first | omega | (simp <;> omega)) _ | refine Below.drew ?_ | refine below_drewN' ?_ _)))))

set_option maxRecDepth 100000 in
set_option maxHeartbeats 4000000 in
theorem wi_times_any (hi lo b : Nat) (w : World) (hh : hi < 18446744073709551616) (hl : lo < 18446744073709551616) (hb : b < 18446744073709551616) :
    Calls Tryz.prog 186 #[.agg #[.int .u64 hi, .int .u64 lo], .int .u64 b] w (fun e w' => ∃ p m l : Nat, e = .returned (.agg #[.int .u64 p, .int .u64 m, .int .u64 l]) ∧ p < 18446744073709551616 ∧ m < 18446744073709551616 ∧ l < 18446744073709551616 ∧ (hi * 18446744073709551616 + lo) * b = Fl.w3 p m l ∧ Below w.heap.size w w') := by
  obtain ⟨t1, t2⟩ := Fl.times_words hh hl hb
  have h1 := fun w1 => wi_mul_any lo b w1 hl hb
  have h2 := fun w1 => wi_mul_any hi b w1 hh hb
  have h3 := fun w1 => add64_run (lo * b / 18446744073709551616) (hi * b % 18446744073709551616) 0 (by omega) w1
  rw [Nat.add_zero] at h3
  obtain ⟨P, hP⟩ : ∃ P, P = hi * b / 18446744073709551616 := ⟨_, rfl⟩
  obtain ⟨Q, hQ⟩ : ∃ P, P = hi * b % 18446744073709551616 := ⟨_, rfl⟩
  obtain ⟨R, hR⟩ : ∃ P, P = lo * b / 18446744073709551616 := ⟨_, rfl⟩
  obtain ⟨S, hS⟩ : ∃ P, P = lo * b % 18446744073709551616 := ⟨_, rfl⟩
  have hSl : S < 18446744073709551616 := by omega
  rw [← hP, ← hQ, ← hR] at t1
  rw [← hP, ← hQ, ← hR, ← hS] at t2
  rw [← hR, ← hS] at h1
  rw [← hP, ← hQ] at h2
  rw [← hQ, ← hR] at h3
  obtain ⟨M, hM⟩ : ∃ P, P = (R + Q) % 18446744073709551616 := ⟨_, rfl⟩
  obtain ⟨C, hC⟩ : ∃ P, P = (R + Q) / 18446744073709551616 := ⟨_, rfl⟩
  have hMl : M < 18446744073709551616 := by omega
  rw [← hM, ← hC] at h3
  rw [← hC] at t1
  rw [← hM, ← hC] at t2
  have h3' : ∀ w, (callFunc 220 #[.int .u64 R, .int .u64 Q, .int .u64 0]).run Tryz.prog w = .ok (.value (.tuple #[.int .u64 M, .int .u64 C])) w := h3
  obtain ⟨T, hT⟩ : ∃ T, T = P + C := ⟨_, rfl⟩
  have hTi : (P : Int) + (C : Int) = (T : Int) := by omega
  rw [← hT] at t1 t2
  have H1 := Lib.hid h1; have H2 := Lib.hid h2; have HT := Lib.hid t2
  clear h1 h2 h3 t2 hP hQ hR hS hM hC hT
  have BX : C2 ((w.alloc (.cells #[.int .u64 hi, .int .u64 lo] 57)).alloc (.cells #[.int .u64 0, .int .u64 0, .int .u64 0] 182)) w.heap.size hi lo := (C2.new w hi lo).alloc _
  have BR : C3 ((w.alloc (.cells #[.int .u64 hi, .int .u64 lo] 57)).alloc (.cells #[.int .u64 0, .int .u64 0, .int .u64 0] 182)) (w.heap.size + 1) 0 0 0 := by
    have := C3.new (w.alloc (.cells #[.int .u64 hi, .int .u64 lo] 57)) 0 0 0
    rw [World.size_alloc] at this
    exact this
  have BB : Below w.heap.size w ((w.alloc (.cells #[.int .u64 hi, .int .u64 lo] 57)).alloc (.cells #[.int .u64 0, .int .u64 0, .int .u64 0] 182)) := ((Below.refl w.heap.size w).alloc (Nat.le_refl _) _).alloc (by simp) _
  go_enter Tryz.func186, Tryz.ntmps186
  go_upto_region 1 with (fail)
  obtain ⟨X, hX⟩ : ∃ X, X = ((w.alloc (.cells #[.int .u64 hi, .int .u64 lo] 57)).alloc (.cells #[.int .u64 0, .int .u64 0, .int .u64 0] 182)) := ⟨_, rfl⟩
  obtain ⟨bx, hbx⟩ : ∃ b, b = w.heap.size := ⟨_, rfl⟩
  obtain ⟨br, hbr⟩ : ∃ b, b = w.heap.size + 1 := ⟨_, rfl⟩
  rw [← hX, ← hbx] at BX
  rw [← hX, ← hbr] at BR
  rw [← hX] at BB
  rw [← hX, ← hbr, ← hbx]
  have hbxl : w.heap.size ≤ br := by omega
  clear hX hbr hbx
  have x0 := BX.1.get 0 rfl
  have x1 := BX.1.get 1 rfl
  have HBR := Lib.hid BR; have HBB := Lib.hid BB
  have xl := BX.1.1
  have rl := BR.1.1
  have bl := BB.size
  clear BX BR BB
  go_cut [5, 6] (fun u v w' => ∃ g5 g6 : Nat, u = .pointer (some ⟨g5, 0, none⟩) ∧ v = .pointer (some ⟨g6, 0, none⟩) ∧ Hid (C2 w' g5 R S) ∧ Hid (C2 w' g6 P Q) ∧ Hid (C3 w' br 0 0 0) ∧ Hid (Below w.heap.size w w') ∧ Hid (w.heap.size ≤ br))
  case first =>
    have hne0 := World.new_ne X _ x0
    have hne1 := World.new_ne X _ x1
    go_region_held3 (fun w' => w'.cell? ⟨bx, 0, none⟩ = some (.int .u64 hi) ∧ w'.cell? ⟨bx, 1, none⟩ = some (.int .u64 lo)) (first | go_keep | (refine ⟨?_, ?_⟩ <;> (first | (rw [hr0_w1]; assumption) | (rw [hr0_w2]; assumption))) | (refine ⟨?_, ?_⟩ <;> (first | (go_simp; done) | (simp [go_sem, *]; done))))
      (first | (first | (go_at_call 185; (with_reducible refine (H1.out _).mono ?_); rintro e w1 ⟨rfl, hb_w1⟩; have hB_w1 : Below (X).heap.size (X) w1 := Below.trans (by (repeat (first | exact Below.refl _ _ | assumption | refine Below.setCell ?_ (by first | omega | (simp <;> omega)) _ | refine Below.alloc ?_ (by first | omega | (simp <;> omega)) _ | refine Below.drew ?_ | refine below_drewN' ?_ _))) (hb_w1.mono (by first | omega | (simp <;> omega))); obtain ⟨hc_w1, hf_w1⟩ := bcell hb_w1; have hz_w1 := hb_w1.size; (try simp only [size_drew', size_drewN', World.size_alloc, World.size_setCell] at hz_w1); have hl0_w1 : bx < w1.heap.size := (by omega); have hm0_w1 : bx ≤ w1.heap.size := (by omega); have hn0_w1 : ¬ bx = w1.heap.size := (by omega); have hq0_w1 : ¬ w1.heap.size = bx := (by omega); have hr0_w1 := fun o => hc_w1 (bx) o (by (try simp only [size_drew', size_drewN', World.size_alloc, World.size_setCell]); omega); have hg0_w1 := fun o => hf_w1 (bx) o (by (try simp only [size_drew', size_drewN', World.size_alloc, World.size_setCell]); omega); have hl1_w1 : X.heap.size < w1.heap.size := (by omega); have hm1_w1 : X.heap.size ≤ w1.heap.size := (by omega); have hn1_w1 : ¬ X.heap.size = w1.heap.size := (by omega); have hq1_w1 : ¬ w1.heap.size = X.heap.size := (by omega); have hr1_w1 := fun o => hc_w1 (X.heap.size) o (by (try simp only [size_drew', size_drewN', World.size_alloc, World.size_setCell]); omega); have hg1_w1 := fun o => hf_w1 (X.heap.size) o (by (try simp only [size_drew', size_drewN', World.size_alloc, World.size_setCell]); omega); have hl2_w1 : X.heap.size + 1 < w1.heap.size := (by omega); have hm2_w1 : X.heap.size + 1 ≤ w1.heap.size := (by omega); have hn2_w1 : ¬ X.heap.size + 1 = w1.heap.size := (by omega); have hq2_w1 : ¬ w1.heap.size = X.heap.size + 1 := (by omega); have hr2_w1 := fun o => hc_w1 (X.heap.size + 1) o (by (try simp only [size_drew', size_drewN', World.size_alloc, World.size_setCell]); omega); have hg2_w1 := fun o => hf_w1 (X.heap.size + 1) o (by (try simp only [size_drew', size_drewN', World.size_alloc, World.size_setCell]); omega)) | (go_at_call 185; (with_reducible refine (H1.out _).mono ?_); rintro e w1 ⟨rfl, hb_w1⟩; have hB_w1 : Below (X).heap.size (X) w1 := Below.trans (by (repeat (first | exact Below.refl _ _ | assumption | refine Below.setCell ?_ (by first | omega | (simp <;> omega)) _ | refine Below.alloc ?_ (by first | omega | (simp <;> omega)) _ | refine Below.drew ?_ | refine below_drewN' ?_ _))) (hb_w1.mono (by first | omega | (simp <;> omega))); obtain ⟨hc_w1, hf_w1⟩ := bcell hb_w1; have hz_w1 := hb_w1.size; (try simp only [size_drew', size_drewN', World.size_alloc, World.size_setCell] at hz_w1); have hl0_w1 : bx < w1.heap.size := (by omega); have hm0_w1 : bx ≤ w1.heap.size := (by omega); have hn0_w1 : ¬ bx = w1.heap.size := (by omega); have hq0_w1 : ¬ w1.heap.size = bx := (by omega); have hr0_w1 := fun o => hc_w1 (bx) o (by (try simp only [size_drew', size_drewN', World.size_alloc, World.size_setCell]); omega); have hg0_w1 := fun o => hf_w1 (bx) o (by (try simp only [size_drew', size_drewN', World.size_alloc, World.size_setCell]); omega); have hl1_w1 : X.heap.size < w1.heap.size := (by omega); have hm1_w1 : X.heap.size ≤ w1.heap.size := (by omega); have hn1_w1 : ¬ X.heap.size = w1.heap.size := (by omega); have hq1_w1 : ¬ w1.heap.size = X.heap.size := (by omega); have hr1_w1 := fun o => hc_w1 (X.heap.size) o (by (try simp only [size_drew', size_drewN', World.size_alloc, World.size_setCell]); omega); have hg1_w1 := fun o => hf_w1 (X.heap.size) o (by (try simp only [size_drew', size_drewN', World.size_alloc, World.size_setCell]); omega)) | (go_at_call 185; (with_reducible refine (H1.out _).mono ?_); rintro e w1 ⟨rfl, hb_w1⟩; have hB_w1 : Below (X).heap.size (X) w1 := Below.trans (by (repeat (first | exact Below.refl _ _ | assumption | refine Below.setCell ?_ (by first | omega | (simp <;> omega)) _ | refine Below.alloc ?_ (by first | omega | (simp <;> omega)) _ | refine Below.drew ?_ | refine below_drewN' ?_ _))) (hb_w1.mono (by first | omega | (simp <;> omega))); obtain ⟨hc_w1, hf_w1⟩ := bcell hb_w1; have hz_w1 := hb_w1.size; (try simp only [size_drew', size_drewN', World.size_alloc, World.size_setCell] at hz_w1); have hl0_w1 : bx < w1.heap.size := (by omega); have hm0_w1 : bx ≤ w1.heap.size := (by omega); have hn0_w1 : ¬ bx = w1.heap.size := (by omega); have hq0_w1 : ¬ w1.heap.size = bx := (by omega); have hr0_w1 := fun o => hc_w1 (bx) o (by (try simp only [size_drew', size_drewN', World.size_alloc, World.size_setCell]); omega); have hg0_w1 := fun o => hf_w1 (bx) o (by (try simp only [size_drew', size_drewN', World.size_alloc, World.size_setCell]); omega))) | (first | (go_at_call 185; (with_reducible refine (H2.out _).mono ?_); rintro e w2 ⟨rfl, hb_w2⟩; have hB_w2 : Below (X).heap.size (X) w2 := Below.trans (by (repeat (first | exact Below.refl _ _ | assumption | refine Below.setCell ?_ (by first | omega | (simp <;> omega)) _ | refine Below.alloc ?_ (by first | omega | (simp <;> omega)) _ | refine Below.drew ?_ | refine below_drewN' ?_ _))) (hb_w2.mono (by first | omega | (simp <;> omega))); obtain ⟨hc_w2, hf_w2⟩ := bcell hb_w2; have hz_w2 := hb_w2.size; (try simp only [size_drew', size_drewN', World.size_alloc, World.size_setCell] at hz_w2); have hl0_w2 : bx < w2.heap.size := (by omega); have hm0_w2 : bx ≤ w2.heap.size := (by omega); have hn0_w2 : ¬ bx = w2.heap.size := (by omega); have hq0_w2 : ¬ w2.heap.size = bx := (by omega); have hr0_w2 := fun o => hc_w2 (bx) o (by (try simp only [size_drew', size_drewN', World.size_alloc, World.size_setCell]); omega); have hg0_w2 := fun o => hf_w2 (bx) o (by (try simp only [size_drew', size_drewN', World.size_alloc, World.size_setCell]); omega); have hl1_w2 : X.heap.size < w2.heap.size := (by omega); have hm1_w2 : X.heap.size ≤ w2.heap.size := (by omega); have hn1_w2 : ¬ X.heap.size = w2.heap.size := (by omega); have hq1_w2 : ¬ w2.heap.size = X.heap.size := (by omega); have hr1_w2 := fun o => hc_w2 (X.heap.size) o (by (try simp only [size_drew', size_drewN', World.size_alloc, World.size_setCell]); omega); have hg1_w2 := fun o => hf_w2 (X.heap.size) o (by (try simp only [size_drew', size_drewN', World.size_alloc, World.size_setCell]); omega); have hl2_w2 : X.heap.size + 1 < w2.heap.size := (by omega); have hm2_w2 : X.heap.size + 1 ≤ w2.heap.size := (by omega); have hn2_w2 : ¬ X.heap.size + 1 = w2.heap.size := (by omega); have hq2_w2 : ¬ w2.heap.size = X.heap.size + 1 := (by omega); have hr2_w2 := fun o => hc_w2 (X.heap.size + 1) o (by (try simp only [size_drew', size_drewN', World.size_alloc, World.size_setCell]); omega); have hg2_w2 := fun o => hf_w2 (X.heap.size + 1) o (by (try simp only [size_drew', size_drewN', World.size_alloc, World.size_setCell]); omega)) | (go_at_call 185; (with_reducible refine (H2.out _).mono ?_); rintro e w2 ⟨rfl, hb_w2⟩; have hB_w2 : Below (X).heap.size (X) w2 := Below.trans (by (repeat (first | exact Below.refl _ _ | assumption | refine Below.setCell ?_ (by first | omega | (simp <;> omega)) _ | refine Below.alloc ?_ (by first | omega | (simp <;> omega)) _ | refine Below.drew ?_ | refine below_drewN' ?_ _))) (hb_w2.mono (by first | omega | (simp <;> omega))); obtain ⟨hc_w2, hf_w2⟩ := bcell hb_w2; have hz_w2 := hb_w2.size; (try simp only [size_drew', size_drewN', World.size_alloc, World.size_setCell] at hz_w2); have hl0_w2 : bx < w2.heap.size := (by omega); have hm0_w2 : bx ≤ w2.heap.size := (by omega); have hn0_w2 : ¬ bx = w2.heap.size := (by omega); have hq0_w2 : ¬ w2.heap.size = bx := (by omega); have hr0_w2 := fun o => hc_w2 (bx) o (by (try simp only [size_drew', size_drewN', World.size_alloc, World.size_setCell]); omega); have hg0_w2 := fun o => hf_w2 (bx) o (by (try simp only [size_drew', size_drewN', World.size_alloc, World.size_setCell]); omega); have hl1_w2 : X.heap.size < w2.heap.size := (by omega); have hm1_w2 : X.heap.size ≤ w2.heap.size := (by omega); have hn1_w2 : ¬ X.heap.size = w2.heap.size := (by omega); have hq1_w2 : ¬ w2.heap.size = X.heap.size := (by omega); have hr1_w2 := fun o => hc_w2 (X.heap.size) o (by (try simp only [size_drew', size_drewN', World.size_alloc, World.size_setCell]); omega); have hg1_w2 := fun o => hf_w2 (X.heap.size) o (by (try simp only [size_drew', size_drewN', World.size_alloc, World.size_setCell]); omega); have hl2_w2 : w1.heap.size < w2.heap.size := (by omega); have hm2_w2 : w1.heap.size ≤ w2.heap.size := (by omega); have hn2_w2 : ¬ w1.heap.size = w2.heap.size := (by omega); have hq2_w2 : ¬ w2.heap.size = w1.heap.size := (by omega); have hr2_w2 := fun o => hc_w2 (w1.heap.size) o (by (try simp only [size_drew', size_drewN', World.size_alloc, World.size_setCell]); omega); have hg2_w2 := fun o => hf_w2 (w1.heap.size) o (by (try simp only [size_drew', size_drewN', World.size_alloc, World.size_setCell]); omega)) | (go_at_call 185; (with_reducible refine (H2.out _).mono ?_); rintro e w2 ⟨rfl, hb_w2⟩; have hB_w2 : Below (X).heap.size (X) w2 := Below.trans (by (repeat (first | exact Below.refl _ _ | assumption | refine Below.setCell ?_ (by first | omega | (simp <;> omega)) _ | refine Below.alloc ?_ (by first | omega | (simp <;> omega)) _ | refine Below.drew ?_ | refine below_drewN' ?_ _))) (hb_w2.mono (by first | omega | (simp <;> omega))); obtain ⟨hc_w2, hf_w2⟩ := bcell hb_w2; have hz_w2 := hb_w2.size; (try simp only [size_drew', size_drewN', World.size_alloc, World.size_setCell] at hz_w2); have hl0_w2 : bx < w2.heap.size := (by omega); have hm0_w2 : bx ≤ w2.heap.size := (by omega); have hn0_w2 : ¬ bx = w2.heap.size := (by omega); have hq0_w2 : ¬ w2.heap.size = bx := (by omega); have hr0_w2 := fun o => hc_w2 (bx) o (by (try simp only [size_drew', size_drewN', World.size_alloc, World.size_setCell]); omega); have hg0_w2 := fun o => hf_w2 (bx) o (by (try simp only [size_drew', size_drewN', World.size_alloc, World.size_setCell]); omega); have hl1_w2 : X.heap.size < w2.heap.size := (by omega); have hm1_w2 : X.heap.size ≤ w2.heap.size := (by omega); have hn1_w2 : ¬ X.heap.size = w2.heap.size := (by omega); have hq1_w2 : ¬ w2.heap.size = X.heap.size := (by omega); have hr1_w2 := fun o => hc_w2 (X.heap.size) o (by (try simp only [size_drew', size_drewN', World.size_alloc, World.size_setCell]); omega); have hg1_w2 := fun o => hf_w2 (X.heap.size) o (by (try simp only [size_drew', size_drewN', World.size_alloc, World.size_setCell]); omega)) | (go_at_call 185; (with_reducible refine (H2.out _).mono ?_); rintro e w2 ⟨rfl, hb_w2⟩; have hB_w2 : Below (X).heap.size (X) w2 := Below.trans (by (repeat (first | exact Below.refl _ _ | assumption | refine Below.setCell ?_ (by first | omega | (simp <;> omega)) _ | refine Below.alloc ?_ (by first | omega | (simp <;> omega)) _ | refine Below.drew ?_ | refine below_drewN' ?_ _))) (hb_w2.mono (by first | omega | (simp <;> omega))); obtain ⟨hc_w2, hf_w2⟩ := bcell hb_w2; have hz_w2 := hb_w2.size; (try simp only [size_drew', size_drewN', World.size_alloc, World.size_setCell] at hz_w2); have hl0_w2 : bx < w2.heap.size := (by omega); have hm0_w2 : bx ≤ w2.heap.size := (by omega); have hn0_w2 : ¬ bx = w2.heap.size := (by omega); have hq0_w2 : ¬ w2.heap.size = bx := (by omega); have hr0_w2 := fun o => hc_w2 (bx) o (by (try simp only [size_drew', size_drewN', World.size_alloc, World.size_setCell]); omega); have hg0_w2 := fun o => hf_w2 (bx) o (by (try simp only [size_drew', size_drewN', World.size_alloc, World.size_setCell]); omega); have hl1_w2 : w1.heap.size < w2.heap.size := (by omega); have hm1_w2 : w1.heap.size ≤ w2.heap.size := (by omega); have hn1_w2 : ¬ w1.heap.size = w2.heap.size := (by omega); have hq1_w2 : ¬ w2.heap.size = w1.heap.size := (by omega); have hr1_w2 := fun o => hc_w2 (w1.heap.size) o (by (try simp only [size_drew', size_drewN', World.size_alloc, World.size_setCell]); omega); have hg1_w2 := fun o => hf_w2 (w1.heap.size) o (by (try simp only [size_drew', size_drewN', World.size_alloc, World.size_setCell]); omega); have hl2_w2 : w1.heap.size + 1 < w2.heap.size := (by omega); have hm2_w2 : w1.heap.size + 1 ≤ w2.heap.size := (by omega); have hn2_w2 : ¬ w1.heap.size + 1 = w2.heap.size := (by omega); have hq2_w2 : ¬ w2.heap.size = w1.heap.size + 1 := (by omega); have hr2_w2 := fun o => hc_w2 (w1.heap.size + 1) o (by (try simp only [size_drew', size_drewN', World.size_alloc, World.size_setCell]); omega); have hg2_w2 := fun o => hf_w2 (w1.heap.size + 1) o (by (try simp only [size_drew', size_drewN', World.size_alloc, World.size_setCell]); omega)) | (go_at_call 185; (with_reducible refine (H2.out _).mono ?_); rintro e w2 ⟨rfl, hb_w2⟩; have hB_w2 : Below (X).heap.size (X) w2 := Below.trans (by (repeat (first | exact Below.refl _ _ | assumption | refine Below.setCell ?_ (by first | omega | (simp <;> omega)) _ | refine Below.alloc ?_ (by first | omega | (simp <;> omega)) _ | refine Below.drew ?_ | refine below_drewN' ?_ _))) (hb_w2.mono (by first | omega | (simp <;> omega))); obtain ⟨hc_w2, hf_w2⟩ := bcell hb_w2; have hz_w2 := hb_w2.size; (try simp only [size_drew', size_drewN', World.size_alloc, World.size_setCell] at hz_w2); have hl0_w2 : bx < w2.heap.size := (by omega); have hm0_w2 : bx ≤ w2.heap.size := (by omega); have hn0_w2 : ¬ bx = w2.heap.size := (by omega); have hq0_w2 : ¬ w2.heap.size = bx := (by omega); have hr0_w2 := fun o => hc_w2 (bx) o (by (try simp only [size_drew', size_drewN', World.size_alloc, World.size_setCell]); omega); have hg0_w2 := fun o => hf_w2 (bx) o (by (try simp only [size_drew', size_drewN', World.size_alloc, World.size_setCell]); omega); have hl1_w2 : w1.heap.size < w2.heap.size := (by omega); have hm1_w2 : w1.heap.size ≤ w2.heap.size := (by omega); have hn1_w2 : ¬ w1.heap.size = w2.heap.size := (by omega); have hq1_w2 : ¬ w2.heap.size = w1.heap.size := (by omega); have hr1_w2 := fun o => hc_w2 (w1.heap.size) o (by (try simp only [size_drew', size_drewN', World.size_alloc, World.size_setCell]); omega); have hg1_w2 := fun o => hf_w2 (w1.heap.size) o (by (try simp only [size_drew', size_drewN', World.size_alloc, World.size_setCell]); omega)) | (go_at_call 185; (with_reducible refine (H2.out _).mono ?_); rintro e w2 ⟨rfl, hb_w2⟩; have hB_w2 : Below (X).heap.size (X) w2 := Below.trans (by (repeat (first | exact Below.refl _ _ | assumption | refine Below.setCell ?_ (by first | omega | (simp <;> omega)) _ | refine Below.alloc ?_ (by first | omega | (simp <;> omega)) _ | refine Below.drew ?_ | refine below_drewN' ?_ _))) (hb_w2.mono (by first | omega | (simp <;> omega))); obtain ⟨hc_w2, hf_w2⟩ := bcell hb_w2; have hz_w2 := hb_w2.size; (try simp only [size_drew', size_drewN', World.size_alloc, World.size_setCell] at hz_w2); have hl0_w2 : bx < w2.heap.size := (by omega); have hm0_w2 : bx ≤ w2.heap.size := (by omega); have hn0_w2 : ¬ bx = w2.heap.size := (by omega); have hq0_w2 : ¬ w2.heap.size = bx := (by omega); have hr0_w2 := fun o => hc_w2 (bx) o (by (try simp only [size_drew', size_drewN', World.size_alloc, World.size_setCell]); omega); have hg0_w2 := fun o => hf_w2 (bx) o (by (try simp only [size_drew', size_drewN', World.size_alloc, World.size_setCell]); omega))))
    all_goals (try go_wp2)
    all_goals go_meet
    all_goals (refine ⟨_, _, rfl, rfl, Lib.hid ?_, Lib.hid ?_, Lib.hid ?_, Lib.hid ?_, Lib.hid hbxl⟩)
    all_goals (have HB0 := HBB.out; have HR0 := HBR.out)
    all_goals first
      | (with_reducible (refine HB0.trans (Below.mono (B := X.heap.size) ?_ bl)); (repeat (first | exact Below.refl _ _ | assumption | refine Below.setCell ?_ (by first | omega | (simp <;> omega)) _ | refine Below.alloc ?_ (by first | omega | (simp <;> omega)) _ | refine Below.drew ?_ | refine below_drewN' ?_ _)); done)
      | ((repeat (with_reducible (first | assumption | refine C2.new' _ _ (by first | rfl | (simp only [size_drew', size_drewN', World.size_alloc, World.size_setCell]; done) | (simp only [size_drew', size_drewN', World.size_alloc, World.size_setCell]; omega)) | refine C2.new0 (by first | rfl | (simp only [size_drew', size_drewN', World.size_alloc, World.size_setCell]; done) | (simp only [size_drew', size_drewN', World.size_alloc, World.size_setCell]; omega)) | refine C2.setOther ?_ (by first | omega | (simp only [size_drew', size_drewN', World.size_alloc, World.size_setCell]; omega)) | refine C2.stored' (h := 0) (l := 0) ?_ _ _ | refine C2.drew ?_ | refine C2.alloc ?_ _ | refine C2.on ?_ hb_w1 | refine C2.on ?_ hb_w2 | refine C3.setOther ?_ (by first | omega | (simp only [size_drew', size_drewN', World.size_alloc, World.size_setCell]; omega)) | refine C3.drew ?_ | refine C3.alloc ?_ _ | refine C3.on ?_ hb_w1 | refine C3.on ?_ hb_w2))); done)
  case rest => as_aux_lemma =>
    obtain ⟨g5, g6, rfl, rfl, C5, C6, C4, HBW, hbr⟩ := hcut
    have p0 := C5.out.1.get 0 rfl
    have p1 := C5.out.1.get 1 rfl
    have q0 := C6.out.1.get 0 rfl
    have q1 := C6.out.1.get 1 rfl
    have r0 := C4.out.1.get 0 rfl
    have r1 := C4.out.1.get 1 rfl
    have r2 := C4.out.1.get 2 rfl
    have f0 := C4.out.2 0; have f1 := C4.out.2 1; have f2 := C4.out.2 2
    have HS := Lib.hid (C4.out.stored T M S)
    have HX := Lib.hid (below_setCells (b := br) hbr.out [.int .u64 (T : Int), .int .u64 (M : Int), .int .u64 (S : Int)] 0 HBW.out)
    go_wp2_with fail
    obtain ⟨Y, hY⟩ : ∃ Y, Y = wc.setCells br 0 [.int .u64 (T : Int), .int .u64 (M : Int), .int .u64 (S : Int)] := ⟨_, rfl⟩
    change bodyPost _ _ _ _ _ (wc.setCells br 0 [.int .u64 (T : Int), .int .u64 (M : Int), .int .u64 (S : Int)])
    rw [← hY] at HS HX ⊢
    have y0 := HS.out.1.get 0 rfl
    have y1 := HS.out.1.get 1 rfl
    have y2 := HS.out.1.get 2 rfl
    clear hY
    refine bodyPost_ret (v := .agg #[.int .u64 (T : Nat), .int .u64 (M : Nat), .int .u64 (S : Nat)]) (by (simp [results, Tryz.results186, go_sem, y0, y1, y2]; done)) rfl ?_
    exact ⟨T, M, S, rfl, t1, hMl, hSl, HT.out, HX.out⟩
end Go.Proofs.YtjnkbifafbjckaaGreatDoor

/- Plain Lean: two words take in a limb more. -/
namespace Go.Proofs.YtjnkbifafbjckaaGreatDoor.Fl
set_option linter.all false
open Go

/-- A number of two words, shifted up by a limb, and a limb laid into the place that is free. -/
theorem limb_in {A d : Nat} (hd : d < 4294967296) : Go.bits BinOp.or IntKind.u64 ((A * 2 ^ 32 % 18446744073709551616 : Nat) : Int) (d : Int) = (((A * 4294967296 + d) % 18446744073709551616 : Nat) : Int) ∧
    (A * 4294967296 + d) / 18446744073709551616 % 18446744073709551616 = A * 2 ^ 32 / 18446744073709551616 % 18446744073709551616 := by
  have e : (2 : Nat) ^ 32 = 4294967296 := by decide
  rw [e]
  obtain ⟨L, hL⟩ : ∃ L, L = A * 4294967296 % 18446744073709551616 := ⟨_, rfl⟩
  have h0 : L % 4294967296 = 0 := by omega
  have hl : L + d < 18446744073709551616 := by omega
  have hs : (A * 4294967296 + d) % 18446744073709551616 = L + d := by omega
  rw [← hL, hs]
  refine ⟨or_words (n := 32) (by rw [e]; exact h0) (by rw [e]; exact hd) hl, by omega⟩
/-- .. in terms of the whole number, of which the two words are the lowest 128 bits. -/
theorem limb_step {A d hi lo : Nat} (hh : hi = A / 18446744073709551616 % 18446744073709551616) (hl : lo = A % 18446744073709551616) (hd : d < 4294967296) :
    (hi * 18446744073709551616 + lo) * 2 ^ 32 / 18446744073709551616 % 18446744073709551616 = (A * 4294967296 + d) / 18446744073709551616 % 18446744073709551616 ∧
    Go.bits BinOp.or IntKind.u64 (((hi * 18446744073709551616 + lo) * 2 ^ 32 % 18446744073709551616 : Nat) : Int) (d : Int) = (((A * 4294967296 + d) % 18446744073709551616 : Nat) : Int) := by
  obtain ⟨W, hW⟩ : ∃ W, W = hi * 18446744073709551616 + lo := ⟨_, rfl⟩
  obtain ⟨h1, h2⟩ := limb_in (A := W) hd
  have k1 : W * 2 ^ 32 = W * 4294967296 := rfl
  rw [← hW, h1, ← h2, k1]
  clear h1 h2 k1
  constructor
  · omega
  · exact congrArg Int.ofNat (by omega)
end Go.Proofs.YtjnkbifafbjckaaGreatDoor.Fl

/- Two words take in the limbs of a natural, the highest first: what a loop's round keeps. -/
namespace Go.Proofs.YtjnkbifafbjckaaGreatDoor
set_option linter.all false
open Go.RowKit

theorem Na.val_drop {L : List Nat} {k : Nat} (h : k < L.length) : Na.val (L.drop k) = Na.val (L.drop (k + 1)) * 4294967296 + L[k] := by
  rw [List.drop_eq_getElem_cons h, Na.val, Nat.mul_comm, Nat.add_comm]

/-- The words of the highest limbs so far. -/
def limbLoop (L : List Nat) (g : Nat) (w : World) (iv : Value) (wr : World) : Prop := ∃ (i hi lo : Nat), i ≤ L.length ∧ iv = .int .i64 i ∧ hi < 18446744073709551616 ∧ lo < 18446744073709551616 ∧
  Hid (hi = Na.val (L.drop (L.length - i)) / 18446744073709551616 % 18446744073709551616) ∧ Hid (lo = Na.val (L.drop (L.length - i)) % 18446744073709551616) ∧ Hid (C2 wr g hi lo) ∧ Hid (Below w.heap.size w wr)
theorem limb_start (L : List Nat) : 0 = Na.val (L.drop (L.length - 0)) / 18446744073709551616 % 18446744073709551616 ∧ 0 = Na.val (L.drop (L.length - 0)) % 18446744073709551616 := by
  rw [Nat.sub_zero, List.drop_length]; exact ⟨rfl, rfl⟩
/-- What a round needs, and what it leaves. -/
theorem limb_round {L : List Nat} {i hi lo : Nat} (hlt : i < L.length) (hok : Na.OK L) (hh : hi = Na.val (L.drop (L.length - i)) / 18446744073709551616 % 18446744073709551616) (hl : lo = Na.val (L.drop (L.length - i)) % 18446744073709551616) :
    ∃ (m j d H D P : Nat) (hj : j < L.length), ((L.length : Nat) : Int) - 1 = (m : Int) ∧ (m : Int) - (i : Int) = (j : Int) ∧ d = L[j] ∧ d < 4294967296 ∧ H < 18446744073709551616 ∧ D < 18446744073709551616 ∧ P < 18446744073709551616 ∧
      (hi * 18446744073709551616 + lo) * 2 ^ 32 / 18446744073709551616 % 18446744073709551616 = H ∧ (hi * 18446744073709551616 + lo) * 2 ^ 32 % 18446744073709551616 = D ∧ bits BinOp.or IntKind.u64 (D : Int) (d : Int) = (P : Int) ∧
      H = Na.val (L.drop (L.length - (i + 1))) / 18446744073709551616 % 18446744073709551616 ∧ P = Na.val (L.drop (L.length - (i + 1))) % 18446744073709551616 := by
  obtain ⟨j, hj⟩ : ∃ j, L.length - (i + 1) = j := ⟨_, rfl⟩
  have hjl : j < L.length := by omega
  have hd : L[j] < 4294967296 := hok _ (List.getElem_mem hjl)
  have hv := Na.val_drop hjl
  rw [show j + 1 = L.length - i by omega] at hv
  obtain ⟨s1, s2⟩ := Fl.limb_step hh hl hd
  refine ⟨L.length - 1, j, L[j], _, _, _, hjl, by omega, by omega, rfl, hd, Nat.mod_lt _ (by decide), Nat.mod_lt _ (by decide), Nat.mod_lt _ (by decide), s1, rfl, s2, ?_, ?_⟩
  · rw [hj, hv]
  · rw [hj, hv]
theorem wi_shl_lim (hi lo H D : Nat) (hh : hi < 18446744073709551616) (hl : lo < 18446744073709551616) (h1 : (hi * 18446744073709551616 + lo) * 2 ^ 32 / 18446744073709551616 % 18446744073709551616 = H) (h2 : (hi * 18446744073709551616 + lo) * 2 ^ 32 % 18446744073709551616 = D) (w : World) :
    Calls Tryz.prog 112 #[.agg #[.int .u64 hi, .int .u64 lo], .int .i64 32] w (RetB (.agg #[.int .u64 H, .int .u64 D]) w) := by
  have := wi_shl_any hi lo 32 w hh hl (by decide)
  rw [h1, h2] at this
  exact this
theorem limb_all {N : Nat} {L : List Nat} (h : L.length = N) : Na.val (L.drop (L.length - N)) = Na.val L := by
  rw [h, Nat.sub_self, List.drop_zero]
end Go.Proofs.YtjnkbifafbjckaaGreatDoor
