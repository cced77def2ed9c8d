/- The Reader in the program: the slow road, which is exact. -/
import Derived.Test.YtiglekomfgfilaaGreatDoorX11
import Derived.Test.YtiglekomfgfilaaGreatDoorX12
import Derived.Test.YtiglekomfgfilaaGreatDoorX3
import Derived.Test.YtiglekomfgfilaaGreatDoorX4
import Derived.Test.YtiglekomfgfilaaGreatDoorX13
import Derived.Test.YtiglekomfgfilaaGreatDoorX14
import Derived.Test.YtiglekomfgfilaaGreatDoorX20
import Derived.Test.YtiglekomfgfilaaGreatDoorX1
import Derived.Test.YtiglekomfgfilaaGreatDoorX8
import Derived.Defers
import Derived.Laws.Pointers
import Derived.Laws.LoneSync
import Derived.RegionTactic
import Derived.RegionCalls
import Derived.ChangeAlike
import Derived.Test.YtiglekomfgfilaaGreatDoorX10
import Derived.Test.YtiglekomfgfilaaGreatDoorX19
namespace Go.Proofs.YtiglekomfgfilaaGreatDoor
set_option maxRecDepth 100000
set_option maxHeartbeats 8000000
set_option linter.all false
open Go.RowKit
theorem Fl.isD_dig : Na.isD = Dc.isDig := by
  funext c
  show (decide (48 ≤ c.toNat) && decide (c.toNat ≤ 57)) = (decide (48 ≤ (c.toNat : Int)) && decide ((c.toNat : Int) ≤ 57))
  rw [show decide (48 ≤ c.toNat) = decide (48 ≤ (c.toNat : Int)) from decide_eq_decide.2 (by omega), show decide (c.toNat ≤ 57) = decide ((c.toNat : Int) ≤ 57) from decide_eq_decide.2 (by omega)]
theorem Fl.parse_nv {l : Dc.Bs} (hd : Dc.allDig l = true) (hne : l ≠ []) (h : Fl.Mid (Dc.nv l)) : Na.parse l = (Na.limbs (Dc.nv l), 0) := by
  have e : Na.num l = Dc.nv l := rfl
  have hd' : l.all Na.isD = true := by rw [Fl.isD_dig]; exact hd
  rw [Na.parse, if_neg (by rw [hd']; rintro (h | h); exact hne h; cases h), e, Na.fits, if_neg (by unfold Fl.Mid at h; omega)]
theorem fl_round_lim (neg : Bool) (a : Option Addr) (c M : Nat) (e : Int) (more : Bool) (w : World) (h : Sl w a c (Na.limbs M)) (hM : Na.bitLen M ≤ 8192) (he : -10000 ≤ e ∧ e ≤ 0) (hl : e + Na.bitLen M ≤ 1900) :
    Calls Tryz.prog 156 #[.bool neg, .slice a (Na.limbs M).length c, .int .i64 e, .bool more] w (RetB (.int .u64 ((Fl.sgn neg + Fl.rd M e more : Nat) : Int)) w) := by
  have hm := Fl.mid_bl hM
  have h32 : (32 : Int) * (Na.limbs M).length ≤ (Na.bitLen M : Int) + 31 := by
    by_cases h0 : M = 0
    · subst h0; rw [Na.limbs_zero]; simp; omega
    · have h1 := (Fl.bitLen_ge h0).2.1
      have h2 := Na.limbs_len_le M ((Na.bitLen M + 31) / 32) (by
        rw [show Na.B = 2 ^ 32 from rfl, ← Nat.pow_mul]
        exact Nat.lt_of_lt_of_le h1 (Nat.pow_le_pow_right (by decide) (by omega)))
      omega
  have := fl_round_any neg a c (Na.limbs M) e more w h (by unfold Fl.Mid at hm; omega) (by omega) (by rw [Na.val_limbs]; omega)
  rw [Na.val_limbs] at this
  exact this
theorem re_slow_up (n : Bool) (s : ByteArray) (X : Nat) (w : World) (hr : Dc.right s.data.toList X = true) (h0 : s.size ≠ 0) (hend : (s.size : Int) + X ≤ 310) :
    Calls Tryz.prog 126 #[.agg #[.bool n, .string s, .int .i64 X]] w (RetB (.int .u64 ((Fl.bits s.data.toList X : Nat) : Int)) w) := by
  obtain ⟨hp, hs, hx1, hx2⟩ := r8_point_facts hr
  have hb0 : Below w.heap.size w (w.alloc (Obj.cells #[Value.bool n, Value.string s, Value.int IntKind.i64 X] 27)) := (Below.refl _ _).alloc (Nat.le_refl _) _
  have dd0 := DecB.new w n s X
  have hdig := Dc.right_dig hr
  have hne : s.data.toList ≠ [] := fun e => h0 (by have := congrArg List.length e; rwa [bs_length] at this)
  have hN := Dc.nv_lt hdig
  rw [bs_length] at hN
  have hNm : Fl.Mid (Dc.nv s.data.toList) := Fl.mid_le (Nat.le_of_lt hN) (Fl.ten_mid (by omega))
  have hparse := fun w => na_parse_any s w (by omega)
  rw [Fl.parse_nv hdig hne hNm] at hparse
  have hbits := Fl.bits_whole (l := s.data.toList) (x := (X : Int)) (by omega)
  rw [Int.toNat_natCast] at hbits
  obtain ⟨N, hNe⟩ : ∃ N, N = Dc.nv s.data.toList := ⟨_, rfl⟩
  rw [← hNe] at hparse hN hbits hNm
  have hpow := fun w => na_pow_any 10 (X : Int) w (by omega) (by omega)
  rw [Fl.pow_ten (by omega)] at hpow
  have hTm := Fl.ten_mid (show X ≤ 2000 by omega)
  have hNT : N * 10 ^ X < 10 ^ (s.size + X) := by rw [Nat.pow_add]; exact Nat.mul_lt_mul_of_pos_right hN (Nat.pow_pos (by decide))
  have hlen : Na.bitLen (N * 10 ^ X) ≤ 1300 := by
    have h1 : N * 10 ^ X < 2 ^ (4 * (s.size + X)) := Nat.lt_of_lt_of_le hNT (Fl.ten_two _)
    exact Nat.le_trans (Fl.bitLen_lt h1) (by omega)
  obtain ⟨T, hTe⟩ : ∃ T, T = 10 ^ X := ⟨_, rfl⟩
  rw [← hTe] at hpow hbits hTm hlen
  have hM := fun wr a1 c1 a2 c2 (s1 : Sl wr a1 c1 (Na.limbs N)) (s2 : Sl wr a2 c2 (Na.limbs T)) => na_mul_any a1 c1 (Na.limbs N) a2 c2 (Na.limbs T) wr s1 s2 (by unfold Fl.Mid at hNm; omega) (by unfold Fl.Mid at hTm; omega)
  rw [Fl.mul_mid hNm hTm (Fl.mid_bl (by omega))] at hM
  have hR := fun wr a c (sl : Sl wr a c (Na.limbs (N * T))) => fl_round_lim false a c (N * T) 0 false wr sl (by omega) (by omega) (by omega)
  rw [hbits, show Fl.sgn false = 0 from rfl, Nat.zero_add] at hR
  obtain ⟨M, hMe⟩ : ∃ M, M = N * T := ⟨_, rfl⟩
  rw [← hMe] at hM hR
  obtain ⟨Z, hZ⟩ : ∃ Z, Z = Fl.bits s.data.toList X := ⟨_, rfl⟩
  rw [← hZ] at hR ⊢
  have HP := Lib.hid hparse; have HT := Lib.hid hpow; have HM := Lib.hid hM; have HR := Lib.hid hR
  clear hparse hpow hM hR hr hend hp hZ hMe hlen hNT hTm hTe hNm hNe hN hbits hdig hne
  go_enter Tryz.func126, Tryz.ntmps126
  go_wp2_with (first
    | (go_at_call 155; (with_reducible refine (HP.out _).mono ?_); rintro e w1 ⟨a1, c1, rfl, s1, -, hb1⟩; have hB1 : Below w.heap.size w w1 := hb0.trans (hb1.mono (by simp)); have dd1 := dd0.on hb1; obtain ⟨y0, y1, y2, yl⟩ := id dd1)
    | (go_at_call 92; (with_reducible refine (HT.out _).mono ?_); rintro e w2 ⟨a2, c2, rfl, s2, -, hb2⟩; have hB2 : Below w.heap.size w w2 := hB1.trans (hb2.mono hB1.size); have s12 := s1.on hb2)
    | (go_at_call 93; (with_reducible refine (HM.out _ _ _ _ _ s12 s2).mono ?_); rintro e w3 ⟨a3, c3, rfl, s3, -, hb3⟩; have hB3 : Below w.heap.size w w3 := hB2.trans (hb3.mono hB2.size))
    | (go_at_call 156; (with_reducible refine (HR.out _ _ _ s3).mono ?_); rintro e w4 ⟨rfl, hb4⟩; have hB4 : Below w.heap.size w w4 := hB3.trans (hb4.mono hB3.size)))
  go_ret
  exact RetB.of rfl (by (repeat (first | exact Below.refl _ _ | assumption | refine Below.setCell ?_ (by first | omega | (simp <;> omega)) _ | refine Below.alloc ?_ (by first | omega | (simp <;> omega)) _ | refine Below.drew ?_ | refine below_drewN' ?_ _)))
theorem re_slow_down (n : Bool) (s : ByteArray) (x : Int) (X k : Nat) (w : World) (hxX : -x = (X : Int)) (hr : Dc.right s.data.toList x = true) (h0 : s.size ≠ 0) (hend : -330 ≤ (s.size : Int) + x ∧ (s.size : Int) + x ≤ 310) (hX : 0 < X)
    (hk : (k : Int) = max 0 ((Na.bitLen (10 ^ X) : Int) - Na.bitLen (Dc.nv s.data.toList) + 66)) :
    Calls Tryz.prog 126 #[.agg #[.bool n, .string s, .int .i64 x]] w (RetB (.int .u64 ((Fl.bits s.data.toList x : Nat) : Int)) w) := by
  obtain ⟨hp, hs, hx1, hx2⟩ := r8_point_facts hr
  have hb0 : Below w.heap.size w (w.alloc (Obj.cells #[Value.bool n, Value.string s, Value.int IntKind.i64 x] 27)) := (Below.refl _ _).alloc (Nat.le_refl _) _
  have dd0 := DecB.new w n s x
  have hdig := Dc.right_dig hr
  have hne : s.data.toList ≠ [] := fun e => h0 (by have := congrArg List.length e; rwa [bs_length] at this)
  have hN0 := Nat.lt_of_lt_of_le (Nat.pow_pos (by decide)) (Dc.nv_first hdig hne (Dc.right_head hr hne))
  have hN := Dc.nv_lt hdig
  rw [bs_length] at hN
  have hNm : Fl.Mid (Dc.nv s.data.toList) := Fl.mid_le (Nat.le_of_lt hN) (Fl.ten_mid (by omega))
  have hparse := fun w => na_parse_any s w (by omega)
  rw [Fl.parse_nv hdig hne hNm] at hparse
  have hbits := fun hq => Fl.bits_quot (l := s.data.toList) (x := x) (k := k) (by omega) (by omega) hN0 hq
  rw [hxX, Int.toNat_natCast] at hbits
  obtain ⟨N, hNe⟩ : ∃ N, N = Dc.nv s.data.toList := ⟨_, rfl⟩
  rw [← hNe] at hparse hN hbits hNm hk hN0
  have hNl : Na.bitLen N ≤ 4401 := by
    have h1 : N < 2 ^ (4 * s.size) := Nat.lt_of_lt_of_le hN (Fl.ten_two _)
    exact Nat.le_trans (Fl.bitLen_lt h1) (by omega)
  have hpow := fun w => na_pow_any 10 (X : Int) w (by omega) (by omega)
  rw [Fl.pow_ten (by omega)] at hpow
  have hTm := Fl.ten_mid (show X ≤ 2000 by omega)
  have hTl := Fl.ten_len X
  have hT0 := Fl.ten_ne X
  obtain ⟨T, hTe⟩ : ∃ T, T = 10 ^ X := ⟨_, rfl⟩
  rw [← hTe] at hpow hbits hTm hTl hT0 hk
  have hbits := hbits (by omega)
  have hlt := fun wr a1 c1 (s1 : Sl wr a1 c1 (Na.limbs T)) => na_len_any a1 c1 (Na.limbs T) wr s1 (by unfold Fl.Mid at hTm; omega)
  have hln := fun wr a1 c1 (s1 : Sl wr a1 c1 (Na.limbs N)) => na_len_any a1 c1 (Na.limbs N) wr s1 (by unfold Fl.Mid at hNm; omega)
  rw [Na.val_limbs] at hlt hln
  obtain ⟨LT, hLT⟩ : ∃ L, L = Na.bitLen T := ⟨_, rfl⟩
  obtain ⟨LN, hLN⟩ : ∃ L, L = Na.bitLen N := ⟨_, rfl⟩
  rw [← hLT] at hlt hk hTl
  rw [← hLN] at hln hk hNl
  have hsum : Na.bitLen N + k ≤ 8192 := by omega
  have hshl := fun wr a1 c1 (s1 : Sl wr a1 c1 (Na.limbs N)) => na_shl_any a1 c1 (Na.limbs N) (k : Int) wr s1 (by unfold Fl.Mid at hNm; omega) (by omega)
  rw [Fl.shl_mid (by omega) hsum] at hshl
  have hUl : Na.bitLen (N * 2 ^ k) ≤ Na.bitLen N + k := Fl.bitLen_lt (Fl.bitLen_mul_pow (by omega))
  obtain ⟨U, hU⟩ : ∃ U, U = N * 2 ^ k := ⟨_, rfl⟩
  rw [← hU] at hshl hbits hUl
  have hUm : Fl.Mid U := Fl.mid_bl (by omega)
  have hdiv := fun wr a1 c1 a2 c2 (s1 : Sl wr a1 c1 (Na.limbs U)) (s2 : Sl wr a2 c2 (Na.limbs T)) => na_divmod_any a1 c1 (Na.limbs U) a2 c2 (Na.limbs T) wr s1 s2 (by unfold Fl.Mid at hUm; omega) (by unfold Fl.Mid at hTm; omega)
  rw [Fl.div_mid hUm hTm hT0] at hdiv
  have hQl : Na.bitLen (U / T) ≤ Na.bitLen U := by
    by_cases hU0 : U = 0
    · rw [hU0, Nat.zero_div]; exact Nat.le_refl _
    · exact Fl.bitLen_lt (Nat.lt_of_le_of_lt (Nat.div_le_self _ _) (Fl.bitLen_ge hU0).2.1)
  have hQl2 : -(k : Int) + Na.bitLen (U / T) ≤ 1900 := by
    have hlt : U / T < 2 ^ (4 * Fl.n310 + k) := by rw [hU, hTe]; exact Fl.quot_small hN (by unfold Fl.n310; omega)
    have h2 := Fl.bitLen_lt hlt
    have h3 : Fl.n310 = 310 := rfl
    omega
  have hR := fun wr a c (sl : Sl wr a c (Na.limbs (U / T))) => fl_round_lim false a c (U / T) (-(k : Int)) (decide (U % T ≠ 0)) wr sl (by omega) (by omega) (by omega)
  rw [hbits, show Fl.sgn false = 0 from rfl, Nat.zero_add] at hR
  have hlr : decide ((0 : Int) < ((Na.limbs (U % T)).length : Int)) = decide (U % T ≠ 0) := by
    apply decide_eq_decide.2
    by_cases h : U % T = 0
    · rw [h, Na.limbs_zero]; simp
    · have h1 : Na.limbs (U % T) ≠ [] := fun e => h (Na.limbs_nil.1 e)
      have h2 := List.length_pos_iff.2 h1
      omega
  obtain ⟨Q, hQ⟩ : ∃ Q, Q = U / T := ⟨_, rfl⟩
  obtain ⟨R, hRe⟩ : ∃ Q, Q = U % T := ⟨_, rfl⟩
  rw [← hQ, ← hRe] at hdiv
  rw [← hQ, ← hRe] at hR
  rw [← hRe] at hlr
  obtain ⟨rn, hrn⟩ : ∃ r, r = decide (R ≠ 0) := ⟨_, rfl⟩
  rw [← hrn] at hR hlr
  obtain ⟨Z, hZ⟩ : ∃ Z, Z = Fl.bits s.data.toList x := ⟨_, rfl⟩
  rw [← hZ] at hR ⊢
  have HP := Lib.hid hparse; have HT := Lib.hid hpow; have HR := Lib.hid hR; have HLT := Lib.hid hlt; have HLN := Lib.hid hln; have HSH := Lib.hid hshl; have HDV := Lib.hid hdiv
  have hlr2 : decide (0 < (Na.limbs R).length) = rn := by rw [← hlr]; apply decide_eq_decide.2; omega
  have hx0 : x < 0 := by omega
  have hkm : max (0 : Int) ((LT : Int) - (LN : Int) + 66) = (k : Int) := hk.symm
  have hLTb : LT ≤ 8192 := by omega
  have hLNb : LN ≤ 8192 := by omega
  clear hparse hpow hR hlt hln hshl hdiv hr hend hp hZ hQl hQl2 hQ hRe hrn hUm hUl hU hsum hLT hLN hTe hT0 hTl hTm hNm hNe hN hN0 hNl hbits hdig hne hk
  go_enter Tryz.func126, Tryz.ntmps126
  go_wp2_with (first
    | (go_at_call 155; (with_reducible refine (HP.out _).mono ?_); rintro e w1 ⟨a1, c1, rfl, s1, -, hb1⟩; have hB1 : Below w.heap.size w w1 := hb0.trans (hb1.mono (by simp)); have dd1 := dd0.on hb1; obtain ⟨y0, y1, y2, yl⟩ := id dd1)
    | (go_at_call 92; (with_reducible refine (HT.out _).mono ?_); rintro e w2 ⟨a2, c2, rfl, s2, -, hb2⟩; have hB2 : Below w.heap.size w w2 := hB1.trans (hb2.mono hB1.size); have s12 := s1.on hb2)
    | (go_at_call 114; (with_reducible refine (HLT.out _ _ _ s2).mono ?_); rintro e w' ⟨rfl, rfl⟩)
    | (go_at_call 114; (with_reducible refine (HLN.out _ _ _ s12).mono ?_); rintro e w' ⟨rfl, rfl⟩)
    | (go_at_call 90; (with_reducible refine (HSH.out _ _ _ s12).mono ?_); rintro e w3 ⟨a3, c3, rfl, s3, -, hb3⟩; have hB3 : Below w.heap.size w w3 := hB2.trans (hb3.mono hB2.size); have s23 := s2.on hb3)
    | (go_at_call 157; (with_reducible refine (HDV.out _ _ _ _ _ s3 s23).mono ?_); rintro e w4 ⟨a4, c4, a5, c5, rfl, s4, -, -, -, hb4⟩; have hB4 : Below w.heap.size w w4 := hB3.trans (hb4.mono hB3.size))
    | (go_at_call 156; (with_reducible refine (HR.out _ _ _ s4).mono ?_); rintro e w5 ⟨rfl, hb5⟩; have hB5 : Below w.heap.size w w5 := hB4.trans (hb5.mono hB4.size)))
  go_ret
  exact RetB.of rfl (by (repeat (first | exact Below.refl _ _ | assumption | refine Below.setCell ?_ (by first | omega | (simp <;> omega)) _ | refine Below.alloc ?_ (by first | omega | (simp <;> omega)) _ | refine Below.drew ?_ | refine below_drewN' ?_ _)))
end Go.Proofs.YtiglekomfgfilaaGreatDoor

/- A Reader in memory: one block of 801 slots of seven cells; each slot is untouched, or holds its power. -/
namespace Go.Proofs.YtiglekomfgfilaaGreatDoor
set_option linter.all false
open Go.RowKit
theorem Onl.of {g : Nat} {w w' : World} (hg : g < w.heap.size) (hb : Below w.heap.size w w') : Onl g w w' := ⟨hb.mono (Nat.le_of_lt hg), fun _ _ h => hb.block _ h⟩
theorem Onl.size {g : Nat} {w w' : World} (h : Onl g w w') : w.heap.size ≤ w'.heap.size := h.below.size
theorem Onl.cell {g k o : Nat} {w w' : World} (h : Onl g w w') (hk : k ≠ g) (hl : k < w.heap.size) : w'.cell? ⟨k, o, none⟩ = w.cell? ⟨k, o, none⟩ := World.cell?_of_block (h.block k hk hl)
theorem Onl.frozen {g k o : Nat} {w w' : World} (h : Onl g w w') (hk : k ≠ g) (hl : k < w.heap.size) : w'.frozen? ⟨k, o, none⟩ = w.frozen? ⟨k, o, none⟩ := World.frozen?_of_block (h.block k hk hl)
def slotAt (n : Int) : Nat := 7 * (n + 400).toNat
structure Turn (b o : Nat) (w w' : World) : Prop where
  onl : Onl b w w'
  cell : ∀ o', o' < o ∨ o + 7 ≤ o' → w'.cell? ⟨b, o', none⟩ = w.cell? ⟨b, o', none⟩
  frozen : ∀ o', w'.frozen? ⟨b, o', none⟩ = w.frozen? ⟨b, o', none⟩
theorem Turn.refl (b o : Nat) (w : World) : Turn b o w w := ⟨Onl.refl _ _, fun _ _ => rfl, fun _ => rfl⟩
theorem Turn.trans {b o : Nat} {x y z : World} (h : Turn b o x y) (k : Turn b o y z) : Turn b o x z :=
  ⟨h.onl.trans k.onl, fun o' ho => (k.cell o' ho).trans (h.cell o' ho), fun o' => (k.frozen o').trans (h.frozen o')⟩
theorem Turn.of {b o : Nat} {w w' : World} (hl : b < w.heap.size) (hb : Below w.heap.size w w') : Turn b o w w' :=
  ⟨Onl.of hl hb, fun _ _ => hb.cell (p := ⟨b, _, none⟩) hl, fun _ => hb.frozen (p := ⟨b, _, none⟩) hl⟩
theorem Turn.setCell {b o j : Nat} {w w' : World} (h : Turn b o w w') (hj : o ≤ j ∧ j < o + 7) (u : Value) : Turn b o w (w'.setCell ⟨b, j, none⟩ u) :=
  ⟨h.onl.setCell j u, fun o' ho => (World.cell?_setCell_other _ ⟨b, j, none⟩ ⟨b, o', none⟩ _ (by intro e; injection e; omega)).trans (h.cell o' ho), fun o' => (World.frozen?_setCell ..).trans (h.frozen o')⟩
theorem Turn.drew {b o : Nat} {w w' : World} (h : Turn b o w w') : Turn b o w w'.drew := ⟨⟨h.onl.below.drew, h.onl.block⟩, h.cell, h.frozen⟩
structure Slot0 (w : World) (b o : Nat) : Prop where
  done : w.cell? ⟨b, o, none⟩ = some (.int .u32 0)
  lock : w.cell? ⟨b, o + 1, none⟩ = some (.int .i32 0)
  hi : w.cell? ⟨b, o + 3, none⟩ = some (.int .u64 0)
  lo : w.cell? ⟨b, o + 4, none⟩ = some (.int .u64 0)
  e : w.cell? ⟨b, o + 5, none⟩ = some (.int .i64 0)
  all : w.cell? ⟨b, o + 6, none⟩ = some (.bool false)
structure Slot1 (w : World) (b o : Nat) (n : Int) : Prop where
  done : w.cell? ⟨b, o, none⟩ = some (.int .u32 1)
  hi : w.cell? ⟨b, o + 3, none⟩ = some (.int .u64 ((Fl.pwP n / 18446744073709551616 : Nat) : Int))
  lo : w.cell? ⟨b, o + 4, none⟩ = some (.int .u64 ((Fl.pwP n % 18446744073709551616 : Nat) : Int))
  e : w.cell? ⟨b, o + 5, none⟩ = some (.int .i64 (Fl.pwE n))
  all : w.cell? ⟨b, o + 6, none⟩ = some (.bool (Fl.pwA n))
theorem Slot0.far {w w' : World} {b o k : Nat} (h : Slot0 w b o) (t : Turn b k w w') (hk : o + 7 ≤ k ∨ k + 7 ≤ o) : Slot0 w' b o :=
  ⟨(t.cell _ (by omega)).trans h.done, (t.cell _ (by omega)).trans h.lock, (t.cell _ (by omega)).trans h.hi, (t.cell _ (by omega)).trans h.lo, (t.cell _ (by omega)).trans h.e, (t.cell _ (by omega)).trans h.all⟩
theorem Slot1.far {w w' : World} {b o k : Nat} {n : Int} (h : Slot1 w b o n) (t : Turn b k w w') (hk : o + 7 ≤ k ∨ k + 7 ≤ o) : Slot1 w' b o n :=
  ⟨(t.cell _ (by omega)).trans h.done, (t.cell _ (by omega)).trans h.hi, (t.cell _ (by omega)).trans h.lo, (t.cell _ (by omega)).trans h.e, (t.cell _ (by omega)).trans h.all⟩
theorem Slot0.on {w w' : World} {b o : Nat} (h : Slot0 w b o) (hl : b < w.heap.size) (hb : Below w.heap.size w w') : Slot0 w' b o :=
  ⟨(hb.cell (p := ⟨b, _, none⟩) hl).trans h.done, (hb.cell (p := ⟨b, _, none⟩) hl).trans h.lock, (hb.cell (p := ⟨b, _, none⟩) hl).trans h.hi, (hb.cell (p := ⟨b, _, none⟩) hl).trans h.lo, (hb.cell (p := ⟨b, _, none⟩) hl).trans h.e, (hb.cell (p := ⟨b, _, none⟩) hl).trans h.all⟩
theorem Slot1.on {w w' : World} {b o : Nat} {n : Int} (h : Slot1 w b o n) (hl : b < w.heap.size) (hb : Below w.heap.size w w') : Slot1 w' b o n :=
  ⟨(hb.cell (p := ⟨b, _, none⟩) hl).trans h.done, (hb.cell (p := ⟨b, _, none⟩) hl).trans h.hi, (hb.cell (p := ⟨b, _, none⟩) hl).trans h.lo, (hb.cell (p := ⟨b, _, none⟩) hl).trans h.e, (hb.cell (p := ⟨b, _, none⟩) hl).trans h.all⟩
structure Rdr (w : World) (b : Nat) : Prop where
  lt : b < w.heap.size
  free : ∀ o, w.frozen? ⟨b, o, none⟩ = false
  slot : ∀ n : Int, -400 ≤ n → n ≤ 400 → Slot0 w b (slotAt n) ∨ Slot1 w b (slotAt n) n
theorem Rdr.on {w w' : World} {b : Nat} (h : Rdr w b) (hb : Below w.heap.size w w') : Rdr w' b :=
  ⟨Nat.lt_of_lt_of_le h.lt hb.size, fun o => (hb.frozen (p := ⟨b, o, none⟩) h.lt).trans (h.free o), fun n h1 h2 => (h.slot n h1 h2).imp (fun s => s.on h.lt hb) (fun s => s.on h.lt hb)⟩
theorem slot_far {n m : Int} (hn : -400 ≤ n) (hm : -400 ≤ m) (h : n ≠ m) : slotAt m + 7 ≤ slotAt n ∨ slotAt n + 7 ≤ slotAt m := by unfold slotAt; omega
theorem Rdr.turn {w w' : World} {b : Nat} {n : Int} (h : Rdr w b) (hn : -400 ≤ n) (t : Turn b (slotAt n) w w') (hs : Slot1 w' b (slotAt n) n) : Rdr w' b := by
  refine ⟨Nat.lt_of_lt_of_le h.lt t.onl.size, fun o => (t.frozen o).trans (h.free o), fun m h1 h2 => ?_⟩
  by_cases e : n = m
  · subst e; exact Or.inr hs
  · exact (h.slot m h1 h2).imp (fun s => s.far t (slot_far hn h1 e)) (fun s => s.far t (slot_far hn h1 e))
def RetR (b : Nat) (v : Value) (w : World) (e : Ending) (w' : World) : Prop := e = .returned v ∧ Onl b w w' ∧ Rdr w' b
theorem Rdr.onl {w w' : World} {b : Nat} (hb : Below w.heap.size w w') (hr : Rdr w b) : Onl b w w' := Onl.of hr.lt hb
end Go.Proofs.YtiglekomfgfilaaGreatDoor

/- sync.Once in one goroutine: the lock free, nobody waiting: the parts. -/
namespace Go.Proofs.YtiglekomfgfilaaGreatDoor
set_option maxRecDepth 100000
set_option maxHeartbeats 1600000
set_option linter.all false
open Go.RowKit
theorem on_disable (w : World) : (callFunc 227 #[]).run Tryz.prog w = .ok (.value (.tuple #[])) w := run_call_mark0 Tryz.func227 (by kernel_rfl) (by kernel_rfl) (by kernel_rfl) .disable (by kernel_rfl) w
theorem on_enable (w : World) : (callFunc 229 #[]).run Tryz.prog w = .ok (.value (.tuple #[])) w := run_call_mark0 Tryz.func229 (by kernel_rfl) (by kernel_rfl) (by kernel_rfl) .enable (by kernel_rfl) w
theorem on_acquire (a : Addr) (w : World) : (callFunc 230 #[.pointer (some a)]).run Tryz.prog w = .ok (.value (.tuple #[])) w := run_call_marked Tryz.func230 (by kernel_rfl) (by kernel_rfl) (by kernel_rfl) .acquire (by kernel_rfl) a w
theorem on_releaseMerge (a : Addr) (w : World) : (callFunc 232 #[.pointer (some a)]).run Tryz.prog w = .ok (.value (.tuple #[])) w := run_call_marked Tryz.func232 (by kernel_rfl) (by kernel_rfl) (by kernel_rfl) .releaseMerge (by kernel_rfl) a w
theorem on_store (a : Addr) (x : Value) (u : FrameMode) (w : World) (hc : w.cell? a = some x) (hz : w.frozen? a = false) :
    CallsD Tryz.prog 220 #[.pointer (some a), .bool true] u w fun e u' w' => u' = u ∧ (e = .returned (.tuple #[]) ∧ w' = w.drew.setCell a (.int .u32 1)) := by
  have hc' : w.drew.cell? a = some x := by go_simp
  have hz' : w.drew.frozen? a = false := by go_simp
  have hst := run_call_store (P := Tryz.prog) Tryz.func224 (by kernel_rfl) (by kernel_rfl) (by kernel_rfl) (by kernel_rfl) (k := .u32) (y := 1) hc' hz'
  go_enter_d Tryz.func220, Tryz.ntmps220
  go_wp2
  go_region_calls
  all_goals (go_end0; exact ⟨rfl, rfl⟩)
theorem on_unlock (a : Addr) (u : FrameMode) (w : World) (hc : w.cell? a = some (.int .i32 1)) (hz : w.frozen? a = false) :
    CallsD Tryz.prog 219 #[.pointer (some a)] u w fun e u' w' => u' = u ∧ (e = .returned (.tuple #[]) ∧ w' = w.setCell a (.int .i32 0)) := by
  have hd := on_disable
  have he := on_enable
  have hr := on_releaseMerge
  have hadd := run_call_add (P := Tryz.prog) Tryz.func233 (by kernel_rfl) (by kernel_rfl) (by kernel_rfl) .i32 (by kernel_rfl) (y := -1) (s := 0) hc hz (by simp [go_sem]; rfl)
  have hcv := run_convert_to_unsafe (P := Tryz.prog) (src := 256) (dst := 192) Tryz.underlying256 Tryz.underlying192 (by kernel_rfl) hc
  go_enter_d Tryz.func219, Tryz.ntmps219
  go_wp2
  go_end0
  go_wp2
  go_end0
  exact ⟨rfl, rfl⟩
theorem on_lock (a : Addr) (w : World) (hc : w.cell? a = some (.int .i32 0)) (hz : w.frozen? a = false) :
    Calls Tryz.prog 218 #[.pointer (some a)] w fun e w' => e = .returned (.tuple #[]) ∧ w' = w.setCell a (.int .i32 1) := by
  have hd := on_disable
  have he := on_enable
  have ha := on_acquire
  have hcas := run_call_cas_hit (P := Tryz.prog) Tryz.func228 (by kernel_rfl) (by kernel_rfl) (by kernel_rfl) .i32 (by kernel_rfl) (y := 1) hc hz
  have hc' : (w.setCell a (.int .i32 1)).cell? a = some (.int .i32 1) := World.cell?_setCell_same w a _ hc
  have hcv := run_convert_to_unsafe (P := Tryz.prog) (src := 256) (dst := 192) Tryz.underlying256 Tryz.underlying192 (by kernel_rfl) hc'
  go_enter Tryz.func218, Tryz.ntmps218
  go_wp2
  first | go_end0 | (simp only [Exit.inBlock, Exit.then]; refine bodyPost_ret (results_none rfl _ _ _) rfl ?_) | refine bodyPost_ret (results_none rfl _ _ _) rfl ?_
  go_wp2
  go_end0
  exact ⟨rfl, rfl⟩
theorem on_load (a : Addr) (x : Nat) (b : Bool) (w : World) (hc : w.cell? a = some (.int .u32 x)) (hb : ((x : Int) != 0) = b) :
    Calls Tryz.prog 204 #[.pointer (some a)] w (Ret0 (.bool b) w) := by
  have hl := run_call_load (P := Tryz.prog) Tryz.func217 (by kernel_rfl) (by kernel_rfl) (by kernel_rfl) .u32 (by kernel_rfl) (w := w) (a := a) (x := x) hc
  go_enter Tryz.func204, Tryz.ntmps204
  go_wp2
  go_ret
  exact Ret0.of rfl
theorem on_slow (b o F : Nat) (caps : Array Value) (w : World) (Q : World → Prop) (h0 : w.cell? ⟨b, o, none⟩ = some (.int .u32 0)) (h1 : w.cell? ⟨b, o + 1, none⟩ = some (.int .i32 0)) (hf : ∀ o, w.frozen? ⟨b, o, none⟩ = false)
    (hF : F = 183)
    (HF : Calls Tryz.prog 183 caps (w.setCell ⟨b, o + 1, none⟩ (.int .i32 1)) fun e w' => e = .returned (.tuple #[]) ∧ Q w' ∧ w'.cell? ⟨b, o, none⟩ = some (.int .u32 0) ∧ w'.cell? ⟨b, o + 1, none⟩ = some (.int .i32 1) ∧ ∀ o, w'.frozen? ⟨b, o, none⟩ = false) :
    Calls Tryz.prog 205 #[.pointer (some ⟨b, o, none⟩), .func (.func 183) #[] caps] w fun e w' => e = .returned (.tuple #[]) ∧ ∃ w2, Q w2 ∧ w' = (w2.drew.setCell ⟨b, o, none⟩ (.int .u32 1)).setCell ⟨b, o + 1, none⟩ (.int .i32 0) := by
  have hld := on_load ⟨b, o, none⟩ 0 false (w.setCell ⟨b, o + 1, none⟩ (.int .i32 1)) ((World.cell?_setCell_other _ ⟨b, o + 1, none⟩ ⟨b, o, none⟩ _ (by simp)).trans h0) rfl
  have HLD := Lib.hid hld
  clear hld
  have f1 := hf (o + 1)
  have HFF := Lib.hid HF
  clear HF
  go_enter_defers Tryz.func205, Tryz.ntmps205
  go_wp2_with (go_at_call 218; refine (on_lock ⟨b, o + 1, none⟩ _ (by go_simp) (by go_simp)).mono ?_; rintro e w' ⟨rfl, rfl⟩)
  go_wp2_with (first | (go_at_call 204; refine (HLD.out).mono ?_; rintro e w' ⟨rfl, rfl⟩) | (go_at_call 183; refine (HFF.out).mono ?_; rintro e w2 ⟨rfl, hq, d0, d1, df⟩))
  trace_state
  -- the two deferred calls, the last laid first
  refine leaves_cons (f := 220) (args := #[.pointer (some ⟨b, o, none⟩), .bool true]) (by simp) (by simp [go_sem]) ?_
  refine (on_store ⟨b, o, none⟩ (.int .u32 0) .returning _ d0 (df _)).mono ?_
  rintro e u' w'' ⟨rfl, rfl, rfl⟩
  refine leaves_cons (f := 219) (args := #[.pointer (some ⟨b, o + 1, none⟩)]) (by simp [settle]) (by simp [go_sem]) ?_
  refine (on_unlock ⟨b, o + 1, none⟩ _ _ ?_ ?_).mono ?_
  · refine (World.cell?_setCell_other _ ⟨b, o, none⟩ ⟨b, o + 1, none⟩ _ (by simp)).trans ?_
    rw [World.cell?_drew]; exact d1
  · rw [World.frozen?_setCell]; exact df _
  rintro e u' w'' ⟨rfl, rfl, rfl⟩
  simp [Leaves, settle, results, Tryz.results205]
  exact ⟨w2, hq, rfl⟩
end Go.Proofs.YtiglekomfgfilaaGreatDoor

/- The Reader in the program: the lowest 128 bits of a natural. -/
namespace Go.Proofs.YtiglekomfgfilaaGreatDoor
set_option maxRecDepth 100000
set_option maxHeartbeats 4000000
set_option linter.all false
open Go.RowKit
def valueLoop (L : List Nat) (w : World) (iv : Value) (wr : World) : Prop := limbLoop L (w.heap.size + 1) w iv wr ∧ Hid (C2 wr w.heap.size 0 0)
theorem re_value_any (a : Option Addr) (c : Nat) (L : List Nat) (w : World) (s : Sl w a c L) (hn : L.length ≤ 1000000) :
    Calls Tryz.prog 206 #[.slice a L.length c] w (RetB (.agg #[.int .u64 ((Na.val L / 18446744073709551616 % 18446744073709551616 : Nat) : Int), .int .u64 ((Na.val L % 18446744073709551616 : Nat) : Int)]) w) := by
  have HB0 : Hid (Below w.heap.size w ((w.alloc (.cells #[.int .u64 0, .int .u64 0] 91)).alloc (.cells #[.int .u64 0, .int .u64 0] 91))) := Lib.hid (((Below.refl w.heap.size w).alloc (Nat.le_refl _) _).alloc (by simp) _)
  have HR0 : Hid (C2 ((w.alloc (.cells #[.int .u64 0, .int .u64 0] 91)).alloc (.cells #[.int .u64 0, .int .u64 0] 91)) w.heap.size 0 0) := Lib.hid ((C2.new0 rfl).alloc _)
  have HA0 : Hid (C2 ((w.alloc (.cells #[.int .u64 0, .int .u64 0] 91)).alloc (.cells #[.int .u64 0, .int .u64 0] 91)) (w.heap.size + 1) 0 0) := Lib.hid (C2.new0 (by simp))
  obtain ⟨q1, q2⟩ := limb_start L
  have HQ1 := Lib.hid q1; have HQ2 := Lib.hid q2
  have HS := Lib.hid s
  clear s q1 q2
  go_enter Tryz.func206, Tryz.ntmps206
  go_wp2_with fail
  go_loopw [7] (fun iv wr => valueLoop L w iv wr) (fun iv _ => L.length - (intOf iv).toNat)
  case atStart => exact ⟨⟨0, 0, 0, Nat.zero_le _, rfl, by decide, by decide, HQ1, HQ2, HA0, HB0⟩, HR0⟩
  case round =>
    clear HB0 HR0 HA0 HQ1 HQ2
    obtain ⟨⟨i, hi, lo, hil, rfl, hh, hl, HH, HL, HC, HBe⟩, HR⟩ := hrel
    by_cases hlt : i < L.length
    · obtain ⟨m, j, d, H, D, P, hj, e1, e2, hd, hd2, hH, hD, hP, v1, v2, v3, v4, v5⟩ := limb_round hlt HS.out.ok HH.out HL.out
      obtain ⟨b, o, rfl, hb, hcell⟩ := HS.out.plain (by omega)
      have hx := (HBe.out.cell (p := ⟨b, o + j, none⟩) hb).trans (hcell j hj)
      rw [← hd] at hx
      have H1 := Lib.hid (fun w1 => wi_shl_lim hi lo H D hh hl v1 v2 w1)
      have HV4 := Lib.hid v4; have HV5 := Lib.hid v5
      have c0 := HC.out.1.get 0 rfl
      have c1 := HC.out.1.get 1 rfl
      have hbl := HC.out.1.1
      have f0 := HC.out.2 0; have f1 := HC.out.2 1
      have hbw := HBe.out.size
      clear hcell v1 v2 v4 v5 hd
      go_wp2_with (first | (go_at_call 179; (with_reducible refine (H1.out _).mono ?_); rintro e w1 ⟨rfl, hb_w1⟩; have hB_w1 : Below (wr).heap.size (wr) w1 := Below.trans (by (repeat (first | exact Below.refl _ _ | assumption | refine Below.setCell ?_ (by first | omega | (simp <;> omega)) _ | refine Below.alloc ?_ (by first | omega | (simp <;> omega)) _ | refine Below.drew ?_ | refine below_drewN' ?_ _))) (hb_w1.mono (by first | omega | (simp <;> omega))); obtain ⟨hc_w1, hf_w1⟩ := bcell hb_w1; have hz_w1 := hb_w1.size; (try simp only [zD, zN, zA, zS] at hz_w1); have hk := own6 hb_w1 (w.heap.size) (by (try simp only [zD, zN, zA, zS]); omega); obtain ⟨hl0_w1, hm0_w1, hn0_w1, hq0_w1, hr0_w1, hg0_w1⟩ := hk; have hk := own6 hb_w1 (w.heap.size + 1) (by (try simp only [zD, zN, zA, zS]); omega); obtain ⟨hl1_w1, hm1_w1, hn1_w1, hq1_w1, hr1_w1, hg1_w1⟩ := hk; have hk := own6 hb_w1 (b) (by (try simp only [zD, zN, zA, zS]); omega); obtain ⟨hl2_w1, hm2_w1, hn2_w1, hq2_w1, hr2_w1, hg2_w1⟩ := hk))
      obtain ⟨X, hX⟩ : ∃ X, X = w1.setCells (w.heap.size + 1) 0 [.int .u64 H, .int .u64 D] := ⟨_, rfl⟩
      change Code.wp _ _ _ _ (w1.setCells (w.heap.size + 1) 0 [.int .u64 H, .int .u64 D])
      have HCX := (HC.out.on (hb_w1.mono (Nat.le_refl _))).stored H D
      have HRX := ((HR.out.on (hb_w1.mono (Nat.le_refl _))).setOther (o := 0) (u := .int .u64 H) (show w.heap.size ≠ w.heap.size + 1 by omega)).setOther (o := 1) (u := .int .u64 D) (show w.heap.size ≠ w.heap.size + 1 by omega)
      have hBX := below_setCells (B := w.heap.size) (b := w.heap.size + 1) (Nat.le_succ _) [.int .u64 H, .int .u64 D] 0 (HBe.out.trans (hb_w1.mono hbw))
      have hxX : (w1.setCells (w.heap.size + 1) 0 [.int .u64 H, .int .u64 D]).cell? ⟨b, o + j, none⟩ = some (.int .u32 d) := (hBX.cell (p := ⟨b, o + j, none⟩) hb).trans ((HBe.out.cell (p := ⟨b, o + j, none⟩) hb).symm.trans hx)
      rw [← hX] at HCX hBX hxX ⊢
      replace HRX : C2 X w.heap.size 0 0 := by rw [hX]; exact HRX
      have x0 := HCX.1.get 0 rfl
      have x1 := HCX.1.get 1 rfl
      have y0 := HCX.2 0; have y1 := HCX.2 1
      have xl := HCX.1.1
      have HCX2 := Lib.hid (HCX.low P)
      have HRX2 := Lib.hid (HRX.setOther (o := 1) (u := .int .u64 P) (show w.heap.size ≠ w.heap.size + 1 by omega))
      have HBX2 := Lib.hid (hBX.setCell (p := ⟨w.heap.size + 1, 1, none⟩) (Nat.le_succ _) (.int .u64 P))
      clear hX HCX HRX hBX c0 c1 hx f0 f1
      go_region
      go_wp2
      go_roundw
      case rel => exact ⟨⟨i + 1, H, P, by omega, by go_num, hH, hP, HV4, HV5, Lib.hid HCX2.out.drew, Lib.hid HBX2.out.drew⟩, Lib.hid HRX2.out.drew⟩
      case measure => simp [intOf]; omega
    · obtain rfl : i = L.length := by omega
      have hv := limb_all (L := L) rfl
      have HH2 := Lib.hid (HH.out.trans (by rw [hv]))
      have HL2 := Lib.hid (HL.out.trans (by rw [hv]))
      have c0 := HC.out.1.get 0 rfl
      have c1 := HC.out.1.get 1 rfl
      have hbl := HC.out.1.1
      have r0 := HR.out.1.get 0 rfl
      have r1 := HR.out.1.get 1 rfl
      have f0 := HR.out.2 0; have f1 := HR.out.2 1
      have HCR := Lib.hid (HR.out.stored hi lo)
      have HBR := Lib.hid (below_setCells (B := w.heap.size) (b := w.heap.size) (Nat.le_refl _) [.int .u64 hi, .int .u64 lo] 0 HBe.out)
      go_wp2_with fail
      obtain ⟨X, hX⟩ : ∃ X, X = wr.setCells w.heap.size 0 [.int .u64 hi, .int .u64 lo] := ⟨_, rfl⟩
      change bodyPost _ _ _ _ _ (wr.setCells w.heap.size 0 [.int .u64 hi, .int .u64 lo])
      rw [← hX] at HCR HBR ⊢
      have x0 := HCR.out.1.get 0 rfl
      have x1 := HCR.out.1.get 1 rfl
      refine bodyPost_ret (v := .agg #[.int .u64 hi, .int .u64 lo]) (by (simp [results, Tryz.results206, go_sem, x0, x1]; done)) rfl (RetB.of (by rw [HH2.out, HL2.out]) HBR.out)
end Go.Proofs.YtiglekomfgfilaaGreatDoor

/- The reference: the nearest fraction. -/
namespace Go.Proofs.YtiglekomfgfilaaGreatDoor
set_option linter.all false
open Go.RowKit
attribute [local go_sem] Fl.dv
def Fl.fv (f : Fl.Frac) : Value := .tuple #[.agg #[.bool f.d.n, .string ⟨f.d.l.toArray⟩, .int .i64 f.d.x, .int .i64 f.p, .int .i64 f.q], .int .i64 f.e]
def Z5 (W : World) (b : Nat) : Prop := W.cell? ⟨b, 0, none⟩ = some (.bool false) ∧ W.cell? ⟨b, 1, none⟩ = some (.string ⟨#[]⟩) ∧ W.cell? ⟨b, 2, none⟩ = some (.int .i64 0) ∧ W.cell? ⟨b, 3, none⟩ = some (.int .i64 0) ∧ W.cell? ⟨b, 4, none⟩ = some (.int .i64 0) ∧ (∀ o, W.frozen? ⟨b, o, none⟩ = false) ∧ b < W.heap.size
theorem Z5.on {W W' : World} {b : Nat} (h : Z5 W b) (hb : Below W.heap.size W W') : Z5 W' b := by
  obtain ⟨h0, h1, h2, h3, h4, hf, hl⟩ := h
  exact ⟨(hb.cell (p := ⟨b, 0, none⟩) hl).trans h0, (hb.cell (p := ⟨b, 1, none⟩) hl).trans h1, (hb.cell (p := ⟨b, 2, none⟩) hl).trans h2, (hb.cell (p := ⟨b, 3, none⟩) hl).trans h3, (hb.cell (p := ⟨b, 4, none⟩) hl).trans h4, fun o => (hb.frozen (p := ⟨b, o, none⟩) hl).trans (hf o), Nat.lt_of_lt_of_le hl hb.size⟩
theorem Z5.alloc {W : World} {b : Nat} (h : Z5 W b) (o : Obj) : Z5 (W.alloc o) b := h.on ((Below.refl _ _).alloc (Nat.le_refl _) o)
theorem Z5.step {W W1 W' : World} {b : Nat} (h : Z5 W b) (hb : Below W1.heap.size W1 W') (hW : Below W.heap.size W W1 := by first | exact Below.alloc (Below.refl _ _) (Nat.le_refl _) _ | (repeat (first | exact Below.refl _ _ | refine Below.setCell ?_ (by first | exact Nat.le_refl _ | (simp <;> omega)) _ | refine Below.alloc ?_ (by first | exact Nat.le_refl _ | (simp <;> omega)) _ | refine Below.drew ?_))) : Z5 W' b := (h.on hW).on hb
section
variable (x : Nat) (hx : x < 18446744073709551616) (most : Int) (hm : -9223372036854775808 ≤ most ∧ most ≤ 9223372036854775807) (w : World)
include hx hm
end
theorem lit_one9 (w : World) : Sl (w.alloc (Obj.cells #[Value.int IntKind.u32 1] 81)) (some ⟨w.heap.size, 0, none⟩) 1 (Na.limbs 1) := by rw [Na.limbs_one]; exact lit_sl w 1 (by decide)
end Go.Proofs.YtiglekomfgfilaaGreatDoor

/- The Reader in the program: a power of ten is made. -/
namespace Go.Proofs.YtiglekomfgfilaaGreatDoor
set_option maxRecDepth 100000
set_option maxHeartbeats 8000000
set_option linter.all false
open Go.RowKit
def CF (w : World) (b : Nat) (vs : List Value) : Prop := Cs w b vs ∧ ∀ o, w.frozen? ⟨b, o, none⟩ = false
theorem CF.new (w : World) (vs : List Value) (t : TypeId) : CF (w.alloc (.cells vs.toArray t)) w.heap.size vs :=
  ⟨Cs.new w vs _, fun o => by
      unfold World.frozen?; simp only []
      rw [show (w.alloc (.cells vs.toArray t)).heap[w.heap.size]? = some _ from heap_alloc_new w _]
      simp⟩
theorem CF.on {w w' : World} {b : Nat} {vs : List Value} (c : CF w b vs) (hb : Below w.heap.size w w') : CF w' b vs :=
  ⟨c.1.on hb, fun o => (hb.frozen (p := ⟨b, o, none⟩) c.1.1).trans (c.2 o)⟩
theorem CF.stored {w : World} {b : Nat} {vs : List Value} (us : List Value) (c : CF w b vs) (hl : us.length = vs.length) : CF (w.setCells b 0 us) b us :=
  ⟨c.1.stored _ hl, fun o => by rw [World.frozen?_setCells]; exact c.2 o⟩
theorem CF.alloc {w : World} {b : Nat} {vs : List Value} (c : CF w b vs) (o : Obj) : CF (w.alloc o) b vs := c.on ((Below.refl _ _).alloc (Nat.le_refl _) o)
def pw0 : List Value := [.int .u64 0, .int .u64 0, .int .i64 0, .bool false]
def Fl.pval (x : Int) : Value := .agg #[.int .u64 ((Fl.pwP x / 18446744073709551616 : Nat) : Int), .int .u64 ((Fl.pwP x % 18446744073709551616 : Nat) : Int), .int .i64 (Fl.pwE x), .bool (Fl.pwA x)]
theorem re_value_lim (N : Nat) (hi lo : Nat) (a : Option Addr) (c : Nat) (w : World) (s : Sl w a c (Na.limbs N)) (hN : Fl.Mid N) (hh : hi = N / 18446744073709551616) (hl : lo = N % 18446744073709551616) (hN2 : N < 340282366920938463463374607431768211456) :
    Calls Tryz.prog 206 #[.slice a (Na.limbs N).length c] w (RetB (.agg #[.int .u64 hi, .int .u64 lo]) w) := by
  have h := re_value_any a c (Na.limbs N) w s (by unfold Fl.Mid at hN; omega)
  rw [Na.val_limbs, Nat.mod_eq_of_lt (show N / 18446744073709551616 < 18446744073709551616 by omega), ← hh, ← hl] at h
  exact h
theorem re_made_neg (j : Nat) (hj : 0 < j) (hj2 : j ≤ 400) (w : World) : Calls Tryz.prog 184 #[.int .i64 (-(j : Int))] w (RetB (Fl.pval (-(j : Int))) w) := by
  obtain ⟨p1, p2, p3⟩ := Fl.pw_neg hj
  have hr := (Fl.pw_range (-(j : Int))).2
  have hlen := Fl.ten_len j
  have h0 := Fl.ten_ne j
  have hmid := Fl.ten_mid (show j ≤ 2000 by omega)
  rw [Fl.pval, p1, p3]
  obtain ⟨P, hP⟩ : ∃ P, P = Fl.pwP (-(j : Int)) := ⟨_, rfl⟩
  rw [← hP] at p2 hr ⊢
  have hpow := fun w1 => na_pow_any 10 (j : Int) w1 (by omega) (by omega)
  rw [Fl.pow_ten (by omega)] at hpow
  obtain ⟨T, hT⟩ : ∃ T, T = 10 ^ j := ⟨_, rfl⟩
  rw [← hT] at p2 hpow h0 hmid hlen ⊢
  obtain ⟨L, hL⟩ : ∃ L, L = Na.bitLen T := ⟨_, rfl⟩
  have hlT := fun a1 c1 w1 (s1 : Sl w1 a1 c1 (Na.limbs T)) => na_len_any a1 c1 (Na.limbs T) w1 s1 (by unfold Fl.Mid at hmid; omega)
  rw [Na.val_limbs, ← hL] at hlT
  rw [← hL] at p2 hlen ⊢
  have hshl := fun (wr : World) => (by
    have := na_shl_any _ _ (Na.limbs 1) ((L + 127 : Nat) : Int) _ (lit_one9 wr) (by rw [Na.limbs_one]; simp) (by omega)
    rw [Fl.shl_mid (by decide) (by show 1 + _ ≤ _; omega), Na.limbs_one] at this
    exact this : Calls Tryz.prog 90 #[.slice (some ⟨wr.heap.size, 0, none⟩) 1 1, .int .i64 ((L + 127 : Nat) : Int)] (wr.alloc (Obj.cells #[Value.int IntKind.u32 1] 81)) (GivesE (Na.limbs (1 * 2 ^ (L + 127)), 0) (wr.alloc (Obj.cells #[Value.int IntKind.u32 1] 81))))
  have hupm : Fl.Mid (1 * 2 ^ (L + 127)) := Fl.mid_pow (k := L + 128) (by rw [Nat.one_mul]; exact Nat.pow_lt_pow_right (by decide) (by omega)) (by omega)
  obtain ⟨U, hU⟩ : ∃ U, U = 1 * 2 ^ (L + 127) := ⟨_, rfl⟩
  rw [← hU] at hshl hupm p2
  have hPm : Fl.Mid P := Fl.mid_pow (k := 128) (Nat.lt_of_lt_of_le hr (by decide)) (by decide)
  have hdiv := fun (wr : World) a1 c1 a2 c2 (s1 : Sl wr a1 c1 (Na.limbs U)) (s2 : Sl wr a2 c2 (Na.limbs T)) => (by
    have := na_divmod_any a1 c1 (Na.limbs U) a2 c2 (Na.limbs T) wr s1 s2 (by unfold Fl.Mid at hupm; omega) (by unfold Fl.Mid at hmid; omega)
    rw [Fl.div_mid hupm hmid h0, ← p2] at this
    exact this : Calls Tryz.prog 157 #[.slice a1 (Na.limbs U).length c1, .slice a2 (Na.limbs T).length c2] wr (GivesQ (Na.limbs P, Na.limbs (U % T), 0) wr))
  have hval := fun (wr : World) a1 c1 (s1 : Sl wr a1 c1 (Na.limbs P)) => re_value_lim P _ _ a1 c1 wr s1 hPm rfl rfl hr
  obtain ⟨hi, hhi⟩ : ∃ x, x = P / 18446744073709551616 := ⟨_, rfl⟩
  obtain ⟨lo, hlo⟩ : ∃ x, x = P % 18446744073709551616 := ⟨_, rfl⟩
  rw [← hhi, ← hlo] at hval ⊢
  have hmax : max (-(j : Int)) (-(-(j : Int))) = (j : Int) := by omega
  have HP := Lib.hid hpow; have HLN := Lib.hid hlT; have HSH := Lib.hid hshl; have HDV := Lib.hid hdiv; have HV := Lib.hid hval
  obtain ⟨n, hn⟩ : ∃ n : Int, n = -(j : Int) := ⟨_, rfl⟩
  have hnn : -n = (j : Int) := by omega
  have hnb : n < 0 := by omega
  rw [← hn]
  have hmx : max n (j : Int) = (j : Int) := by omega
  have hLe : ∀ a b : Nat, ((L + 127 : Nat) : Int) = (L : Int) + 127 := fun _ _ => by omega
  have hsh2 : ∀ wr : World, Calls Tryz.prog 90 #[.slice (some ⟨wr.heap.size, 0, none⟩) 1 1, .int .i64 ((L : Int) + 127)] (wr.alloc (Obj.cells #[Value.int IntKind.u32 1] 81)) (GivesE (Na.limbs U, 0) (wr.alloc (Obj.cells #[Value.int IntKind.u32 1] 81))) := fun wr => by
    rw [← hLe 0 0]; exact hshl wr
  replace HSH := Lib.hid hsh2
  have hLb : L ≤ 4 * 400 + 1 := by omega
  clear p1 p2 p3 hr h0 hmid hP hpow hT hL hlT hshl hupm hU hPm hdiv hval hhi hlo hn hlen hmax hLe hsh2
  have CF0 : Hid (CF (w.alloc (Obj.cells #[.int .u64 0, .int .u64 0, .int .i64 0, .bool false] 93)) w.heap.size pw0) := Lib.hid (CF.new w pw0 _)
  have HB0 : Hid (Below w.heap.size w (w.alloc (Obj.cells #[.int .u64 0, .int .u64 0, .int .i64 0, .bool false] 93))) := Lib.hid ((Below.refl _ _).alloc (Nat.le_refl _) _)
  go_enter Tryz.func184, Tryz.ntmps184
  go_wp2_with (first
    | (go_at_call 92; (with_reducible refine (HP.out _).mono ?_); rintro e w1 ⟨a1, c1, rfl, s1, -, hb1⟩; have cf1 := CF0.out.on hb1; have hB1 := HB0.out.trans (hb1.mono (by simp)))
    | (go_at_call 114; (with_reducible refine (HLN.out _ _ _ s1).mono ?_); rintro e w' ⟨rfl, rfl⟩)
    | (go_at_call 90; (with_reducible refine (HSH.out _).mono ?_); rintro e w2 ⟨a2, c2, rfl, s2, -, hb2⟩; have hba2 : Below w1.heap.size w1 w2 := Below.trans ((Below.refl _ _).alloc (Nat.le_refl _) _) (hb2.mono (by simp)); have hB2 := hB1.trans (hba2.mono hB1.size); have s12 := s1.on hba2; have cf2 := cf1.on hba2)
    | (go_at_call 157; (with_reducible refine (HDV.out _ _ _ _ _ s2 s12).mono ?_); rintro e w3 ⟨a3, c3, a4, c4, rfl, s3, -, -, -, hb3⟩; have hB3 := hB2.trans (hb3.mono hB2.size); have cf3 := cf2.on hb3; have hz3 := hB3.size)
    | (go_at_call 206; (with_reducible refine (HV.out _ _ _ s3).mono ?_); rintro e w4 ⟨rfl, hb_w4⟩; have hB_w4 : Below (w3).heap.size (w3) w4 := Below.trans (by (repeat (first | exact Below.refl _ _ | assumption | refine Below.setCell ?_ (by first | omega | (simp <;> omega)) _ | refine Below.alloc ?_ (by first | omega | (simp <;> omega)) _ | refine Below.drew ?_ | refine below_drewN' ?_ _))) (hb_w4.mono (by first | omega | (simp <;> omega))); obtain ⟨hc_w4, hf_w4⟩ := bcell hb_w4; have hz_w4 := hb_w4.size; (try simp only [zD, zN, zA, zS] at hz_w4); have hB4 := hB3.trans (hB_w4.mono hz3); have cf4 := cf3.on hB_w4; have q0 := cf4.1.get 0 rfl; have q1 := cf4.1.get 1 rfl; have q2 := cf4.1.get 2 rfl; have q3 := cf4.1.get 3 rfl; have z0 := cf4.2 0; have z1 := cf4.2 1; have z2 := cf4.2 2; have z3 := cf4.2 3; have ql := cf4.1.1))
  have HS := cf4.stored [.int .u64 hi, .int .u64 lo, .int .i64 (-((L : Int) + 127)), .bool false] rfl
  have HX := below_setCells (B := w.heap.size) (b := w.heap.size) (Nat.le_refl _) [.int .u64 hi, .int .u64 lo, .int .i64 (-((L : Int) + 127)), .bool false] 0 hB4
  obtain ⟨Y, hY⟩ : ∃ Y, Y = w4.setCells w.heap.size 0 [.int .u64 hi, .int .u64 lo, .int .i64 (-((L : Int) + 127)), .bool false] := ⟨_, rfl⟩
  change bodyPost _ _ _ _ _ (w4.setCells w.heap.size 0 [.int .u64 hi, .int .u64 lo, .int .i64 (-((L : Int) + 127)), .bool false])
  rw [← hY] at HS HX ⊢
  have y0 := HS.1.get 0 rfl
  have y1 := HS.1.get 1 rfl
  have y2 := HS.1.get 2 rfl
  have y3 := HS.1.get 3 rfl
  clear hY
  refine bodyPost_ret (v := .agg #[.int .u64 hi, .int .u64 lo, .int .i64 (-((L : Int) + 127)), .bool false]) (by (simp [results, Tryz.results184, go_sem, y0, y1, y2, y3]; done)) rfl (RetB.of rfl HX)
theorem re_made_pos (j : Nat) (hj2 : j ≤ 400) (w : World) : Calls Tryz.prog 184 #[.int .i64 (j : Nat)] w (RetB (Fl.pval (j : Int)) w) := by
  obtain ⟨e, he⟩ : ∃ e : Int, e = (Na.bitLen (10 ^ j) : Int) - 128 := ⟨_, rfl⟩
  obtain ⟨p1, p2, p3⟩ := Fl.pw_pos he
  have hr := (Fl.pw_range (j : Int)).2
  have hlen := Fl.ten_len j
  have h0 := Fl.ten_ne j
  have hmid := Fl.ten_mid (show j ≤ 2000 by omega)
  rw [Fl.pval, p1]
  obtain ⟨P, hP⟩ : ∃ P, P = Fl.pwP (j : Int) := ⟨_, rfl⟩
  obtain ⟨A, hA⟩ : ∃ P, P = Fl.pwA (j : Int) := ⟨_, rfl⟩
  rw [← hP, ← hA] at p2 p3
  rw [← hP] at hr
  rw [← hP, ← hA]
  have hpow := fun w1 => na_pow_any 10 (j : Int) w1 (by omega) (by omega)
  rw [Fl.pow_ten (by omega)] at hpow
  obtain ⟨T, hT⟩ : ∃ T, T = 10 ^ j := ⟨_, rfl⟩
  rw [← hT] at p2 p3 hpow h0 hmid hlen he
  obtain ⟨L, hL⟩ : ∃ L, L = Na.bitLen T := ⟨_, rfl⟩
  have hlT := fun a1 c1 w1 (s1 : Sl w1 a1 c1 (Na.limbs T)) => na_len_any a1 c1 (Na.limbs T) w1 s1 (by unfold Fl.Mid at hmid; omega)
  rw [Na.val_limbs, ← hL] at hlT
  rw [← hL] at hlen he
  have hPm : Fl.Mid P := Fl.mid_pow (k := 128) (Nat.lt_of_lt_of_le hr (by decide)) (by decide)
  have hval := fun (wr : World) a1 c1 (s1 : Sl wr a1 c1 (Na.limbs P)) => re_value_lim P _ _ a1 c1 wr s1 hPm rfl rfl hr
  obtain ⟨hi, hhi⟩ : ∃ x, x = P / 18446744073709551616 := ⟨_, rfl⟩
  obtain ⟨lo, hlo⟩ : ∃ x, x = P % 18446744073709551616 := ⟨_, rfl⟩
  rw [← hhi, ← hlo] at hval ⊢
  have heL : (L : Int) - 128 = e := he.symm
  have hmx : max (j : Int) (-(j : Int)) = (j : Int) := by omega
  have hj0 : ¬ (j : Int) < 0 := by omega
  have heb : -128 ≤ e ∧ e ≤ 1500 := by omega
  obtain ⟨eb1, eb2⟩ := heb
  have HP := Lib.hid hpow; have HLN := Lib.hid hlT; have HV := Lib.hid hval
  have CF0 : Hid (CF (w.alloc (Obj.cells #[.int .u64 0, .int .u64 0, .int .i64 0, .bool false] 93)) w.heap.size pw0) := Lib.hid (CF.new w pw0 _)
  have HB0 : Hid (Below w.heap.size w (w.alloc (Obj.cells #[.int .u64 0, .int .u64 0, .int .i64 0, .bool false] 93))) := Lib.hid ((Below.refl _ _).alloc (Nat.le_refl _) _)
  by_cases hup : e ≤ 0
  · obtain ⟨q1, q2⟩ := p2 hup
    obtain ⟨k, hk⟩ : ∃ k : Nat, k = (-e).toNat := ⟨_, rfl⟩
    rw [← hk] at q1
    have hke : -e = (k : Int) := by omega
    have hshl := fun (wr : World) a1 c1 (s1 : Sl wr a1 c1 (Na.limbs T)) => na_shl_any a1 c1 (Na.limbs T) (k : Int) wr s1 (by unfold Fl.Mid at hmid; omega) (by omega)
    rw [Fl.shl_mid h0 (by rw [← hL]; omega), ← q1] at hshl
    have HSH := Lib.hid hshl
    subst q2
    clear p1 p2 p3 hr h0 hmid hP hA hpow hT hL hlT hshl hPm hval hhi hlo hlen he hk q1
    go_enter Tryz.func184, Tryz.ntmps184
    go_wp2_with (first
      | (go_at_call 92; (with_reducible refine (HP.out _).mono ?_); rintro e w1 ⟨a1, c1, rfl, s1, -, hb1⟩; have cf1 := CF0.out.on hb1; have hB1 := HB0.out.trans (hb1.mono (by simp)))
      | (go_at_call 114; (with_reducible refine (HLN.out _ _ _ s1).mono ?_); rintro e w' ⟨rfl, rfl⟩)
      | (go_at_call 90; (with_reducible refine (HSH.out _ _ _ s1).mono ?_); rintro e w2 ⟨a2, c2, rfl, s2, -, hb2⟩; have hB2 := hB1.trans (hb2.mono hB1.size); have cf2 := cf1.on hb2; have hz2 := hB2.size)
      | (go_at_call 206; (with_reducible refine (HV.out _ _ _ s2).mono ?_); rintro e w4 ⟨rfl, hb_w4⟩; have hB_w4 : Below (w2).heap.size (w2) w4 := Below.trans (by (repeat (first | exact Below.refl _ _ | assumption | refine Below.setCell ?_ (by first | omega | (simp <;> omega)) _ | refine Below.alloc ?_ (by first | omega | (simp <;> omega)) _ | refine Below.drew ?_ | refine below_drewN' ?_ _))) (hb_w4.mono (by first | omega | (simp <;> omega))); obtain ⟨hc_w4, hf_w4⟩ := bcell hb_w4; have hz_w4 := hb_w4.size; (try simp only [zD, zN, zA, zS] at hz_w4); have hB4 := hB2.trans (hB_w4.mono hz2); have cf4 := cf2.on hB_w4; have q0 := cf4.1.get 0 rfl; have q1 := cf4.1.get 1 rfl; have q2 := cf4.1.get 2 rfl; have q3 := cf4.1.get 3 rfl; have z0 := cf4.2 0; have z1 := cf4.2 1; have z2 := cf4.2 2; have z3 := cf4.2 3; have ql := cf4.1.1))
    have HS := cf4.stored [.int .u64 hi, .int .u64 lo, .int .i64 (e), .bool true] rfl
    have HX := below_setCells (B := w.heap.size) (b := w.heap.size) (Nat.le_refl _) [.int .u64 hi, .int .u64 lo, .int .i64 (e), .bool true] 0 hB4
    obtain ⟨Y, hY⟩ : ∃ Y, Y = w4.setCells w.heap.size 0 [.int .u64 hi, .int .u64 lo, .int .i64 (e), .bool true] := ⟨_, rfl⟩
    change bodyPost _ _ _ _ _ (w4.setCells w.heap.size 0 [.int .u64 hi, .int .u64 lo, .int .i64 (e), .bool true])
    rw [← hY] at HS HX ⊢
    have y0 := HS.1.get 0 rfl
    have y1 := HS.1.get 1 rfl
    have y2 := HS.1.get 2 rfl
    have y3 := HS.1.get 3 rfl
    clear hY
    refine bodyPost_ret (v := .agg #[.int .u64 hi, .int .u64 lo, .int .i64 (e), .bool true]) (by (simp [results, Tryz.results184, go_sem, y0, y1, y2, y3]; done)) rfl (RetB.of rfl HX)
  · obtain ⟨q1, q2⟩ := p3 (by omega)
    obtain ⟨k, hk⟩ : ∃ k : Nat, k = e.toNat := ⟨_, rfl⟩
    rw [← hk] at q1 q2
    have hke : e = (k : Int) := by omega
    have hshr := fun (wr : World) a1 c1 (s1 : Sl wr a1 c1 (Na.limbs T)) => na_shr_any a1 c1 (Na.limbs T) (k : Int) wr s1 (by unfold Fl.Mid at hmid; omega) (by omega)
    rw [Fl.shr_mid hmid, ← q1] at hshr
    obtain ⟨z, hz⟩ : ∃ z, z = decide (T % 2 ^ k ≠ 0) := ⟨_, rfl⟩
    rw [← hz] at hshr q2
    have HSR := Lib.hid hshr
    have hAz : (!z) = A := q2.symm
    subst hke
    have hup' : ¬ (k : Int) ≤ 0 := hup
    have HAZ := Lib.hid hAz
    clear p1 p2 p3 hr h0 hmid hP hA hpow hT hL hlT hshr hPm hval hhi hlo hlen he hk q1 q2 hz hAz hup
    go_enter Tryz.func184, Tryz.ntmps184
    go_wp2_with (first
      | (go_at_call 92; (with_reducible refine (HP.out _).mono ?_); rintro e w1 ⟨a1, c1, rfl, s1, -, hb1⟩; have cf1 := CF0.out.on hb1; have hB1 := HB0.out.trans (hb1.mono (by simp)))
      | (go_at_call 114; (with_reducible refine (HLN.out _ _ _ s1).mono ?_); rintro e w' ⟨rfl, rfl⟩)
      | (go_at_call 91; (with_reducible refine (HSR.out _ _ _ s1).mono ?_); rintro e w2 ⟨a2, c2, rfl, s2, -, hb2⟩; have hB2 := hB1.trans (hb2.mono hB1.size); have cf2 := cf1.on hb2; have hz2 := hB2.size)
      | (go_at_call 206; (with_reducible refine (HV.out _ _ _ s2).mono ?_); rintro e w4 ⟨rfl, hb_w4⟩; have hB_w4 : Below (w2).heap.size (w2) w4 := Below.trans (by (repeat (first | exact Below.refl _ _ | assumption | refine Below.setCell ?_ (by first | omega | (simp <;> omega)) _ | refine Below.alloc ?_ (by first | omega | (simp <;> omega)) _ | refine Below.drew ?_ | refine below_drewN' ?_ _))) (hb_w4.mono (by first | omega | (simp <;> omega))); obtain ⟨hc_w4, hf_w4⟩ := bcell hb_w4; have hz_w4 := hb_w4.size; (try simp only [zD, zN, zA, zS] at hz_w4); have hB4 := hB2.trans (hB_w4.mono hz2); have cf4 := cf2.on hB_w4; have q0 := cf4.1.get 0 rfl; have q1 := cf4.1.get 1 rfl; have q2 := cf4.1.get 2 rfl; have q3 := cf4.1.get 3 rfl; have z0 := cf4.2 0; have z1 := cf4.2 1; have z2 := cf4.2 2; have z3 := cf4.2 3; have ql := cf4.1.1))
    rw [← HAZ.out]
    have HS := cf4.stored [.int .u64 hi, .int .u64 lo, .int .i64 ((k : Int)), .bool (!z)] rfl
    have HX := below_setCells (B := w.heap.size) (b := w.heap.size) (Nat.le_refl _) [.int .u64 hi, .int .u64 lo, .int .i64 ((k : Int)), .bool (!z)] 0 hB4
    obtain ⟨Y, hY⟩ : ∃ Y, Y = w4.setCells w.heap.size 0 [.int .u64 hi, .int .u64 lo, .int .i64 ((k : Int)), .bool (!z)] := ⟨_, rfl⟩
    change bodyPost _ _ _ _ _ (w4.setCells w.heap.size 0 [.int .u64 hi, .int .u64 lo, .int .i64 ((k : Int)), .bool (!z)])
    rw [← hY] at HS HX ⊢
    have y0 := HS.1.get 0 rfl
    have y1 := HS.1.get 1 rfl
    have y2 := HS.1.get 2 rfl
    have y3 := HS.1.get 3 rfl
    clear hY
    refine bodyPost_ret (v := .agg #[.int .u64 hi, .int .u64 lo, .int .i64 ((k : Int)), .bool (!z)]) (by (simp [results, Tryz.results184, go_sem, y0, y1, y2, y3]; done)) rfl (RetB.of rfl HX)
theorem re_made_any (n : Int) (hn : -400 ≤ n ∧ n ≤ 400) (w : World) : Calls Tryz.prog 184 #[.int .i64 n] w (RetB (Fl.pval n) w) := by
  by_cases h : n < 0
  · obtain ⟨j, hj⟩ : ∃ j : Nat, n = -(j : Int) := ⟨(-n).toNat, by omega⟩
    subst hj
    exact re_made_neg j (by omega) (by omega) w
  · obtain ⟨j, hj⟩ : ∃ j : Nat, n = (j : Int) := ⟨n.toNat, by omega⟩
    subst hj
    exact re_made_pos j (by omega) w
end Go.Proofs.YtiglekomfgfilaaGreatDoor
