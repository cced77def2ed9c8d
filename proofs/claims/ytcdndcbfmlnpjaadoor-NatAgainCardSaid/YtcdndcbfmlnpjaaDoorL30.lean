/- Sums and products go either way round, and on; a product of a sum is the sum of the products; what was added is taken away again. -/
import Derived.Test.YtcdndcbfmlnpjaaDoorN22
namespace Go.Proofs.YtcdndcbfmlnpjaaDoor
set_option linter.all false
open Go.RowKit

theorem Na.not_big_lt {l : List Nat} {k : Nat} (h : Na.val l < Na.B ^ k) (hk : k ≤ 256) : Na.big l = false := by
  refine decide_eq_false ?_
  have := Na.limbs_len_le _ _ h
  show ¬ 256 < (Na.limbs (Na.val l)).length
  omega
theorem Na.pow_le {j k : Nat} (h : j ≤ k) : Na.B ^ j ≤ Na.B ^ k := Nat.pow_le_pow_right (by decide) h
theorem Na.fits_lt {n k : Nat} (h : n < Na.B ^ k) (hk : k ≤ 256) : Na.fits n = (Na.limbs n, 0) := by
  have := Na.limbs_len_le _ _ h
  rw [Na.fits, if_neg (by omega)]
theorem Na.add_lt {x y k : Nat} (h : x < Na.B ^ k) (h' : y < Na.B ^ k) : x + y < Na.B ^ (k + 1) := by
  rw [Nat.pow_succ]
  have : Na.B ^ k * 2 ≤ Na.B ^ k * Na.B := Nat.mul_le_mul_left _ (by decide)
  omega
theorem Na.mul_lt {x y k j : Nat} (h : x < Na.B ^ k) (h' : y < Na.B ^ j) : x * y < Na.B ^ (k + j) := by
  rw [Nat.pow_add]
  exact Nat.mul_lt_mul_of_lt_of_le h (Nat.le_of_lt h') (Nat.pow_pos (by decide))
theorem Na.add_small {l m : List Nat} {k x y : Nat} (hx : Na.val l = x) (hy : Na.val m = y) (h : x < Na.B ^ k) (h' : y < Na.B ^ k) (hk : k < 256) : Na.add l m = (Na.limbs (x + y), 0) := by
  subst hx hy
  rw [Na.add, Na.not_big_lt h (by omega), Na.not_big_lt h' (by omega), if_neg (by decide)]
  exact Na.fits_lt (Na.add_lt h h') hk
theorem Na.mul_small {l m : List Nat} {k j x y : Nat} (hx : Na.val l = x) (hy : Na.val m = y) (h : x < Na.B ^ k) (h' : y < Na.B ^ j) (hk : k + j ≤ 256) : Na.mul l m = (Na.limbs (x * y), 0) := by
  subst hx hy
  rw [Na.mul, Na.not_big_lt h (by omega), Na.not_big_lt h' (by omega), if_neg (by decide)]
  exact Na.fits_lt (Na.mul_lt h h') hk
theorem Na.sub_small {l m : List Nat} {k x y : Nat} (hx : Na.val l = x) (hy : Na.val m = y) (h : x < Na.B ^ k) (hk : k ≤ 256) (hle : y ≤ x) : Na.sub l m = (Na.limbs (x - y), 0) := by
  subst hx hy
  rw [Na.sub, Na.not_big_lt h hk, Na.not_big_lt (Nat.lt_of_le_of_lt hle h) hk, if_neg (by decide), if_neg (by omega)]
theorem Na.len_small {n k : Nat} (h : n < Na.B ^ k) (hk : k ≤ 1000000) : (Na.limbs n).length ≤ 1000000 := Nat.le_trans (Na.limbs_len_le _ _ h) hk

/-- A call's answer: a list and no error. -/
def GvL (n : Nat) (w : World) (e : Ending) (w' : World) : Prop := ∃ a c, e = .returned (.tuple #[.slice a (Na.limbs n).length c, .int .i64 0]) ∧ Sl w' a c (Na.limbs n) ∧ Below w.heap.size w w'
theorem GivesE.gvl {q : List Nat × Int} {n : Nat} {w w' : World} {e : Ending} (h : GivesE q w e w') (hq : q = (Na.limbs n, 0)) : GvL n w e w' := by
  subst hq
  obtain ⟨a, c, rfl, hs, _, hb⟩ := h
  exact ⟨a, c, rfl, hs, hb⟩
def GvT (n : Nat) (w : World) (e : Ending) (w' : World) : Prop := ∃ a, e = .returned (.slice a (Na.limbs n).length (Na.limbs n).length) ∧ Sl w' a (Na.limbs n).length (Na.limbs n) ∧ Below w.heap.size w w'

/-- The contracts as the laws take them: the lists l, m mean x, y. -/
abbrev AddsTo (l m : List Nat) (n : Nat) : Prop := ∀ (w : World) (a : Option Addr) (c : Nat) (b : Option Addr) (d : Nat), Sl w a c l → Sl w b d m → Calls Tryd.prog 8 #[.slice a l.length c, .slice b m.length d] w (GvL n w)
abbrev SubsTo (l m : List Nat) (n : Nat) : Prop := ∀ (w : World) (a : Option Addr) (c : Nat) (b : Option Addr) (d : Nat), Sl w a c l → Sl w b d m → Calls Tryd.prog 9 #[.slice a l.length c, .slice b m.length d] w (GvL n w)
abbrev MulsTo (l m : List Nat) (n : Nat) : Prop := ∀ (w : World) (a : Option Addr) (c : Nat) (b : Option Addr) (d : Nat), Sl w a c l → Sl w b d m → Calls Tryd.prog 12 #[.slice a l.length c, .slice b m.length d] w (GvL n w)
abbrev TrimsTo (l : List Nat) (n : Nat) : Prop := ∀ (w : World) (a : Option Addr) (c : Nat), Sl w a c l → Calls Tryd.prog 11 #[.slice a l.length c] w (GvT n w)
abbrev SameNum (n : Nat) : Prop := ∀ (w : World) (a : Option Addr) (c : Nat) (b : Option Addr) (d : Nat), Sl w a c (Na.limbs n) → Sl w b d (Na.limbs n) → Calls Tryd.prog 10 #[.slice a (Na.limbs n).length c, .slice b (Na.limbs n).length d] w (RetB (.bool true) w)
theorem adds_to {l m : List Nat} {n k x y : Nat} (hx : Na.val l = x) (hy : Na.val m = y) (h : x < Na.B ^ k) (h' : y < Na.B ^ k) (hk : k < 256) (hl : l.length ≤ 1000000) (hm : m.length ≤ 1000000) (hn : n = x + y) : AddsTo l m n :=
  fun w a c b d s s' => (na_add_any a c l b d m w s s' hl hm).mono fun _ _ hg => hg.gvl (by rw [Na.add_small hx hy h h' hk, hn])
theorem muls_to {l m : List Nat} {n k j x y : Nat} (hx : Na.val l = x) (hy : Na.val m = y) (h : x < Na.B ^ k) (h' : y < Na.B ^ j) (hk : k + j ≤ 256) (hl : l.length ≤ 1000000) (hm : m.length ≤ 1000000) (hn : n = x * y) : MulsTo l m n :=
  fun w a c b d s s' => (na_mul_any a c l b d m w s s' hl hm).mono fun _ _ hg => hg.gvl (by rw [Na.mul_small hx hy h h' hk, hn])
theorem subs_to {l m : List Nat} {n k x y : Nat} (hx : Na.val l = x) (hy : Na.val m = y) (h : x < Na.B ^ k) (hk : k ≤ 256) (hle : y ≤ x) (hl : l.length ≤ 1000000) (hm : m.length ≤ 1000000) (hn : n = x - y) : SubsTo l m n :=
  fun w a c b d s s' => (na_sub_any a c l b d m w s s' hl hm).mono fun _ _ hg => hg.gvl (by rw [Na.sub_small hx hy h hk hle, hn])
theorem trims_to {l : List Nat} {n : Nat} (hx : Na.val l = n) (hl : l.length ≤ 1000000) : TrimsTo l n :=
  fun w a c s => (na_trim_any a c l w s hl).mono fun _ _ hg => by
    subst hx
    obtain ⟨g, rfl, hg', hk, hb⟩ := hg
    exact ⟨_, rfl, hk.sl (Na.ok_limbs _) (Nat.le_refl _), hb⟩
theorem same_num {n : Nat} (h : (Na.limbs n).length ≤ 1000000) : SameNum n :=
  fun w a c b d s s' => by have := l1_equal_any a c _ b d _ w s s' h h; rwa [Na.eqv_limbs n n rfl] at this

set_option maxRecDepth 100000 in
set_option maxHeartbeats 1000000 in
theorem l1_rings_out (a : Option Addr) (c : Nat) (b : Option Addr) (d : Nat) (a3 : Option Addr) (c3 : Nat) (n m k : Nat) (w : World) (ht : Tab w) (hn : n ≤ 9223372036854775807) (hm : m ≤ 9223372036854775807) (hk : k ≤ 9223372036854775807) (h : 60 < n ∨ 60 < m ∨ 60 < k) :
    Calls Tryd.prog 3 #[.slice a n c, .slice b m d, .slice a3 k c3] w (RetB (.bool true) w) := by
  have HS := Lib.hid (l1_shown_any w ht)
  by_cases h1 : 60 < n
  · clear h
    go_enter Tryd.func3, Tryd.ntmps3
    go_wp2_with (go_at_call 7; (with_reducible refine (HS.out).mono ?_); rintro e w1 ⟨rfl, hb_w1⟩; have hB_w1 : Below (w).heap.size (w) w1 := Below.trans (by (repeat (first | exact Below.refl _ _ | assumption | refine Below.setCell ?_ (by first | omega | (simp <;> omega)) _ | refine Below.alloc ?_ (by first | omega | (simp <;> omega)) _ | refine Below.drew ?_ | refine below_drewN' ?_ _))) (hb_w1.mono (by first | omega | (simp <;> omega))); obtain ⟨hc_w1, hf_w1⟩ := bcell hb_w1; have hz_w1 := hb_w1.size; (try simp only [size_drew', size_drewN', World.size_alloc, World.size_setCell] at hz_w1))
    go_ret
    exact RetB.of rfl hB_w1
  · by_cases h2 : 60 < m
    · clear h
      go_enter Tryd.func3, Tryd.ntmps3
      go_wp2_with (go_at_call 7; (with_reducible refine (HS.out).mono ?_); rintro e w1 ⟨rfl, hb_w1⟩; have hB_w1 : Below (w).heap.size (w) w1 := Below.trans (by (repeat (first | exact Below.refl _ _ | assumption | refine Below.setCell ?_ (by first | omega | (simp <;> omega)) _ | refine Below.alloc ?_ (by first | omega | (simp <;> omega)) _ | refine Below.drew ?_ | refine below_drewN' ?_ _))) (hb_w1.mono (by first | omega | (simp <;> omega))); obtain ⟨hc_w1, hf_w1⟩ := bcell hb_w1; have hz_w1 := hb_w1.size; (try simp only [size_drew', size_drewN', World.size_alloc, World.size_setCell] at hz_w1))
      go_ret
      exact RetB.of rfl hB_w1
    · have h3 : 60 < k := by omega
      clear h
      go_enter Tryd.func3, Tryd.ntmps3
      go_wp2_with (go_at_call 7; (with_reducible refine (HS.out).mono ?_); rintro e w1 ⟨rfl, hb_w1⟩; have hB_w1 : Below (w).heap.size (w) w1 := Below.trans (by (repeat (first | exact Below.refl _ _ | assumption | refine Below.setCell ?_ (by first | omega | (simp <;> omega)) _ | refine Below.alloc ?_ (by first | omega | (simp <;> omega)) _ | refine Below.drew ?_ | refine below_drewN' ?_ _))) (hb_w1.mono (by first | omega | (simp <;> omega))); obtain ⟨hc_w1, hf_w1⟩ := bcell hb_w1; have hz_w1 := hb_w1.size; (try simp only [size_drew', size_drewN', World.size_alloc, World.size_setCell] at hz_w1))
      go_ret
      exact RetB.of rfl hB_w1

set_option maxRecDepth 100000 in
set_option maxHeartbeats 4000000 in
theorem l1_rings_walk (a1 : Option Addr) (c1 : Nat) (L1 : List Nat) (a2 : Option Addr) (c2 : Nat) (L2 : List Nat) (a3 : Option Addr) (c3 : Nat) (L3 : List Nat) (w : World) (ht : Tab w) (s1 : Sl w a1 c1 L1) (s2 : Sl w a2 c2 L2) (s3 : Sl w a3 c3 L3) (h1 : L1.length ≤ 60) (h2 : L2.length ≤ 60) (h3 : L3.length ≤ 60)
    (n0 n1 n2 n3 m1 m2 m3 m4 m5 : Nat) (hp12 : AddsTo L1 L2 n1) (hp21 : AddsTo L2 L1 n1) (hp23 : AddsTo L2 L3 n2) (hpl : AddsTo (Na.limbs n1) L3 n3) (hpr : AddsTo L1 (Na.limbs n2) n3) (hpb : SubsTo (Na.limbs n1) L2 n0) (hpt : TrimsTo L1 n0)
    (hm12 : MulsTo L1 L2 m1) (hm21 : MulsTo L2 L1 m1) (hmz : MulsTo L1 (Na.limbs n2) m2) (hmu : MulsTo L1 L3 m3) (hpw : AddsTo (Na.limbs m1) (Na.limbs m3) m2) (hmp : MulsTo (Na.limbs m1) L3 m4) (hmr : MulsTo L2 L3 m5) (hmt : MulsTo L1 (Na.limbs m5) m4)
    (he0 : SameNum n0) (he1 : SameNum n1) (he3 : SameNum n3) (hf1 : SameNum m1) (hf2 : SameNum m2) (hf4 : SameNum m4) :
    Calls Tryd.prog 3 #[.slice a1 L1.length c1, .slice a2 L2.length c2, .slice a3 L3.length c3] w (RetB (.bool true) w) := by
  have HS := Lib.hid (l1_shown_any w ht)
  have P12 := Lib.hid hp12; have P21 := Lib.hid hp21; have P23 := Lib.hid hp23; have PL := Lib.hid hpl; have PR := Lib.hid hpr; have PB := Lib.hid hpb; have PT := Lib.hid hpt
  have M12 := Lib.hid hm12; have M21 := Lib.hid hm21; have MZ := Lib.hid hmz; have MU := Lib.hid hmu; have PW := Lib.hid hpw; have MP := Lib.hid hmp; have MR := Lib.hid hmr; have MT := Lib.hid hmt
  have E0 := Lib.hid he0; have E1 := Lib.hid he1; have E3 := Lib.hid he3; have F1 := Lib.hid hf1; have F2 := Lib.hid hf2; have F4 := Lib.hid hf4
  clear hp12 hp21 hp23 hpl hpr hpb hpt hm12 hm21 hmz hmu hpw hmp hmr hmt he0 he1 he3 hf1 hf2 hf4
  go_enter Tryd.func3, Tryd.ntmps3
  go_wp2_with (first
    | (go_at_call 7; (with_reducible refine (HS.out).mono ?_); rintro e w1 ⟨rfl, hb1⟩; have hB1 : Below w.heap.size w w1 := hb1; replace s1 := s1.on hb1; replace s2 := s2.on hb1; replace s3 := s3.on hb1)
    | (go_at_call 8; (with_reducible refine (P12.out _ _ _ _ _ s1 s2).mono ?_); rintro e w2 ⟨aab, cab, rfl, sab, hb2⟩; have hB2 : Below w.heap.size w w2 := hB1.trans (hb2.mono hB1.size); replace s1 := s1.on hb2; replace s2 := s2.on hb2; replace s3 := s3.on hb2)
    | (go_at_call 8; (with_reducible refine (P21.out _ _ _ _ _ s2 s1).mono ?_); rintro e w3 ⟨aba, cba, rfl, sba, hb3⟩; have hB3 : Below w.heap.size w w3 := hB2.trans (hb3.mono hB2.size); replace s1 := s1.on hb3; replace s2 := s2.on hb3; replace s3 := s3.on hb3; replace sab := sab.on hb3)
    | (go_at_call 8; (with_reducible refine (P23.out _ _ _ _ _ s2 s3).mono ?_); rintro e w4 ⟨abc, cbc, rfl, sbc, hb4⟩; have hB4 : Below w.heap.size w w4 := hB3.trans (hb4.mono hB3.size); replace s1 := s1.on hb4; replace s2 := s2.on hb4; replace s3 := s3.on hb4; replace sab := sab.on hb4; replace sba := sba.on hb4)
    | (go_at_call 8; (with_reducible refine (PL.out _ _ _ _ _ sab s3).mono ?_); rintro e w5 ⟨ale, cle, rfl, sle, hb5⟩; have hB5 : Below w.heap.size w w5 := hB4.trans (hb5.mono hB4.size); replace s1 := s1.on hb5; replace s2 := s2.on hb5; replace s3 := s3.on hb5; replace sab := sab.on hb5; replace sba := sba.on hb5; replace sbc := sbc.on hb5)
    | (go_at_call 8; (with_reducible refine (PR.out _ _ _ _ _ s1 sbc).mono ?_); rintro e w6 ⟨ari, cri, rfl, sri, hb6⟩; have hB6 : Below w.heap.size w w6 := hB5.trans (hb6.mono hB5.size); replace s1 := s1.on hb6; replace s2 := s2.on hb6; replace s3 := s3.on hb6; replace sab := sab.on hb6; replace sba := sba.on hb6; replace sbc := sbc.on hb6; replace sle := sle.on hb6)
    | (go_at_call 9; (with_reducible refine (PB.out _ _ _ _ _ sab s2).mono ?_); rintro e w7 ⟨abk, cbk, rfl, sbk, hb7⟩; have hB7 : Below w.heap.size w w7 := hB6.trans (hb7.mono hB6.size); replace s1 := s1.on hb7; replace s2 := s2.on hb7; replace s3 := s3.on hb7; replace sab := sab.on hb7; replace sba := sba.on hb7; replace sbc := sbc.on hb7; replace sle := sle.on hb7; replace sri := sri.on hb7)
    | (go_at_call 10; (with_reducible refine (E1.out _ _ _ _ _ sab sba).mono ?_); rintro e w8 ⟨rfl, hb8⟩; have hB8 : Below w.heap.size w w8 := hB7.trans (hb8.mono hB7.size); replace s1 := s1.on hb8; replace s2 := s2.on hb8; replace s3 := s3.on hb8; replace sba := sba.on hb8; replace sbc := sbc.on hb8; replace sle := sle.on hb8; replace sri := sri.on hb8; replace sbk := sbk.on hb8; replace sab := sab.on hb8)
    | (go_at_call 10; (with_reducible refine (E3.out _ _ _ _ _ sle sri).mono ?_); rintro e w9 ⟨rfl, hb9⟩; have hB9 : Below w.heap.size w w9 := hB8.trans (hb9.mono hB8.size); replace s1 := s1.on hb9; replace s2 := s2.on hb9; replace s3 := s3.on hb9; replace sbc := sbc.on hb9; replace sle := sle.on hb9; replace sri := sri.on hb9; replace sbk := sbk.on hb9)
    | (go_at_call 11; (with_reducible refine (PT.out _ _ _ s1).mono ?_); rintro e w10 ⟨atr, rfl, str, hb10⟩; have hB10 : Below w.heap.size w w10 := hB9.trans (hb10.mono hB9.size); replace s1 := s1.on hb10; replace s2 := s2.on hb10; replace s3 := s3.on hb10; replace sbc := sbc.on hb10; replace sbk := sbk.on hb10)
    | (go_at_call 10; (with_reducible refine (E0.out _ _ _ _ _ sbk str).mono ?_); rintro e w11 ⟨rfl, hb11⟩; have hB11 : Below w.heap.size w w11 := hB10.trans (hb11.mono hB10.size); replace s1 := s1.on hb11; replace s2 := s2.on hb11; replace s3 := s3.on hb11; replace sbc := sbc.on hb11; replace sbk := sbk.on hb11; replace str := str.on hb11)
    | (go_at_call 12; (with_reducible refine (M12.out _ _ _ _ _ s1 s2).mono ?_); rintro e w12 ⟨ax, cx, rfl, sx, hb12⟩; have hB12 : Below w.heap.size w w12 := hB11.trans (hb12.mono hB11.size); replace s1 := s1.on hb12; replace s2 := s2.on hb12; replace s3 := s3.on hb12; replace sbc := sbc.on hb12)
    | (go_at_call 12; (with_reducible refine (M21.out _ _ _ _ _ s2 s1).mono ?_); rintro e w13 ⟨ay, cy, rfl, sy, hb13⟩; have hB13 : Below w.heap.size w w13 := hB12.trans (hb13.mono hB12.size); replace s1 := s1.on hb13; replace s2 := s2.on hb13; replace s3 := s3.on hb13; replace sbc := sbc.on hb13; replace sx := sx.on hb13)
    | (go_at_call 12; (with_reducible refine (MZ.out _ _ _ _ _ s1 sbc).mono ?_); rintro e w14 ⟨az, cz, rfl, sz, hb14⟩; have hB14 : Below w.heap.size w w14 := hB13.trans (hb14.mono hB13.size); replace s1 := s1.on hb14; replace s2 := s2.on hb14; replace s3 := s3.on hb14; replace sbc := sbc.on hb14; replace sx := sx.on hb14; replace sy := sy.on hb14)
    | (go_at_call 12; (with_reducible refine (MU.out _ _ _ _ _ s1 s3).mono ?_); rintro e w15 ⟨au, cu, rfl, su, hb15⟩; have hB15 : Below w.heap.size w w15 := hB14.trans (hb15.mono hB14.size); replace s1 := s1.on hb15; replace s2 := s2.on hb15; replace s3 := s3.on hb15; replace sx := sx.on hb15; replace sy := sy.on hb15; replace sz := sz.on hb15)
    | (go_at_call 8; (with_reducible refine (PW.out _ _ _ _ _ sx su).mono ?_); rintro e w16 ⟨aww, cww, rfl, sww, hb16⟩; have hB16 : Below w.heap.size w w16 := hB15.trans (hb16.mono hB15.size); replace s1 := s1.on hb16; replace s2 := s2.on hb16; replace s3 := s3.on hb16; replace sx := sx.on hb16; replace sy := sy.on hb16; replace sz := sz.on hb16; replace su := su.on hb16)
    | (go_at_call 12; (with_reducible refine (MP.out _ _ _ _ _ sx s3).mono ?_); rintro e w17 ⟨ap, cp, rfl, sp, hb17⟩; have hB17 : Below w.heap.size w w17 := hB16.trans (hb17.mono hB16.size); replace s1 := s1.on hb17; replace s2 := s2.on hb17; replace s3 := s3.on hb17; replace sx := sx.on hb17; replace sy := sy.on hb17; replace sz := sz.on hb17; replace sww := sww.on hb17)
    | (go_at_call 12; (with_reducible refine (MR.out _ _ _ _ _ s2 s3).mono ?_); rintro e w18 ⟨ar, cr, rfl, sr, hb18⟩; have hB18 : Below w.heap.size w w18 := hB17.trans (hb18.mono hB17.size); replace s1 := s1.on hb18; replace s2 := s2.on hb18; replace s3 := s3.on hb18; replace sx := sx.on hb18; replace sy := sy.on hb18; replace sz := sz.on hb18; replace sww := sww.on hb18; replace sp := sp.on hb18)
    | (go_at_call 12; (with_reducible refine (MT.out _ _ _ _ _ s1 sr).mono ?_); rintro e w19 ⟨att, ctt, rfl, stt, hb19⟩; have hB19 : Below w.heap.size w w19 := hB18.trans (hb19.mono hB18.size); replace s1 := s1.on hb19; replace sx := sx.on hb19; replace sy := sy.on hb19; replace sz := sz.on hb19; replace sww := sww.on hb19; replace sp := sp.on hb19; replace sr := sr.on hb19)
    | (go_at_call 10; (with_reducible refine (F1.out _ _ _ _ _ sx sy).mono ?_); rintro e w20 ⟨rfl, hb20⟩; have hB20 : Below w.heap.size w w20 := hB19.trans (hb20.mono hB19.size); replace sx := sx.on hb20; replace sy := sy.on hb20; replace sz := sz.on hb20; replace sww := sww.on hb20; replace sp := sp.on hb20; replace stt := stt.on hb20)
    | (go_at_call 10; (with_reducible refine (F2.out _ _ _ _ _ sz sww).mono ?_); rintro e w21 ⟨rfl, hb21⟩; have hB21 : Below w.heap.size w w21 := hB20.trans (hb21.mono hB20.size); replace sz := sz.on hb21; replace sww := sww.on hb21; replace sp := sp.on hb21; replace stt := stt.on hb21)
    | (go_at_call 10; (with_reducible refine (F4.out _ _ _ _ _ sp stt).mono ?_); rintro e w22 ⟨rfl, hb22⟩; have hB22 : Below w.heap.size w w22 := hB21.trans (hb22.mono hB21.size); replace sp := sp.on hb22; replace stt := stt.on hb22))
  go_ret
  exact RetB.of rfl hB22

theorem l1_rings_any (a1 : Option Addr) (c1 : Nat) (L1 : List Nat) (a2 : Option Addr) (c2 : Nat) (L2 : List Nat) (a3 : Option Addr) (c3 : Nat) (L3 : List Nat) (w : World) (ht : Tab w) (s1 : Sl w a1 c1 L1) (s2 : Sl w a2 c2 L2) (s3 : Sl w a3 c3 L3) (hn1 : L1.length ≤ 9223372036854775807) (hn2 : L2.length ≤ 9223372036854775807) (hn3 : L3.length ≤ 9223372036854775807) :
    Calls Tryd.prog 3 #[.slice a1 L1.length c1, .slice a2 L2.length c2, .slice a3 L3.length c3] w (RetB (.bool true) w) := by
  by_cases h : 60 < L1.length ∨ 60 < L2.length ∨ 60 < L3.length
  · exact l1_rings_out a1 c1 a2 c2 a3 c3 _ _ _ w ht hn1 hn2 hn3 h
  · have h1 : L1.length ≤ 60 := by omega
    have h2 : L2.length ≤ 60 := by omega
    have h3 : L3.length ≤ 60 := by omega
    have up : ∀ {L : List Nat}, Na.OK L → L.length ≤ 60 → Na.val L < Na.B ^ 60 := fun hok hl => Nat.lt_of_lt_of_le (Na.val_lt _ hok) (Na.pow_le hl)
    have q1 := up s1.ok h1
    have q2 := up s2.ok h2
    have q3 := up s3.ok h3
    have v12 := Na.add_lt q1 q2
    have v23 := Na.add_lt q2 q3
    have v123 := Na.add_lt v12 (Nat.lt_of_lt_of_le q3 (Na.pow_le (show 60 ≤ 61 by omega)))
    have u12 := Na.mul_lt q1 q2
    have u13 := Na.mul_lt q1 q3
    have u23 := Na.mul_lt q2 q3
    have uz := Na.mul_lt q1 v23
    have u123 := Na.mul_lt u12 q3
    have le : ∀ {n k : Nat}, n < Na.B ^ k → k ≤ 256 → (Na.limbs n).length ≤ 1000000 := fun h hk => Na.len_small h (by omega)
    exact l1_rings_walk a1 c1 L1 a2 c2 L2 a3 c3 L3 w ht s1 s2 s3 h1 h2 h3 (Na.val L1) (Na.val L1 + Na.val L2) (Na.val L2 + Na.val L3) (Na.val L1 + Na.val L2 + Na.val L3) (Na.val L1 * Na.val L2) (Na.val L1 * (Na.val L2 + Na.val L3)) (Na.val L1 * Na.val L3) (Na.val L1 * Na.val L2 * Na.val L3) (Na.val L2 * Na.val L3)
      (adds_to rfl rfl q1 q2 (by omega) (by omega) (by omega) rfl) (adds_to rfl rfl q2 q1 (by omega) (by omega) (by omega) (Nat.add_comm _ _)) (adds_to rfl rfl q2 q3 (by omega) (by omega) (by omega) rfl)
      (adds_to (Na.val_limbs _) rfl v12 (Nat.lt_of_lt_of_le q3 (Na.pow_le (show 60 ≤ 61 by omega))) (by omega) (le v12 (by omega)) (by omega) rfl)
      (adds_to rfl (Na.val_limbs _) (Nat.lt_of_lt_of_le q1 (Na.pow_le (show 60 ≤ 61 by omega))) v23 (by omega) (by omega) (le v23 (by omega)) (Nat.add_assoc _ _ _))
      (subs_to (Na.val_limbs _) rfl v12 (by omega) (by omega) (le v12 (by omega)) (by omega) (by omega))
      (trims_to rfl (by omega))
      (muls_to rfl rfl q1 q2 (by omega) (by omega) (by omega) rfl) (muls_to rfl rfl q2 q1 (by omega) (by omega) (by omega) (Nat.mul_comm _ _))
      (muls_to rfl (Na.val_limbs _) q1 v23 (by omega) (by omega) (le v23 (by omega)) rfl)
      (muls_to rfl rfl q1 q3 (by omega) (by omega) (by omega) rfl)
      (adds_to (Na.val_limbs _) (Na.val_limbs _) u12 u13 (by omega) (le u12 (by omega)) (le u13 (by omega)) (Nat.mul_add _ _ _))
      (muls_to (Na.val_limbs _) rfl u12 q3 (by omega) (le u12 (by omega)) (by omega) rfl)
      (muls_to rfl rfl q2 q3 (by omega) (by omega) (by omega) rfl)
      (muls_to rfl (Na.val_limbs _) q1 u23 (by omega) (by omega) (le u23 (by omega)) (Nat.mul_assoc _ _ _))
      (same_num (le q1 (by omega))) (same_num (le v12 (by omega))) (same_num (le v123 (by omega))) (same_num (le u12 (by omega))) (same_num (le uz (by omega))) (same_num (le u123 (by omega)))
end Go.Proofs.YtcdndcbfmlnpjaaDoor
