/- The reference: Less, Sub, Parts, DivMod. -/
import Derived.Test.YtiglekomfgfilaaGreatDoorY16
import Derived.Test.YtiglekomfgfilaaGreatDoorY9
import Derived.Test.YtiglekomfgfilaaGreatDoorY1
namespace Go.Proofs.YtiglekomfgfilaaGreatDoor
set_option maxRecDepth 100000
set_option maxHeartbeats 4000000
set_option linter.all false
open Go.RowKit
theorem Na.less_step {o P Q : List Nat} {k x y c z c2 : Nat} (hl : o.length = k) (inv : Na.val o + Na.val (Q.take k) = Na.val (P.take k) + Na.B ^ k * c) (hP : Na.val (P.take (k + 1)) = Na.val (P.take k) + Na.B ^ k * x) (hQ : Na.val (Q.take (k + 1)) = Na.val (Q.take k) + Na.B ^ k * y) (hz : z + (y + c) = x + Na.B * c2) :
    Na.val (o ++ [z]) + Na.val (Q.take (k + 1)) = Na.val (P.take (k + 1)) + Na.B ^ (k + 1) * c2 := by
  rw [Na.val_app, hl, hP, hQ, Nat.pow_succ, Nat.mul_assoc (Na.B ^ k) Na.B]
  have h2 : Na.B ^ k * z + (Na.B ^ k * y + Na.B ^ k * c) = Na.B ^ k * x + Na.B ^ k * (Na.B * c2) := by rw [← Nat.mul_add, ← Nat.mul_add, ← Nat.mul_add, hz]
  simp only [Na.val, Nat.mul_zero, Nat.add_zero] at h2 inv ⊢
  omega
theorem Na.less_end {o P Q : List Nat} {c : Nat} (hP : Na.OK P) (ho : Na.OK o) (hl : o.length = P.length) (hle : Na.val Q ≤ Na.val P) (inv : Na.val o + Na.val (Q.take P.length) = Na.val P + Na.B ^ P.length * c) : Na.val o = Na.val P - Na.val Q := by
  have h1 := Na.val_lt P hP
  have h2 := Na.val_lt o ho
  rw [hl] at h2
  have h3 : Na.val (Q.take P.length) = Na.val Q := by
    by_cases h : P.length ≤ Q.length
    · have h4 := Na.val_take_drop Q P.length h
      rcases Nat.eq_zero_or_pos (Na.val (Q.drop P.length)) with h5 | h5
      · rw [h5] at h4; omega
      · have := Nat.mul_le_mul_left (Na.B ^ P.length) h5
        omega
    · rw [List.take_of_length_le (by omega)]
  rw [h3] at inv
  rcases Nat.eq_zero_or_pos c with h5 | h5
  · rw [h5] at inv; omega
  · have := Nat.mul_le_mul_left (Na.B ^ P.length) h5
    omega
def lessLoop (P Q : List Nat) (w : World) (ov cv iv : Value) (wr : World) : Prop := ∃ (k c : Nat) (o : List Nat), k ≤ P.length ∧ iv = .int .i64 k ∧ cv = .int .u64 c ∧ c ≤ 1 ∧ Hid (Row wr w.heap.size ov o) ∧ Hid (o.length = k) ∧ Hid (Na.OK o) ∧
  Hid (Na.val o + Na.val (Q.take k) = Na.val (P.take k) + Na.B ^ k * c) ∧ Hid (Below w.heap.size w wr)
theorem r1_less_any (a : Option Addr) (c : Nat) (l : List Nat) (b : Option Addr) (d : Nat) (m : List Nat) (w : World) (h : Sl w a c l) (h' : Sl w b d m) (hn : l.length ≤ 100000) (hm : m.length ≤ 100000) (hle : Na.val m ≤ Na.val l) :
    Calls Tryz.prog 86 #[.slice a l.length c, .slice b m.length d] w (GivesZ (Na.limbs (Na.val l - Na.val m)) w) := by
  have HS := Lib.hid h; have HS' := Lib.hid h'; have HLE := Lib.hid hle
  clear h h' hle
  go_enter Tryz.func86, Tryz.ntmps86
  go_wp2_with fail
  go_loopw [5, 6, 7] (lessLoop l m w) (fun _ _ i _ => l.length - (intOf i).toNat)
  case atStart => exact ⟨0, 0, [], Nat.zero_le _, rfl, rfl, by omega, Lib.hid (Row.nil _ _), Lib.hid rfl, Lib.hid (fun _ h => by cases h), Lib.hid (by simp [Na.val]), Lib.hid (Below.refl _ _)⟩
  case round =>
    obtain ⟨k, cc, o, hk, rfl, rfl, hcc, HR, HL, HO, HInv, HB⟩ := hrel
    by_cases hlt : k < l.length
    · have L1 := Lib.hid (r1_limb_any a c l k wr (HS.out.on HB.out) (by omega) (by omega))
      have L2 := Lib.hid (r1_limb_any b d m k wr (HS'.out.on HB.out) (by omega) (by omega))
      have hx := Na.limb_lt HS.out.ok k
      have hy := Na.limb_lt HS'.out.ok k
      have P1 := Na.take_limb l k
      have P2 := Na.take_limb m k
      obtain ⟨x, hxe⟩ : ∃ x, Na.limb l k = x := ⟨_, rfl⟩
      obtain ⟨y, hye⟩ : ∃ x, Na.limb m k = x := ⟨_, rfl⟩
      rw [hxe] at hx P1 L1
      rw [hye] at hy P2 L2
      obtain ⟨s, hs⟩ : ∃ s, s = y + cc := ⟨_, rfl⟩
      have hsi : (y : Int) + (cc : Int) = (s : Int) := by omega
      have hsl : s ≤ 4294967296 := by omega
      have hol : o.length ≤ 200000 := by have := HL.out; omega
      by_cases hxs : x < s
      · obtain ⟨z, hz⟩ : ∃ z, z = x + 4294967296 - s := ⟨_, rfl⟩
        have hzl : z < 4294967296 := by omega
        have hzi : (x : Int) + 4294967296 - (s : Int) = (z : Int) := by omega
        have HST := Lib.hid (Na.less_step (c2 := 1) (z := z) HL.out HInv.out P1 P2 (by show z + (y + cc) = x + 4294967296 * 1; omega))
        have HOZ := Lib.hid (Na.ok_snoc HO.out hzl)
        have HSL := Lib.hid (lit_sl wr z hzl)
        clear hxe hye hs hz P1 P2 HInv
        go_wp2_with (first | (go_at_call 111; (with_reducible refine (L1.out).mono ?_); rintro e w' ⟨rfl, rfl⟩) | (go_at_call 111; (with_reducible refine (L2.out).mono ?_); rintro e w' ⟨rfl, rfl⟩) | (at_builtin; refine app_u32 rfl _ _ 64 Tryz.underlying64 rfl w.heap.size u5 o rfl (HR.out.alloc _) (some ⟨wr.heap.size, 0, none⟩) 1 1 [z] rfl rfl HSL.out (fun e => by cases e) (by simp; omega) (by have := HB.out.size; simp; omega) ?_; intro v2 w2 hr2 hg2))
        have hB2 : Below w.heap.size w w2 := hg2.out _ _ (HB.out.alloc HB.out.size _) (Nat.le_refl _)
        go_wp2_with fail
        go_roundw
        case rel => exact ⟨k + 1, 1, o ++ [z], by omega, by go_num, rfl, by omega, hr2, Lib.hid (by rw [List.length_append, HL.out]; rfl), HOZ, HST, Lib.hid hB2⟩
        case measure => simp [intOf]; omega
      · obtain ⟨z, hz⟩ : ∃ z, z = x - s := ⟨_, rfl⟩
        have hzl : z < 4294967296 := by omega
        have hzi : (x : Int) - (s : Int) = (z : Int) := by omega
        have HST := Lib.hid (Na.less_step (c2 := 0) (z := z) HL.out HInv.out P1 P2 (by omega))
        have HOZ := Lib.hid (Na.ok_snoc HO.out hzl)
        have HSL := Lib.hid (lit_sl wr z hzl)
        clear hxe hye hs hz P1 P2 HInv
        go_wp2_with (first | (go_at_call 111; (with_reducible refine (L1.out).mono ?_); rintro e w' ⟨rfl, rfl⟩) | (go_at_call 111; (with_reducible refine (L2.out).mono ?_); rintro e w' ⟨rfl, rfl⟩) | (at_builtin; refine app_u32 rfl _ _ 64 Tryz.underlying64 rfl w.heap.size u5 o rfl (HR.out.alloc _) (some ⟨wr.heap.size, 0, none⟩) 1 1 [z] rfl rfl HSL.out (fun e => by cases e) (by simp; omega) (by have := HB.out.size; simp; omega) ?_; intro v2 w2 hr2 hg2))
        have hB2 : Below w.heap.size w w2 := hg2.out _ _ (HB.out.alloc HB.out.size _) (Nat.le_refl _)
        go_wp2_with fail
        go_roundw
        case rel => exact ⟨k + 1, 0, o ++ [z], by omega, by go_num, rfl, by omega, hr2, Lib.hid (by rw [List.length_append, HL.out]; rfl), HOZ, HST, Lib.hid hB2⟩
        case measure => simp [intOf]; omega
    · obtain rfl : k = l.length := by omega
      have hv : Na.val o = Na.val l - Na.val m := Na.less_end HS.out.ok HO.out HL.out HLE.out (by have := HInv.out; rwa [List.take_length] at this)
      have hcut : Na.cut o = Na.limbs (Na.val l - Na.val m) := by rw [Na.cut, hv]
      obtain ⟨a2, c2, rfl, hs2, hz2⟩ := HR.out.slz HO.out
      have ht := r1_trim_any a2 c2 o wr hs2 hz2 (by rw [HL.out]; omega)
      rw [hcut] at ht
      have HT := Lib.hid ht
      clear hv hcut ht HInv
      go_wp2_with (first | (go_at_call 83; (with_reducible refine (HT.out).mono ?_); rintro e w3 hg3; obtain ⟨a3, c3, rfl, hs3, hz3, hr3, hb3⟩ := GivesZ.up hg3 HB.out))
      go_ret
      exact ⟨a3, c3, rfl, hs3, hz3, hr3, hb3⟩
def GvPz (q r : Nat) (w : World) (e : Ending) (w' : World) : Prop := ∃ a c a' c', e = .returned (.tuple #[.slice a (Na.limbs q).length c, .slice a' (Na.limbs r).length c']) ∧ Sl w' a c (Na.limbs q) ∧ Sl w' a' c' (Na.limbs r) ∧ (a = none → c = 0) ∧ (a' = none → c' = 0) ∧ Below w.heap.size w w'
theorem Na.half_bit (A j : Nat) (b : Bool) (h : Na.bit A j = b) : A / 2 ^ j = 2 * (A / 2 ^ (j + 1)) + b.toNat := by
  rw [Nat.pow_succ, ← Nat.div_div_eq_div_mul]
  rw [Na.bit] at h
  have h1 := Nat.div_add_mod (A / 2 ^ j) 2
  cases b with
  | true => have := of_decide_eq_true h; show _ = _ + 1; omega
  | false => have h2 := of_decide_eq_false h; have := Nat.mod_lt (A / 2 ^ j) (show 0 < 2 by decide); show _ = _ + 0; omega
theorem Na.parts_no {A j bv q r x : Nat} (hb : 0 < bv) (hq : q = A / 2 ^ (j + 1) / bv) (hr : r = A / 2 ^ (j + 1) % bv) (hx : A / 2 ^ j = 2 * (A / 2 ^ (j + 1)) + x) (h : 2 * r + x < bv) : 2 ^ (j + 1) * q = 2 ^ j * (A / 2 ^ j / bv) ∧ A / 2 ^ j % bv = 2 * r + x := by
  have h1 := Nat.div_add_mod (A / 2 ^ (j + 1)) bv
  rw [← hq, ← hr] at h1
  have h2 : A / 2 ^ j = (2 * r + x) + bv * (2 * q) := by rw [hx, ← h1, Nat.mul_add, Nat.mul_left_comm]; omega
  rw [h2, Nat.add_mul_div_left _ _ hb, Nat.add_mul_mod_self_left, Nat.div_eq_of_lt h, Nat.mod_eq_of_lt h, Nat.zero_add, Nat.pow_succ, Nat.mul_assoc]
  exact ⟨rfl, rfl⟩
theorem Na.parts_yes {A j bv q r x : Nat} (hb : 0 < bv) (hq : q = A / 2 ^ (j + 1) / bv) (hr : r = A / 2 ^ (j + 1) % bv) (hx : A / 2 ^ j = 2 * (A / 2 ^ (j + 1)) + x) (hx1 : x ≤ 1) (h : bv ≤ 2 * r + x) : 2 ^ (j + 1) * q + 2 ^ j = 2 ^ j * (A / 2 ^ j / bv) ∧ A / 2 ^ j % bv = 2 * r + x - bv := by
  have h1 := Nat.div_add_mod (A / 2 ^ (j + 1)) bv
  have hl : r < bv := by rw [hr]; exact Nat.mod_lt _ hb
  rw [← hq, ← hr] at h1
  have h2 : A / 2 ^ j = (2 * r + x - bv) + bv * (2 * q + 1) := by rw [hx, ← h1, Nat.mul_add bv, Nat.mul_one, Nat.mul_add, Nat.mul_left_comm]; omega
  have h3 : 2 * r + x - bv < bv := by omega
  rw [h2, Nat.add_mul_div_left _ _ hb, Nat.add_mul_mod_self_left, Nat.div_eq_of_lt h3, Nat.mod_eq_of_lt h3, Nat.zero_add, Nat.pow_succ, Nat.mul_add, Nat.mul_one, Nat.mul_assoc]
  exact ⟨rfl, rfl⟩
theorem Na.parts_set {o : List Nat} {j k r q : Nat} (hok : Na.OK o) (hj : j = 32 * k + r) (hr : r < 32) (hk : k < o.length) (inv : Na.val o = 2 ^ (j + 1) * q) :
    o[k] % 2 ^ (r + 1) = 0 ∧ Na.val (o.set k (o[k] + 2 ^ r)) = 2 ^ (j + 1) * q + 2 ^ j := by
  have h5 := Na.val_take_drop o k (by omega)
  rw [Na.val_drop_at o k hk] at h5
  have hB : Na.B ^ k = 2 ^ (32 * k) := by rw [Nat.pow_mul]
  have h2 : Na.val (o.take k) < Na.B ^ k := by
    have := Na.val_lt (o.take k) (Na.ok_take hok k)
    rwa [List.length_take, Nat.min_eq_left (by omega)] at this
  have hsp : 2 ^ (j + 1) = Na.B ^ k * 2 ^ (r + 1) := by rw [hB, ← Nat.pow_add, hj, Nat.add_assoc]
  rw [inv, hsp, Nat.mul_assoc] at h5
  have hp : 0 < Na.B ^ k := Nat.pow_pos (by decide)
  have h6 : 2 ^ (r + 1) * q = o[k] + Na.B * Na.val (o.drop (k + 1)) := by
    have := congrArg (· / Na.B ^ k) h5
    rw [Nat.mul_div_cancel_left _ hp, Nat.add_mul_div_left _ _ hp, Nat.div_eq_of_lt h2, Nat.zero_add] at this
    exact this
  have hBr : Na.B = 2 ^ (r + 1) * 2 ^ (31 - r) := by rw [← Nat.pow_add, show r + 1 + (31 - r) = 32 by omega]
  constructor
  · have := congrArg (· % 2 ^ (r + 1)) h6
    rw [Nat.mul_mod_right, hBr, Nat.mul_assoc, Nat.add_mul_mod_self_left] at this
    exact this.symm
  · have h7 := Na.val_set o k (o[k] + 2 ^ r) hk
    have h8 : Na.B ^ k * 2 ^ r = 2 ^ j := by rw [hB, ← Nat.pow_add, hj]
    rw [Nat.mul_add, h8, inv] at h7
    omega
theorem Na.or_bit2 (y r : Nat) (hr : r < 32) (hy : y % 2 ^ (r + 1) = 0) (hl : y < 4294967296) : bits BinOp.or IntKind.u32 (y : Int) ((2 ^ r : Nat) : Int) = ((y + 2 ^ r : Nat) : Int) ∧ y + 2 ^ r < 4294967296 := by
  have h1 : 2 ^ r ≤ 2 ^ 31 := Nat.pow_le_pow_right (by decide) (by omega)
  have h2 : 2 ^ r < 2 ^ (r + 1) := by rw [Nat.pow_succ]; have : 0 < 2 ^ r := Nat.pow_pos (by decide); omega
  have h3 := Nat.div_add_mod y (2 ^ (r + 1))
  rw [hy, Nat.add_zero] at h3
  have h4 := Nat.two_pow_add_eq_or_of_lt h2 (y / 2 ^ (r + 1))
  rw [h3] at h4
  have h5 : y ||| 2 ^ r < 2 ^ 32 := Nat.or_lt_two_pow (by omega) (by omega)
  exact ⟨by rw [(Na.bits_or_u32 y (2 ^ r) hl (by omega)).1, h4], by rw [h4]; omega⟩
def partsLoop (A bv L g : Nat) (w : World) (rv iv : Value) (wr : World) : Prop := ∃ (k : Nat) (o : List Nat) (r : Nat) (a : Option Addr) (c : Nat), k ≤ 32 * L ∧ iv = .int .i64 ((k : Int) - 1) ∧ rv = .slice a (Na.limbs r).length c ∧ Hid (Blk wr g o) ∧ Hid (o.length = L) ∧ Hid (Na.OK o) ∧
  Hid (Na.val o = 2 ^ k * (A / 2 ^ k / bv)) ∧ Hid (r = A / 2 ^ k % bv) ∧ Hid (Sl wr a c (Na.limbs r)) ∧ Hid (a = none → c = 0) ∧ Hid (Below w.heap.size w wr)
theorem Sl.away {w : World} {a : Option Addr} {c B g i : Nat} {u : Value} {l : List Nat} (h : Sl w a c l) (hr : Row w B (.slice a l.length c) l) (hg : g < B) : Sl (w.setCell ⟨g, i, none⟩ u) a c l := by
  obtain ⟨a', c', e, -, ho⟩ := hr.sl h.ok
  cases e
  refine ⟨fun h0 => ?_, h.cap, h.ok⟩
  obtain ⟨b, o, rfl, hlt, hc⟩ := h.plain h0
  obtain ⟨b', o', e, hB, -⟩ := ho h0
  cases e
  have hne : b ≠ g := by omega
  have hk := Below.heap_setCell w ⟨g, i, none⟩ u b hne
  refine ⟨b, o, rfl, by show b < (Array.modify _ _ _).size; rw [Array.size_modify]; exact hlt, fun k hk2 => ?_⟩
  rw [← hc k hk2]
  exact World.cell?_of_block hk
theorem r1_parts_z (a : Option Addr) (c : Nat) (P : List Nat) (b : Option Addr) (d : Nat) (M : List Nat) (w : World) (h : Sl w a c P) (hz : a = none → c = 0) (h' : Sl w b d M) (hz' : b = none → d = 0) (hn : P.length ≤ 1000) (hm : M.length ≤ 1000) (hb0 : 0 < Na.val M) :
    Calls Tryz.prog 53 #[.slice a P.length c, .slice b M.length d] w (GvPz (Na.val P / Na.val M) (Na.val P % Na.val M) w) := by
  have S1 := Lib.hid h; have S2 := Lib.hid h'
  have Z1 := Lib.hid hz; have Z2 := Lib.hid hz'
  obtain ⟨A, hA⟩ : ∃ A, A = Na.val P := ⟨_, rfl⟩
  obtain ⟨bv, hbv⟩ : ∃ A, A = Na.val M := ⟨_, rfl⟩
  have hAl : A < 2 ^ (32 * P.length) := by
    have := Na.val_lt P h.ok
    rwa [← hA, show Na.B ^ P.length = 2 ^ (32 * P.length) by rw [Nat.pow_mul]] at this
  have hbl := Na.val_lt M h'.ok
  rw [← hbv] at hb0 hbl
  rw [← hA, ← hbv]
  obtain ⟨L, hL⟩ : ∃ L, P.length = L := ⟨_, rfl⟩
  rw [hL] at hn hAl ⊢
  have HA := Lib.hid hA; have HBV := Lib.hid hbv; have HL := Lib.hid hL; have HAL := Lib.hid hAl; have HBL := Lib.hid hbl
  clear h h' hz hz' hA hbv hL hAl hbl
  go_enter Tryz.func53, Tryz.ntmps53
  go_wp2_with (first | (at_make; refine mk_u32s rfl _ _ rfl _ _ L rfl rfl rfl rfl (by omega) ?_))
  intro w1 hK hgrow
  have hHB := hgrow.out _ _ (Below.refl w.heap.size w) (Nat.le_refl _)
  have hbk := hK.out
  obtain ⟨g, hgg⟩ : ∃ g, g = w.heap.size := ⟨_, rfl⟩
  have hg : w.heap.size ≤ g := by omega
  rw [← hgg] at hbk ⊢
  have HAtS := Lib.hid (show partsLoop A bv L g w (.slice none 0 0) (.int .i64 (((32 * L : Nat) : Int) - 1)) w1 from ⟨32 * L, List.replicate L 0, 0, none, 0, Nat.le_refl _, rfl, by rw [Na.limbs_zero]; rfl, Lib.hid hbk, Lib.hid (List.length_replicate ..), Lib.hid (fun x hx => by rw [List.eq_of_mem_replicate hx]; decide), Lib.hid (by rw [Na.val_zeros, Nat.div_eq_of_lt HAL.out, Nat.zero_div, Nat.mul_zero]), Lib.hid (by rw [Nat.div_eq_of_lt HAL.out, Nat.zero_mod]), Lib.hid (by rw [Na.limbs_zero]; exact Sl.nil _ _ _), Lib.hid (fun _ => rfl), Lib.hid hHB⟩)
  clear hK hgrow hHB hbk hgg
  go_wp2_with fail
  go_loopw [7, 8] (partsLoop A bv L g w) (fun _ i _ => (intOf i + 1).toNat)
  case atStart => exact (by have := HAtS.out; rwa [show (((32 * L : Nat) : Int) - 1) = 32 * (L : Int) - 1 by omega] at this)
  case round =>
    clear HAtS
    obtain ⟨k, o, r, ar, cr, hk, rfl, rfl, HBl, HOl, HOk, HInv, HR, HSr, HZr, HBe⟩ := hrel
    cases k with
    | zero =>
      have hv : Na.val o = A / bv := by have := HInv.out; rwa [Nat.pow_zero, Nat.one_mul, Nat.div_one] at this
      have hr : r = A % bv := by have := HR.out; rwa [Nat.pow_zero, Nat.div_one] at this
      subst hr
      have hcut : Na.cut o = Na.limbs (A / bv) := by rw [Na.cut, hv]
      have ht := r1_trim_any (some ⟨g, 0, none⟩) L o wr (HBl.out.sl HOk.out (by rw [HOl.out]; exact Nat.le_refl _)) (fun e => by cases e) (by rw [HOl.out]; omega)
      rw [HOl.out, hcut] at ht
      have HT := Lib.hid ht
      have hrl : (Na.limbs (A % bv)).length ≤ 1000000 := by
        have := Na.limbs_len_le (A % bv) M.length (Nat.lt_trans (Nat.mod_lt _ hb0) HBL.out)
        omega
      have HT2 := Lib.hid (fun w2 (s : Sl w2 ar cr (Na.limbs (A % bv))) => (by
        have := r1_trim_any ar cr _ w2 s HZr.out hrl
        rw [Na.cut_limbs] at this; exact this : Calls Tryz.prog 83 #[.slice ar (Na.limbs (A % bv)).length cr] w2 (GivesZ (Na.limbs (A % bv)) w2)))
      clear hv hcut ht hrl
      go_wp2_with (first | (go_at_call 83; (with_reducible refine (HT.out).mono ?_); rintro e w7 ⟨a7, c7, rfl, s7, z7, -, hb7⟩; have sr7 := HSr.out.on hb7) | (go_at_call 83; (with_reducible refine (HT2.out _ sr7).mono ?_); rintro e w8 ⟨a8, c8, rfl, s8, z8, -, hb8⟩))
      have hB7 := HBe.out.trans (hb7.mono HBe.out.size)
      refine bodyPost_ret (v := .tuple #[.slice a7 (Na.limbs (A / bv)).length c7, .slice a8 (Na.limbs (A % bv)).length c8]) (by simp [results, Tryz.results53, go_sem]) rfl ⟨a7, c7, a8, c8, rfl, s7.on hb8, s8, z7, z8, hB7.trans (hb8.mono hB7.size)⟩
    | succ j =>
      have hji : (((j + 1 : Nat) : Int) - 1) = (j : Int) := by omega
      rw [hji]
      obtain ⟨bt, hbte⟩ : ∃ b, b = Na.bit A j := ⟨_, rfl⟩
      have hbit := r1_bit_any a c P j wr (S1.out.on HBe.out) (by rw [HL.out]; omega) (by omega)
      rw [← HA.out, HL.out, ← hbte] at hbit
      have HBT := Lib.hid hbit
      have hrb : r < bv := by rw [HR.out]; exact Nat.mod_lt _ hb0
      have hrlen : (Na.limbs r).length ≤ 1000 := Nat.le_trans (Na.limbs_len_le r M.length (Nat.lt_trans hrb HBL.out)) hm
      have HTW := Lib.hid (r1_twice_any ar cr (Na.limbs r) bt wr HSr.out (by omega))
      rw [Na.val_limbs] at HTW
      have hhalf := Na.half_bit A j bt hbte.symm
      have hx1 : bt.toNat ≤ 1 := by cases bt <;> decide
      obtain ⟨r1, hr1⟩ : ∃ r1, r1 = 2 * r + bt.toNat := ⟨_, rfl⟩
      rw [← hr1] at HTW
      have hr1len : (Na.limbs r1).length ≤ 2001 := by
        have h1 := Na.len_sum (Nat.lt_trans hrb HBL.out) (show r + bt.toNat < Na.B ^ M.length by have := HBL.out; omega)
        rw [show r + (r + bt.toNat) = r1 by rw [hr1]; omega] at h1
        omega
      have hcm := fun wr a1 c1 (s : Sl wr a1 c1 (Na.limbs r1)) (z : a1 = none → c1 = 0) (hb : Below w.heap.size w wr) => r1_cmp_any a1 c1 (Na.limbs r1) b d M wr s z (S2.out.on hb) Z2.out (by omega) (by omega)
      by_cases hge : r1 < bv
      · have hcv : Na.cmp (Na.limbs r1) M = -1 := Na.cmp_lt (by rw [Na.val_limbs, ← HBV.out]; exact hge)
        rw [hcv] at hcm
        have HCM := Lib.hid hcm
        have hst := Na.parts_no hb0 rfl HR.out hhalf (by rw [← hr1]; exact hge)
        have HST := Lib.hid hst
        have HR1 := Lib.hid hr1
        clear hcm hst hhalf hr1 hcv hbit hbte hrb
        go_wp2_with (first | (go_at_call 81; (with_reducible refine (HBT.out).mono ?_); rintro e w' ⟨rfl, rfl⟩) | (go_at_call 84; (with_reducible refine (HTW.out).mono ?_); rintro e w5 ⟨a5, c5, rfl, s5, z5, -, hb5⟩; have hB5 := HBe.out.trans (hb5.mono HBe.out.size)) | (go_at_call 85; (with_reducible refine (HCM.out _ _ _ s5 z5 hB5).mono ?_); rintro e w6 ⟨rfl, hb6⟩))
        have hB6 := hB5.trans (hb6.mono hB5.size)
        have hs6 := s5.on hb6
        have hk6 := (HBl.out.on hb5).on hb6
        go_roundw
        case rel => exact ⟨j, o, r1, a5, c5, by omega, rfl, rfl, Lib.hid hk6, HOl, HOk, Lib.hid (by rw [HInv.out]; exact HST.out.1), Lib.hid (by rw [HR1.out]; exact HST.out.2.symm), Lib.hid hs6, Lib.hid z5, Lib.hid hB6⟩
        case measure => simp [intOf]
      · obtain ⟨z, hze⟩ : ∃ z, z = Na.cmp (Na.limbs r1) M := ⟨_, rfl⟩
        have hz0 : 0 ≤ z := by rw [hze, Na.cmp, if_neg (by rw [Na.val_limbs, ← HBV.out]; exact hge)]; split <;> omega
        rw [← hze] at hcm
        have HCM := Lib.hid hcm
        have HLS := Lib.hid (fun wr a1 c1 (s : Sl wr a1 c1 (Na.limbs r1)) (hb : Below w.heap.size w wr) => (by
          have := r1_less_any a1 c1 (Na.limbs r1) b d M wr s (S2.out.on hb) (by omega) (by omega) (by rw [Na.val_limbs, ← HBV.out]; omega)
          rw [Na.val_limbs, ← HBV.out] at this; exact this : Calls Tryz.prog 86 #[.slice a1 (Na.limbs r1).length c1, .slice b M.length d] wr (GivesZ (Na.limbs (r1 - bv)) wr)))
        obtain ⟨k, hk'⟩ : ∃ k, k = j / 32 := ⟨_, rfl⟩
        obtain ⟨t, ht⟩ : ∃ k, k = j % 32 := ⟨_, rfl⟩
        have hkL : k < L := by omega
        have hko : k < o.length := by rw [HOl.out]; exact hkL
        have ht32 : t < 32 := by omega
        obtain ⟨hy, hset⟩ := Na.parts_set (r := t) (j := j) HOk.out (by omega) ht32 hko HInv.out
        have hst := Na.parts_yes (q := A / 2 ^ (j + 1) / bv) hb0 rfl HR.out hhalf hx1 (by rw [← hr1]; omega)
        rw [← hr1] at hst
        have HSET := Lib.hid (hset.trans hst.1)
        have HST := Lib.hid hst.2
        obtain ⟨y, hye⟩ : ∃ y, o[k]? = some y := ⟨_, List.getElem?_eq_getElem hko⟩
        have hyo : o[k] = y := by obtain ⟨_, e⟩ := List.getElem?_eq_some_iff.1 hye; exact e
        have hyl : y < 4294967296 := by rw [← hyo]; exact HOk.out _ (List.getElem_mem _)
        rw [hyo] at hy HSET
        obtain ⟨hor, horl⟩ := Na.or_bit2 y t ht32 hy hyl
        obtain ⟨T, hT⟩ : ∃ M, M = 2 ^ t := ⟨_, rfl⟩
        rw [← hT] at hor horl HSET
        have hTi : ((2 : Int) ^ t) = (T : Int) := by rw [hT]; simp
        have hki : (j : Int) / 32 = (k : Int) := by omega
        have hri : (j : Int) % 32 = (t : Int) := by omega
        have hT1 : T < 4294967296 := by omega
        have hjl : j < 32000 := by omega
        clear hcm hst hhalf hr1 hbit hbte hrb hze hk' ht hset hye hT hy hx1 hrlen hr1len
        go_wp2_with (first | (go_at_call 81; (with_reducible refine (HBT.out).mono ?_); rintro e w' ⟨rfl, rfl⟩) | (go_at_call 84; (with_reducible refine (HTW.out).mono ?_); rintro e w5 ⟨a5, c5, rfl, s5, z5, -, hb5⟩; have hB5 := HBe.out.trans (hb5.mono HBe.out.size)) | (go_at_call 85; (with_reducible refine (HCM.out _ _ _ s5 z5 hB5).mono ?_); rintro e w6 ⟨rfl, hb6⟩; have hB6 := hB5.trans (hb6.mono hB5.size); have hs6 := s5.on hb6) | (go_at_call 86; (with_reducible refine (HLS.out _ _ _ hs6 hB6).mono ?_); rintro e w7 ⟨a7, c7, rfl, s7, z7, r7, hb7⟩; have hB7 := hB6.trans (hb7.mono hB6.size); have hk6 := (HBl.out.on hb5).on hb6; have hk7 := hk6.on hb7; have co := hk7.cell k hko; rw [hyo] at co; have fo := hk7.frozen k))
        go_roundw
        case rel => exact ⟨j, o.set k (y + T), r1 - bv, a7, c7, by omega, rfl, rfl, Lib.hid (by have := hk7.set k (y + T); first | exact this | (rw [hor]; exact this)), Lib.hid (by rw [List.length_set]; exact HOl.out), Lib.hid (Na.ok_set HOk.out _ _ horl), HSET, Lib.hid HST.out.symm, Lib.hid (s7.away r7 hk6.lt), Lib.hid z7, Lib.hid (hB7.setCell hg _)⟩
        case measure => simp [intOf]
end Go.Proofs.YtiglekomfgfilaaGreatDoor

/- The reference: a natural times a power of two of any size; five to a power. -/
namespace Go.Proofs.YtiglekomfgfilaaGreatDoor
set_option maxRecDepth 100000
set_option maxHeartbeats 4000000
set_option linter.all false
open Go.RowKit
def upLoop (s X L : Nat) (w : World) (ov iv : Value) (wr : World) : Prop := ∃ (k : Nat) (o : List Nat) (a : Option Addr) (c : Nat), k ≤ s ∧ iv = .int .i64 k ∧ ov = .slice a o.length c ∧ o.length ≤ L + k ∧ Hid (Sl wr a c o) ∧ Hid (a = none → c = 0) ∧ Hid (Na.val o = X * 2 ^ k) ∧ Hid (Below w.heap.size w wr)
theorem r3_up_any (a : Option Addr) (c : Nat) (q : List Nat) (n : Nat) (w : World) (h : Sl w a c q) (hz : a = none → c = 0) (hq : q.length ≤ 20000) (hn : n ≤ 100000) :
    Calls Tryz.prog 54 #[.slice a q.length c, .int .i64 n] w (GivesZ (Na.limbs (Na.val q * 2 ^ n)) w) := by
  have hok := h.ok
  obtain ⟨p, hp⟩ : ∃ p, p = n / 32 := ⟨_, rfl⟩
  obtain ⟨s, hs⟩ : ∃ s, s = n % 32 := ⟨_, rfl⟩
  have hpi : (n : Int) / 32 = (p : Int) := by omega
  have hsi : (n : Int) % 32 = (s : Int) := by omega
  have hs2 : s < 32 := by omega
  have hp2 : p ≤ 3200 := by omega
  have HN := Lib.hid (show n = 32 * p + s by omega)
  have HOZ := Lib.hid (show Na.OK (List.replicate p 0 ++ q) from fun x hx => by
    rcases List.mem_append.1 hx with h | h
    · rw [List.eq_of_mem_replicate h]; decide
    · exact hok x h)
  have H := Lib.hid h; have HZN := Lib.hid hz
  obtain ⟨V0, hV0⟩ : ∃ v, v = Na.val q := ⟨_, rfl⟩
  have HV0 := Lib.hid hV0
  rw [← hV0]
  obtain ⟨lq, hlq⟩ : ∃ v, q.length = v := ⟨_, rfl⟩
  have HLQ := Lib.hid hlq
  rw [hlq] at hq ⊢
  clear hp hs hok h hz hV0 hlq
  go_enter Tryz.func54, Tryz.ntmps54
  go_wp2_with (first | (at_make; refine mk_u32s rfl _ _ rfl _ _ p rfl rfl rfl rfl (by omega) ?_; intro w4 hK4 hg4; have hb4 : Below w.heap.size w w4 := hg4.out _ _ (Below.refl _ _) (Nat.le_refl _); have hrow : Row w4 w.heap.size (.slice (some ⟨w.heap.size, 0, none⟩) p p) (List.replicate p 0) := (by have := hK4.out.row (Nat.le_refl _) (by simp; omega); rwa [List.length_replicate] at this); have s4 := H.out.on hb4; clear hg4 hK4) | (at_builtin; refine app_u32 rfl _ _ 64 Tryz.underlying64 rfl w.heap.size _ (List.replicate p 0) rfl hrow a lq c q rfl HLQ.out s4 HZN.out (by rw [List.length_replicate, HLQ.out]; omega) hb4.size ?_; intro v5 w5 hr5 hg5; have hB5 : Below w.heap.size w w5 := hg5.out _ _ hb4 (Nat.le_refl _); obtain ⟨a5, c5, rfl, s5, z5⟩ := hr5.out.slz HOZ.out))
  have HB5 := Lib.hid hB5
  have HS5 := Lib.hid s5; have HZ5 := Lib.hid z5
  clear hrow s4 hr5 hg5 s5 z5 hB5 hb4
  go_loopw [5, 6] (upLoop s (V0 * 2 ^ (32 * p)) 25000 w) (fun _ i _ => s - (intOf i).toNat)
  case atStart => exact ⟨0, List.replicate p 0 ++ q, a5, c5, Nat.zero_le _, rfl, by simp [HLQ.out], by simp [HLQ.out]; omega, HS5, HZ5, Lib.hid (by rw [Na.val_app, Na.val_zeros, List.length_replicate, ← HV0.out, Nat.pow_zero, Nat.mul_one, Nat.zero_add, show Na.B ^ p = 2 ^ (32 * p) by rw [Nat.pow_mul], Nat.mul_comm]), HB5⟩
  case round =>
    clear HS5 HZ5 HB5
    obtain ⟨k, o, a6, c6, hk, rfl, rfl, hol, HS, HZ, HV, HB⟩ := hrel
    by_cases hlt : k < s
    · have hX : (Na.limbs (2 * Na.val o)).length ≤ o.length + 1 := by
        have h1 := Na.val_lt o HS.out.ok
        refine Na.limbs_len_le _ _ ?_
        rw [Nat.pow_succ]
        have : Na.B ^ o.length * 2 ≤ Na.B ^ o.length * Na.B := Nat.mul_le_mul_left _ (by decide)
        omega
      have ht := r1_twice_any a6 c6 o false wr HS.out (by omega)
      rw [show 2 * Na.val o + false.toNat = 2 * Na.val o from rfl] at ht
      have HV2 := Lib.hid (show Na.val (Na.limbs (2 * Na.val o)) = V0 * 2 ^ (32 * p) * 2 ^ (k + 1) by rw [Na.val_limbs, HV.out, Nat.pow_succ, Nat.mul_comm 2, Nat.mul_assoc])
      have HT := Lib.hid ht
      clear ht
      go_wp2_with (first | (go_at_call 84; (with_reducible refine (HT.out).mono ?_); rintro e w7 ⟨a7, c7, rfl, s7, z7, -, hb7⟩))
      have hB7 := HB.out.trans (hb7.mono HB.out.size)
      go_roundw
      case rel => exact ⟨k + 1, Na.limbs (2 * Na.val o), a7, c7, by omega, by go_num, rfl, by omega, Lib.hid s7, Lib.hid z7, HV2, Lib.hid hB7⟩
      case measure => simp [intOf]; omega
    · obtain rfl : k = s := by omega
      have hcut : Na.cut o = Na.limbs (V0 * 2 ^ n) := by
        rw [Na.cut, HV.out, Nat.mul_assoc, ← Nat.pow_add, ← HN.out]
      have ht := r1_trim_any a6 c6 o wr HS.out HZ.out (by omega)
      rw [hcut] at ht
      have HT := Lib.hid ht
      clear hcut ht
      go_wp2_with (first | (go_at_call 83; (with_reducible refine (HT.out).mono ?_); rintro e w7 ⟨a7, c7, rfl, s7, z7, r7, hb7⟩))
      go_ret
      exact ⟨a7, c7, rfl, s7, z7, r7.mono HB.out.size, HB.out.trans (hb7.mono HB.out.size)⟩
def fivesLoop (b n : Nat) (w : World) (ov iv : Value) (wr : World) : Prop := ∃ (k : Nat) (a : Option Addr) (c : Nat), k ≤ n ∧ iv = .int .i64 k ∧ ov = .slice a (Na.limbs (b ^ k)).length c ∧ (Na.limbs (b ^ k)).length ≤ k + 1 ∧ Hid (Sl wr a c (Na.limbs (b ^ k))) ∧ Hid (a = none → c = 0) ∧ Hid (Row wr w.heap.size ov (Na.limbs (b ^ k))) ∧ Hid (Below w.heap.size w wr)
theorem lit_one' (w : World) : Sl (w.alloc (Obj.cells #[Value.int IntKind.u32 1] 81)) (some ⟨w.heap.size, 0, none⟩) 1 [1] := lit_sl w 1 (by decide)
theorem lit_one_row (w : World) : Row (w.alloc (Obj.cells #[Value.int IntKind.u32 1] 81)) w.heap.size (.slice (some ⟨w.heap.size, 0, none⟩) 1 1) [1] :=
  World.ownsRow_lit w #[Value.int IntKind.u32 1] 1 (Nat.le_refl _) (by decide) rfl
theorem r9_fives_any (n : Nat) (w : World) (hn : n ≤ 50000) : Calls Tryz.prog 88 #[.int .i64 n] w (GivesZ (Na.limbs (5 ^ n)) w) := by
  have HB := Lib.hid ((Below.refl w.heap.size w).alloc (Nat.le_refl _) (Obj.cells #[Value.int IntKind.u32 1] 81))
  have HS0 := Lib.hid (lit_one' w); have HR0 := Lib.hid (lit_one_row w)
  go_enter Tryz.func88, Tryz.ntmps88
  go_wp2_with fail
  go_loopw [3, 4] (fivesLoop 5 n w) (fun _ i _ => n - (intOf i).toNat)
  case atStart => exact ⟨0, some ⟨w.heap.size, 0, none⟩, 1, Nat.zero_le _, rfl, by simp [Na.limbs_one], by simp [Na.limbs_one], by simpa [Na.limbs_one] using HS0, Lib.hid (fun e => by cases e), by simpa [Na.limbs_one] using HR0, HB⟩
  case round =>
    clear HB HS0 HR0
    obtain ⟨k, a, c, hk, rfl, rfl, hlen, HSl, HZ, HR, HBe⟩ := hrel
    obtain ⟨x, hx⟩ : ∃ x, x = 5 ^ k := ⟨_, rfl⟩
    rw [← hx] at hlen HSl HR ⊢
    have HX := Lib.hid hx
    clear hx
    by_cases hlt : k < n
    · have hSL := lit_sl wr 5 (by decide)
      have hSA : Sl (wr.alloc (.cells #[Value.int .u32 5] 81)) a c (Na.limbs x) := HSl.out.on ((Below.refl _ _).alloc (Nat.le_refl _) _)
      have htm := r1_times_any a c (Na.limbs x) _ _ [5] _ hSA hSL (by omega) (by simp)
      rw [Na.val_limbs, show Na.val [5] = 5 by simp [Na.val], HX.out, ← Nat.pow_succ, ← HX.out] at htm
      have HTM := Lib.hid (show Calls Tryz.prog 50 #[.slice a (Na.limbs x).length c, .slice (some ⟨wr.heap.size, 0, none⟩) 1 1] (wr.alloc (.cells #[Value.int .u32 5] 81)) (GivesZ (Na.limbs (5 ^ (k + 1))) (wr.alloc (.cells #[Value.int .u32 5] 81))) from htm)
      have HBA := Lib.hid (HBe.out.alloc HBe.out.size (.cells #[Value.int .u32 5] 81))
      have hl2 : (Na.limbs (5 ^ (k + 1))).length ≤ k + 1 + 1 := by
        have h1 := Na.val_lt (Na.limbs x) (Na.ok_limbs _)
        rw [Na.val_limbs] at h1
        have h3 : (Na.limbs (5 ^ (k + 1))).length ≤ (Na.limbs x).length + 1 := by rw [Nat.pow_succ, ← HX.out]; exact Na.len_prod h1 (show 5 < Na.B ^ 1 by decide)
        omega
      clear htm hSL hSA
      go_wp2_with (first | (go_at_call 50; (with_reducible refine (HTM.out).mono ?_); rintro e w1 ⟨a1, c1, rfl, s1, z1, r1, hb1⟩; have hB1 := HBA.out.trans (hb1.mono HBA.out.size)))
      go_roundw
      case rel => exact ⟨k + 1, a1, c1, by omega, by go_num, rfl, hl2, Lib.hid s1, Lib.hid z1, Lib.hid (r1.mono HBA.out.size), Lib.hid hB1⟩
      case measure => simp [intOf]; omega
    · obtain rfl : k = n := by omega
      go_wp2_with fail
      go_ret
      rw [← HX.out]
      exact ⟨a, c, rfl, HSl.out, HZ.out, HR.out, HBe.out⟩
end Go.Proofs.YtiglekomfgfilaaGreatDoor

/- A []byte that the call itself has made and appends to: what it holds. -/
namespace Go.Proofs.YtiglekomfgfilaaGreatDoor
set_option linter.all false
open Go.RowKit
def RowB (w : World) (base : Nat) (v : Value) (l : List UInt8) : Prop :=
  (∃ a cap, v = .slice a l.length cap) ∧ w.ownsRow base 5 1 v l.length (l.map fun c => Value.int .u8 (c.toNat : Int))
theorem RowB.nil (w : World) (base : Nat) : RowB w base (.slice none 0 0) [] := ⟨⟨none, 0, rfl⟩, World.ownsRow_nil _ _ _ _⟩
theorem RowB.of {w : World} {base : Nat} {v : Value} {l : List UInt8} {xs : List Value} {n : Nat} (h : w.ownsRow base 5 1 v n xs) (hn : n = l.length) (hx : xs = l.map fun c => Value.int .u8 (c.toNat : Int)) : RowB w base v l := by
  subst hn hx
  refine ⟨?_, h⟩
  rcases h.2 with ⟨e, e2⟩ | ⟨g, cap, cur, e, _⟩
  · exact ⟨none, 0, by rw [e, e2]⟩
  · exact ⟨_, _, e⟩
theorem RowB.own {w : World} {base : Nat} {v : Value} {l : List UInt8} (h : RowB w base v l) : w.ownsRow base 5 1 v l.length (l.map fun c => Value.int .u8 (c.toNat : Int)) := h.2
theorem RowB.shape {w : World} {base : Nat} {v : Value} {l : List UInt8} (h : RowB w base v l) : ∃ a cap, v = .slice a l.length cap := h.1
theorem RowB.some {w : World} {base : Nat} {v : Value} {l : List UInt8} (h : RowB w base v l) (hl : 0 < l.length) : ∃ g cap, v = .slice (some ⟨g, 0, none⟩) l.length cap ∧ base ≤ g ∧ g < w.heap.size := by
  rcases h.2.2 with ⟨e, e2⟩ | ⟨g, cap, cur, e, hb, hh, _⟩
  · omega
  · exact ⟨g, cap, e, hb, (Array.getElem?_eq_some_iff.1 hh).1⟩
theorem RowB.string {w : World} {base : Nat} {a : Option Addr} {cap : Nat} {l : List UInt8} (h : RowB w base (.slice a l.length cap) l) (hl : 0 < l.length) :
    (convert 110 9 (.slice a l.length cap)).run Tryz.prog w = .ok (.string ⟨l.toArray⟩) w := by
  obtain ⟨g, cap', e, _, _⟩ := h.some hl
  simp only [Value.slice.injEq] at e
  obtain ⟨rfl, _, rfl⟩ := e
  refine run_convert_bytes_back w _ _ 5 ⟨g, 0, none⟩ cap l Tryz.underlying110 Tryz.underlying5 Tryz.underlying9 ?_
  intro j hj
  have := h.2.cellAt j (by omega)
  have ha : (⟨g, 0, none⟩ : Addr).add j = ⟨g, j, none⟩ := by
    unfold Addr.add
    split
    · rename_i e; subst e; rfl
    · simp
  rw [ha, this]; simp [hj]
theorem Tryz.infoU8 : (Tryz.prog.info? 5).map (fun i => (i.zero, i.size, i.bytes)) = some (some (.int .u8 0), 1, 1) := by kernel_rfl
end Go.Proofs.YtiglekomfgfilaaGreatDoor
