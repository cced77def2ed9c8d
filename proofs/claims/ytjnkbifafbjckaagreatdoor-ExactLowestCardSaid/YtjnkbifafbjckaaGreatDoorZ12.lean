/- Plain Lean: long division, one limb of the quotient at a time (Knuth). -/
import Derived.Test.YtjnkbifafbjckaaGreatDoorZ7
import Derived.Test.YtjnkbifafbjckaaGreatDoorZ11
import Derived.Test.YtjnkbifafbjckaaGreatDoorZ9
import Derived.Outline
import Derived.Deep.RegionWith
import Derived.Test.YtjnkbifafbjckaaGreatDoorZ1
import Derived.Laws.AppendOwn
import Derived.Laws.OwnMore
import Derived.Laws.AppendOwnNone
namespace Go.Proofs.YtjnkbifafbjckaaGreatDoor.Na
set_option linter.all false
open Go

/-- A dividend of a step and the divisor, by their first limbs. -/
structure Kn (U V W top u2 U' v1 v2 V' : Nat) : Prop where
  hU : U = (top * B + u2) * W + U'
  hV : V = (v1 * B + v2) * W + V'
  lU : U' < W
  lV : V' < W
  lu : u2 < B
  lv : v2 < B
  pv : 0 < v1
  lt : U < V * B

section
variable {U V W top u2 U' v1 v2 V' : Nat} (h : Kn U V W top u2 U' v1 v2 V')
include h

theorem Kn.posW : 0 < W := by have := h.lU; omega
theorem Kn.ltU : U < top * (B * W) + B * W := by
  have h1 := Nat.mul_le_mul_right W (show u2 + 1 ≤ B from h.lu)
  have h2 := h.hU
  rw [Nat.add_mul, Nat.one_mul] at h1
  rw [Nat.add_mul, Nat.mul_assoc] at h2
  have := h.lU
  omega
theorem Kn.leV : v1 * (B * W) ≤ V := by
  have h2 := h.hV
  rw [Nat.add_mul, Nat.mul_assoc] at h2
  omega
theorem Kn.posV : 0 < V := by
  have h1 := h.leV
  have h2 : 0 < v1 * (B * W) := Nat.mul_pos h.pv (Nat.mul_pos (by decide) h.posW)
  omega
theorem Kn.leV1 : B * W ≤ V := by
  have h1 := h.leV
  have h2 := Nat.mul_le_mul_right (B * W) (show 1 ≤ v1 from h.pv)
  omega
theorem Kn.start : U / V ≤ top / v1 := by
  rw [Nat.le_div_iff_mul_le h.pv]
  rcases Nat.lt_or_ge top (U / V * v1) with h1 | h1
  · exfalso
    have h2 := Nat.mul_le_mul_right (B * W) (show top + 1 ≤ U / V * v1 from h1)
    rw [Nat.add_mul, Nat.one_mul, Nat.mul_assoc] at h2
    have h3 := Nat.mul_le_mul_left (U / V) h.leV
    have h4 := Nat.div_mul_le_self U V
    have h5 := h.ltU
    omega
  · exact h1
theorem Kn.ltB : U / V < B := by
  rw [Nat.div_lt_iff_lt_mul h.posV, Nat.mul_comm]; exact h.lt
/-- A guess that the test finds too great. -/
theorem Kn.down {d r : Nat} (hd : d * v1 + r = top) (hq : U / V ≤ d) (ht : B ≤ d ∨ r * B + u2 < d * v2) : 0 < d ∧ U / V ≤ d - 1 ∧ (d - 1) * v1 + (r + v1) = top := by
  have h1 : U / V < d := by
    rcases ht with ht | ht
    · have := h.ltB; omega
    · rw [Nat.div_lt_iff_lt_mul h.posV, Nat.mul_comm]
      have e : d * (v1 * B + v2) = d * v1 * B + d * v2 := by rw [Nat.mul_add, Nat.mul_assoc]
      have e2 : top * B = d * v1 * B + r * B := by rw [← hd, Nat.add_mul]
      have h2 : top * B + u2 + 1 ≤ d * (v1 * B + v2) := by omega
      have h3 := Nat.mul_le_mul_right W h2
      rw [Nat.add_mul, Nat.one_mul, Nat.mul_assoc] at h3
      have h4 : d * ((v1 * B + v2) * W) ≤ d * V := Nat.mul_le_mul_left d (by rw [h.hV]; omega)
      have := h.hU
      have := h.lU
      rw [Nat.mul_comm V d]
      omega
  have h0 := Nat.zero_le (U / V)
  refine ⟨by omega, by omega, ?_⟩
  obtain ⟨k, rfl⟩ : ∃ k, d = k + 1 := ⟨d - 1, by omega⟩
  rw [Nat.add_sub_cancel]
  rw [Nat.add_mul, Nat.one_mul] at hd
  omega
theorem Kn.close {d : Nat} (hd : d < B) (ht : d * (v1 * B + v2) ≤ top * B + u2) : d * V < U + V := by
  have h1 := Nat.mul_le_mul_right W ht
  rw [Nat.mul_assoc] at h1
  have h2 : d * V = d * ((v1 * B + v2) * W) + d * V' := by rw [h.hV, Nat.mul_add]
  have h3 : d * V' ≤ d * W := Nat.mul_le_mul_left d (Nat.le_of_lt h.lV)
  have h4 : d * W + W ≤ B * W := by
    have := Nat.mul_le_mul_right W (show d + 1 ≤ B from hd)
    rwa [Nat.add_mul, Nat.one_mul] at this
  have h5 := h.leV1
  have h6 := h.hU
  have := h.posW
  omega
/-- A guess that the test lets by. -/
theorem Kn.stop {d r : Nat} (hd : d * v1 + r = top) (hB : d < B) (ht : d * v2 ≤ r * B + u2) : d * V < U + V := by
  refine h.close hB ?_
  have e : d * (v1 * B + v2) = d * v1 * B + d * v2 := by rw [Nat.mul_add, Nat.mul_assoc]
  have e2 : top * B = d * v1 * B + r * B := by rw [← hd, Nat.add_mul]
  omega
theorem Kn.top_le : top ≤ v1 * B + v2 := by
  rcases Nat.lt_or_ge (v1 * B + v2) top with h1 | h1
  · exfalso
    have h2 := Nat.mul_le_mul_right (B * W) (show v1 * B + v2 + 1 ≤ top from h1)
    have h3 : top * (B * W) ≤ U := by
      have := h.hU
      rw [Nat.add_mul, Nat.mul_assoc] at this
      omega
    have h4 : V * B ≤ (v1 * B + v2 + 1) * (B * W) := by
      have : V ≤ (v1 * B + v2 + 1) * W := by
        rw [Nat.add_mul (v1 * B + v2), Nat.one_mul]
        have := h.hV; have := h.lV; omega
      have := Nat.mul_le_mul_right B this
      rw [Nat.mul_assoc, Nat.mul_comm W B] at this
      exact this
    have := h.lt
    omega
  · exact h1
/-- A guess whose rest is a limb too great for a test. -/
theorem Kn.broke {d r : Nat} (hd : d * v1 + r = top) (hr : B ≤ r) : d < B ∧ d * V < U + V := by
  have h1 := h.top_le
  have h2 := h.lv
  have hB : d < B := by
    rcases Nat.lt_or_ge d B with h3 | h3
    · exact h3
    · have := Nat.mul_le_mul_right v1 h3
      rw [Nat.mul_comm B v1] at this
      omega
  refine ⟨hB, h.close hB ?_⟩
  have e : d * (v1 * B + v2) = d * v1 * B + d * v2 := by rw [Nat.mul_add, Nat.mul_assoc]
  have e2 : top * B = d * v1 * B + r * B := by rw [← hd, Nat.add_mul]
  have e3 : d * v2 ≤ d * B := Nat.mul_le_mul_left d (Nat.le_of_lt h2)
  have e4 := Nat.mul_le_mul_right B (Nat.le_of_lt hB)
  have e5 := Nat.mul_le_mul_right B hr
  omega
end

/-- What is taken away, and given back: N the limbs' reach, br the borrow. -/
theorem kn_taken {U V d N o br : Nat} (hV : 0 < V) (hN : V ≤ N) (hq : U / V ≤ d) (hd : d * V < U + V) (ho : o < N) (h : U + N * br = o + d * V) (hb : br ≤ 1) :
    (br = 0 → o = U % V ∧ d = U / V) ∧ (br = 1 → ∀ o2 c, o2 < N → o2 + N * c = o + V → o2 = U % V ∧ 0 < d ∧ d - 1 = U / V) := by
  have hm := Nat.div_add_mod U V
  have hl := Nat.mod_lt U hV
  have hd2 : d ≤ U / V + 1 := by
    have : d - 1 < U / V + 1 ∨ d = 0 := by
      rcases Nat.eq_zero_or_pos d with h0 | h0
      · exact Or.inr h0
      · left
        obtain ⟨k, rfl⟩ : ∃ k, d = k + 1 := ⟨d - 1, by omega⟩
        rw [Nat.add_mul, Nat.one_mul] at hd
        have : k ≤ U / V := by rw [Nat.le_div_iff_mul_le hV]; omega
        omega
    have h0 := Nat.zero_le (U / V)
    omega
  constructor
  · rintro rfl
    rw [Nat.mul_zero, Nat.add_zero] at h
    have h1 : d ≤ U / V := by rw [Nat.le_div_iff_mul_le hV]; omega
    have h2 : d = U / V := by omega
    subst h2
    rw [Nat.mul_comm] at hm
    exact ⟨by omega, rfl⟩
  · rintro rfl o2 c ho2 hc
    rw [Nat.mul_one] at h
    have h1 : U / V < d := by
      rw [Nat.div_lt_iff_lt_mul hV, Nat.mul_comm]
      rw [Nat.mul_comm V d]; omega
    have h2 : d = U / V + 1 := by omega
    rw [h2, Nat.add_mul, Nat.one_mul, Nat.mul_comm (U / V) V] at h
    have h3 : N * c + o2 = N * 1 + U % V := by omega
    have h4 : c = 1 := by
      have hr : U % V < N := by omega
      have a1 : (N * c + o2) / N = c := by rw [Nat.mul_add_div (by omega), Nat.div_eq_of_lt ho2]; omega
      have a2 : (N * 1 + U % V) / N = 1 := by rw [Nat.mul_add_div (by omega), Nat.div_eq_of_lt hr]
      rw [← a1, h3, a2]
    subst h4
    exact ⟨by omega, by rw [h2]; exact Nat.succ_pos _, by rw [h2]; rfl⟩

/-- One limb of takes: p = d times a limb, c what is carried, b what is borrowed. -/
theorem takes_limb (x p c b : Nat) (hx : x < 4294967296) (hp : p ≤ 18446744065119617025) (hc : c < 4294967296) (hb : b ≤ 1) :
    ∃ o b2, o < 4294967296 ∧ b2 ≤ 1 ∧ p / 4294967296 + (p % 4294967296 + c) / 4294967296 < 4294967296 ∧ ((x : Int) - ((p % 4294967296 + c) % 4294967296 : Nat) - b) % 18446744073709551616 % 4294967296 = (o : Int) ∧ ((x : Int) - ((p % 4294967296 + c) % 4294967296 : Nat) - b) % 18446744073709551616 / 9223372036854775808 = (b2 : Int) ∧
    x + 4294967296 * (p / 4294967296 + (p % 4294967296 + c) / 4294967296 + b2) = o + (p + c + b) := by
  rcases Nat.lt_or_ge x ((p % 4294967296 + c) % 4294967296 + b) with h | h
  · exact ⟨x + 4294967296 - (p % 4294967296 + c) % 4294967296 - b, 1, by omega, by omega, by omega, by omega, by omega, by omega⟩
  · exact ⟨x - (p % 4294967296 + c) % 4294967296 - b, 0, by omega, by omega, by omega, by omega, by omega, by omega⟩
/-- .. in the numbers: off the list's part from off on, o as it stands, q the divisor, d the factor. -/
theorem takes_step (O o q : List Nat) (off d k x y c b c2 b2 v : Nat) (hk : off + k < o.length) (hOk : (O.drop off).take (k + 1) = (O.drop off).take k ++ [x])
    (inv : val ((O.drop off).take k) + B ^ k * (c + b) = val ((o.drop off).take k) + d * val (q.take k)) (hq : val (q.take (k + 1)) = val (q.take k) + B ^ k * y)
    (hl : (O.drop off).length ≥ k + 1) (he : x + B * (c2 + b2) = v + (d * y + c + b)) :
    val ((O.drop off).take (k + 1)) + B ^ (k + 1) * (c2 + b2) = val (((o.set (off + k) v).drop off).take (k + 1)) + d * val (q.take (k + 1)) := by
  rw [drop_set, val_set_take _ k _ (by rw [List.length_drop]; omega), hq, hOk, val_app, Nat.pow_succ, List.length_take, Nat.min_eq_left (by omega)]
  have h1 := congrArg (B ^ k * ·) he
  simp only [Nat.mul_add] at h1
  simp only [val, Nat.mul_zero, Nat.add_zero]
  have h2 : d * (B ^ k * y) = B ^ k * (d * y) := by rw [Nat.mul_left_comm]
  have h3 : B ^ k * B * (c2 + b2) = B ^ k * (B * c2) + B ^ k * (B * b2) := by rw [Nat.mul_assoc, Nat.mul_add, Nat.mul_add]
  rw [Nat.mul_add d, h2, h3]
  rw [Nat.mul_add] at inv
  omega
end Go.Proofs.YtjnkbifafbjckaaGreatDoor.Na

/- takes. -/
namespace Go.Proofs.YtjnkbifafbjckaaGreatDoor
set_option linter.all false
open Go.RowKit

theorem Blk.onl {w w' : World} {g k : Nat} {o : List Nat} (h : Blk w k o) (hb : Onl g w w') (hk : k ≠ g) : Blk w' k o := (hb.block k hk h.lt).trans h

theorem Na.takes_limb2 (x lo hi cc b l2 : Nat) (hx : x < 4294967296) (hlo : lo < 4294967296) (hhi : hi ≤ 4294967294) (hc : cc < 4294967296) (hb : b ≤ 1) (hl2 : l2 = (lo + cc) % 4294967296) :
    ∃ o b2 c2 : Nat, o < 4294967296 ∧ b2 ≤ 1 ∧ c2 < 4294967296 ∧ (hi : Int) + ((lo : Int) + cc) / 4294967296 = (c2 : Int) ∧ (((x : Int) - l2) % 18446744073709551616 - b) % 18446744073709551616 % 4294967296 = (o : Int) ∧ (((x : Int) - l2) % 18446744073709551616 - b) % 18446744073709551616 / 9223372036854775808 = (b2 : Int) ∧
    x + Na.B * (c2 + b2) = o + (hi * 4294967296 + lo + cc + b) ∧ (hi = 0 → lo = 0 → c2 = 0) := by
  show ∃ o b2 c2 : Nat, o < 4294967296 ∧ b2 ≤ 1 ∧ c2 < 4294967296 ∧ (hi : Int) + ((lo : Int) + cc) / 4294967296 = (c2 : Int) ∧ (((x : Int) - l2) % 18446744073709551616 - b) % 18446744073709551616 % 4294967296 = (o : Int) ∧ (((x : Int) - l2) % 18446744073709551616 - b) % 18446744073709551616 / 9223372036854775808 = (b2 : Int) ∧
    x + 4294967296 * (c2 + b2) = o + (hi * 4294967296 + lo + cc + b) ∧ (hi = 0 → lo = 0 → c2 = 0)
  rcases Nat.lt_or_ge x (l2 + b) with h | h
  · exact ⟨x + 4294967296 - l2 - b, 1, hi + (lo + cc) / 4294967296, by omega, by omega, by omega, by omega, by omega, by omega, by omega, by omega⟩
  · exact ⟨x - l2 - b, 0, hi + (lo + cc) / 4294967296, by omega, by omega, by omega, by omega, by omega, by omega, by omega, by omega⟩
theorem Na.and32 (a : Nat) (ha : a < 18446744073709551616) : bits BinOp.and IntKind.u64 (a : Int) 4294967295 = ((a % 4294967296 : Nat) : Int) := by
  have h := bits_and_u64_nat a 4294967295 ha (by decide)
  rw [show (4294967295 : Nat) = 2 ^ 32 - 1 from rfl, Nat.and_two_pow_sub_one_eq_mod] at h
  exact h

theorem Na.drop_set_more {O o : List Nat} {i v : Nat} (h : o.drop i = O.drop i) : (o.set i v).drop (i + 1) = O.drop (i + 1) := by
  rw [List.drop_set, if_pos (by omega)]
  have := congrArg (List.drop 1) h
  rwa [List.drop_drop, List.drop_drop] at this

def takesLoop (N off g d : Nat) (O q : List Nat) (w : World) (cv bv iv : Value) (wr : World) : Prop := ∃ (k c b : Nat) (o : List Nat), k ≤ N ∧ iv = .int .i64 k ∧ cv = .int .u64 c ∧ bv = .int .u64 b ∧ c < 4294967296 ∧ b ≤ 1 ∧ Hid (Blk wr g o) ∧ Hid (o.length = O.length) ∧ Hid (Na.OK o) ∧
  Hid (o.take off = O.take off) ∧ Hid (o.drop (off + k) = O.drop (off + k)) ∧ Hid (q.length < k → c = 0) ∧ Hid (Na.val ((O.drop off).take k) + Na.B ^ k * (c + b) = Na.val ((o.drop off).take k) + d * Na.val (q.take k)) ∧ Hid (Onl g w wr)

def TakesR (N off g d : Nat) (O q : List Nat) (w : World) (e : Ending) (w' : World) : Prop := ∃ br, br ≤ 1 ∧ e = .returned (.bool (decide (0 < br))) ∧ Onl g w w' ∧ ∃ o, Blk w' g o ∧ o.length = O.length ∧ Na.OK o ∧ o.take off = O.take off ∧ o.drop (off + N) = O.drop (off + N) ∧
  Na.val ((O.drop off).take N) + Na.B ^ N * br = Na.val ((o.drop off).take N) + d * Na.val q

set_option maxHeartbeats 2000000 in
theorem na_takes_any (g gv off N c ca d : Nat) (O q : List Nat) (w : World) (hb : Blk w g O) (hok : Na.OK O) (hl : off + N ≤ O.length) (hv : Blk w gv q) (hvk : Na.OK q) (hne : gv ≠ g) (hqN : q.length < N) (hd : d < 4294967296) (hN : off + N ≤ 1000000) :
    Calls Tryz.prog 240 #[.slice (some ⟨g, off, none⟩) N c, .slice (some ⟨gv, 0, none⟩) q.length ca, .int .u64 d] w (TakesR N off g d O q w) := by
  have HB0 := Lib.hid hb; have HO0 := Lib.hid hok; have HL0 := Lib.hid hl; have HV := Lib.hid hv; have HVK := Lib.hid hvk; have HNE := Lib.hid hne
  clear hb hok hl hv hvk hne
  go_enter Tryz.func240, Tryz.ntmps240
  go_wp2_with fail
  go_loopw [7, 8, 15] (takesLoop N off g d O q w) (fun _ _ i _ => N - (intOf i).toNat)
  case atStart => exact ⟨0, 0, 0, O, Nat.zero_le _, rfl, rfl, rfl, by omega, by omega, HB0, Lib.hid rfl, HO0, Lib.hid rfl, Lib.hid rfl, Lib.hid (fun _ => rfl), Lib.hid (by simp [Na.val]), Lib.hid (Onl.refl _ _)⟩
  case round =>
    obtain ⟨k, cc, b, o, hk, rfl, rfl, rfl, hcc, hb1, HBl, HOl, HOk, HTk, HDr, HZ, HInv, HBe⟩ := hrel
    by_cases hlt : k < N
    · have hO1 : off + k < O.length := by have := HL0.out; omega
      have ho1 : off + k < o.length := by rw [HOl.out]; exact hO1
      have co := HBl.out.cell (off + k) ho1
      have fo := HBl.out.frozen (off + k)
      have hxl : O[off + k]'hO1 < 4294967296 := HO0.out _ (List.getElem_mem hO1)
      have HOx := Lib.hid (show (O.drop off).take (k + 1) = (O.drop off).take k ++ [O[off + k]'hO1] by
        rw [List.take_succ_eq_append_getElem (by rw [List.length_drop]; omega), List.getElem_drop])
      obtain ⟨x, hxe⟩ : ∃ x, O[off + k]'hO1 = x := ⟨_, rfl⟩
      rw [Na.drop_get HDr.out (Nat.le_refl _) ho1 hO1] at co
      rw [hxe] at co hxl HOx
      clear hxe
      by_cases hlq : k < q.length
      · have hv2 := HV.out.onl HBe.out HNE.out
        have c1 := hv2.cell k hlq
        have hyl : q[k]'hlq < 4294967296 := HVK.out _ (List.getElem_mem hlq)
        have VQ := Lib.hid (Na.val_take_succ q k hlq)
        obtain ⟨y, hye⟩ : ∃ x, q[k]'hlq = x := ⟨_, rfl⟩
        rw [hye] at c1 hyl VQ
        have hp := (Na.prod_le d y 0 0 hd hyl (by omega) (by omega)).1
        have hdp : (d : Int) * (y : Int) = ((d * y : Nat) : Int) := by simp
        obtain ⟨p, hpe⟩ : ∃ p, p = d * y := ⟨_, rfl⟩
        rw [← hpe] at hp hdp
        obtain ⟨hi, hhi⟩ : ∃ h, h = p / 4294967296 := ⟨_, rfl⟩
        obtain ⟨lo, hlo⟩ : ∃ h, h = p % 4294967296 := ⟨_, rfl⟩
        obtain ⟨l2, hl2⟩ : ∃ h, h = (lo + cc) % 4294967296 := ⟨_, rfl⟩
        have hand1 := Na.and32 p (by omega)
        rw [← hlo] at hand1
        have hdiv : (p : Int) / 4294967296 = (hi : Int) := by omega
        have hlo2 : lo < 4294967296 := by omega
        have hhi2 : hi ≤ 4294967294 := by omega
        have hand2 := Na.and32 (lo + cc) (by omega)
        rw [← hl2, show ((lo + cc : Nat) : Int) = (lo : Int) + (cc : Int) by simp] at hand2
        have hl22 : l2 < 4294967296 := by omega
        obtain ⟨z, b2, c2, hz, hb2, hc2, e1, e2, e3, he, he0⟩ := Na.takes_limb2 x lo hi cc b l2 hxl hlo2 hhi2 hcc hb1 hl2
        have hpp : hi * 4294967296 + lo = d * y := by rw [← hpe]; omega
        rw [hpp] at he
        have HS := Lib.hid (Na.takes_step O o q off d k x y cc b c2 b2 z ho1 HOx.out HInv.out VQ.out (by rw [List.length_drop]; omega) he)
        have E1 := Lib.hid e1; have E2 := Lib.hid e2; have E3 := Lib.hid e3
        clear hye hv2 hpe hhi hlo hl2 hpp he he0 e1 e2 e3 HInv
        go_wp2_with fail
        go_roundw
        case rel =>
          rw [IntKind.wrap_u64, IntKind.wrap_u64, E1.out, E2.out, E3.out]
          exact ⟨k + 1, c2, b2, o.set (off + k) z, by omega, by go_num, rfl, rfl, hc2, hb2, Lib.hid (HBl.out.set _ _), Lib.hid (by rw [List.length_set]; exact HOl.out), Lib.hid (Na.ok_set HOk.out _ _ hz), Lib.hid (by rw [List.take_set_of_le (by omega)]; exact HTk.out), Lib.hid (Na.drop_set_more HDr.out), Lib.hid (fun h => absurd h (by omega)), HS, Lib.hid (HBe.out.setCell _ _)⟩
        case measure => simp [intOf]; omega
      · have VQ := Lib.hid (Na.take_more q k (by omega))
        obtain ⟨z, b2, c2, hz, hb2, hc2, e1, e2, e3, he, he0⟩ := Na.takes_limb2 x 0 0 cc b cc hxl (by omega) (by omega) hcc hb1 (by omega)
        obtain rfl : c2 = 0 := he0 rfl rfl
        have HS := Lib.hid (Na.takes_step O o q off d k x 0 cc b 0 b2 z ho1 HOx.out HInv.out VQ.out (by rw [List.length_drop]; omega) (by rw [he]; omega))
        have hand1 : bits BinOp.and IntKind.u64 0 4294967295 = 0 := by decide
        have hand2 := Na.and32 cc (by omega)
        rw [Nat.mod_eq_of_lt hcc] at hand2
        have hcd : (cc : Int) / 4294967296 = 0 := by omega
        have E2 := Lib.hid e2; have E3 := Lib.hid e3
        clear he he0 e1 e2 e3 HInv
        go_wp2_with fail
        go_roundw
        case rel =>
          rw [IntKind.wrap_u64, IntKind.wrap_u64, E2.out, E3.out]
          exact ⟨k + 1, 0, b2, o.set (off + k) z, by omega, by go_num, rfl, rfl, by omega, hb2, Lib.hid (HBl.out.set _ _), Lib.hid (by rw [List.length_set]; exact HOl.out), Lib.hid (Na.ok_set HOk.out _ _ hz), Lib.hid (by rw [List.take_set_of_le (by omega)]; exact HTk.out), Lib.hid (Na.drop_set_more HDr.out), Lib.hid (fun _ => rfl), HS, Lib.hid (HBe.out.setCell _ _)⟩
        case measure => simp [intOf]; omega
    · obtain rfl : k = N := by omega
      have HE := Lib.hid (show Na.val ((O.drop off).take k) + Na.B ^ k * b = Na.val ((o.drop off).take k) + d * Na.val q by
        have h1 := HInv.out
        have h2 := HZ.out hqN
        rw [h2, Nat.zero_add, List.take_of_length_le (l := q) (by omega)] at h1
        exact h1)
      go_wp2_with fail
      go_ret
      exact ⟨b, hb1, by simp, HBe.out, o, HBl.out, HOl.out, HOk.out, HTk.out, HDr.out, HE.out⟩
end Go.Proofs.YtjnkbifafbjckaaGreatDoor

/- exact.times; the closure that takes a nearer fraction. -/
namespace Go.Proofs.YtjnkbifafbjckaaGreatDoor
set_option linter.all false
open Go.RowKit
attribute [local go_sem high] tr_guard tr_neq tr_eql

/-- Numbers of at most 60 limbs: all that is reckoned here. -/
theorem Fl.mul_small {n k : Nat} (hn : n < Na.B ^ 60) (hk : k < Na.B ^ 2) : Na.mul (Na.limbs n) (Na.limbs k) = (Na.limbs (n * k), 0) ∧ n * k < Na.B ^ 62 := by
  have h1 := Na.limbs_len_le _ _ hn
  have h2 := Na.limbs_len_le _ _ hk
  have h3 : n * k < Na.B ^ 62 := by
    rw [show 62 = 60 + 2 from rfl, Nat.pow_add]
    exact Nat.mul_lt_mul_of_lt_of_le hn (Nat.le_of_lt hk) (Nat.pow_pos (by decide))
  have h4 := Na.limbs_len_le _ _ h3
  refine ⟨?_, h3⟩
  rw [Na.mul, Na.big, Na.big, Na.rt_limbs, Na.rt_limbs, decide_eq_false (by omega), decide_eq_false (by omega), if_neg (by simp), Na.val_limbs, Na.val_limbs, Na.fits, if_neg (by omega)]

set_option maxHeartbeats 1000000 in
theorem ex_times_any (a : Option Addr) (c n k : Nat) (w : World) (h : Sl w a c (Na.limbs n)) (hn : n < Na.B ^ 60) (hk : k ≤ 100000) :
    Calls Tryz.prog 86 #[.slice a (Na.limbs n).length c, .int .i64 k] w (GivesN (Na.limbs (n * k)) w) := by
  have hk2 : k < Na.B ^ 2 := Nat.lt_of_le_of_lt hk (by decide)
  have hln := Na.limbs_len_le _ _ hn
  have hlk := Na.limbs_len_le _ _ hk2
  have HO := Lib.hid (na_of_any k (by omega) w)
  have HM := Lib.hid (fun w1 g (hs : Sl w1 a c (Na.limbs n)) (hk : Blk w1 g (Na.limbs k)) => (by
    have := na_mul_any a c (Na.limbs n) (some ⟨g, 0, none⟩) (Na.limbs k).length (Na.limbs k) w1 hs (hk.sl (Na.ok_limbs k) (Nat.le_refl _)) (by omega) (by omega)
    rw [(Fl.mul_small hn hk2).1] at this
    exact this : Calls Tryz.prog 132 #[.slice a (Na.limbs n).length c, .slice (some ⟨g, 0, none⟩) (Na.limbs k).length (Na.limbs k).length] w1 (GivesE (Na.limbs (n * k), 0) w1)))
  have H := Lib.hid h
  clear h
  go_enter Tryz.func86, Tryz.ntmps86
  go_wp2_with (first
    | (go_at_call 72; (with_reducible refine (HO.out).mono ?_); rintro e w1 ⟨g, rfl, hg, hk, hb1⟩)
    | (go_at_call 132; (with_reducible refine (HM.out _ _ (H.out.on hb1) hk).mono ?_); rintro e w2 ⟨a2, c2, rfl, s2, o2, hb2⟩))
  go_ret
  exact ⟨a2, c2, rfl, s2, fun h0 => by obtain ⟨b', o', e, hb', hf⟩ := o2 h0; exact ⟨b', o', e, Nat.le_trans hb1.size hb', hf⟩, hb1.trans (hb2.mono hb1.size)⟩

/-- Of the blocks that were there only two may have turned. -/
structure Two (g h : Nat) (w w' : World) : Prop where
  size : w.heap.size ≤ w'.heap.size
  os : w'.os = w.os
  tape : w'.tape = w.tape
  output : w'.output = w.output
  block : ∀ k, k ≠ g → k ≠ h → k < w.heap.size → w'.heap[k]? = w.heap[k]?
theorem Two.refl (g h : Nat) (w : World) : Two g h w w := ⟨Nat.le_refl _, rfl, rfl, rfl, fun _ _ _ _ => rfl⟩
theorem Two.trans {g h : Nat} {a b c : World} (x : Two g h a b) (y : Two g h b c) : Two g h a c :=
  ⟨Nat.le_trans x.size y.size, y.os.trans x.os, y.tape.trans x.tape, y.output.trans x.output, fun k h1 h2 hk => (y.block k h1 h2 (Nat.lt_of_lt_of_le hk x.size)).trans (x.block k h1 h2 hk)⟩
theorem Two.of {g h : Nat} {w w' : World} (hb : Below w.heap.size w w') : Two g h w w' := ⟨hb.size, hb.os, hb.tape, hb.output, fun k _ _ hk => hb.block k hk⟩
theorem Two.below {g h B : Nat} {w w' : World} (x : Two g h w w') (hg : B ≤ g) (hh : B ≤ h) (hB : B ≤ w.heap.size) : Below B w w' := ⟨x.os, x.tape, x.output, x.size, fun k hk => x.block k (by omega) (by omega) (by omega)⟩
theorem Two.setL {g h : Nat} {w w' : World} (x : Two g h w w') (o : Nat) (u : Value) : Two g h w (w'.setCell ⟨g, o, none⟩ u) :=
  x.trans ⟨by simp, rfl, rfl, rfl, fun k h1 _ _ => Below.heap_setCell _ _ _ _ h1⟩
theorem Two.setR {g h : Nat} {w w' : World} (x : Two g h w w') (o : Nat) (u : Value) : Two g h w (w'.setCell ⟨h, o, none⟩ u) :=
  x.trans ⟨by simp, rfl, rfl, rfl, fun k _ h2 _ => Below.heap_setCell _ _ _ _ h2⟩
/-- Where anything is in it, the slice lies in none of two blocks. -/
def Off (a : Option Addr) (n g h : Nat) : Prop := 0 < n → ∀ ad, a = some ad → ad.block ≠ g ∧ ad.block ≠ h
theorem Off.own {w : World} {B n g h : Nat} {a : Option Addr} (o : Own w B a n) (hg : g < B) (hh : h < B) : Off a n g h := fun hn ad e => by
  obtain ⟨b, o', e2, hb, _⟩ := o hn
  rw [e] at e2; cases e2
  exact ⟨by show b ≠ g; omega, by show b ≠ h; omega⟩
theorem Off.below {w : World} {n c g h : Nat} {a : Option Addr} {l : List Nat} (s : Sl w a c l) (hl : n = l.length) (hg : w.heap.size ≤ g) (hh : w.heap.size ≤ h) : Off a n g h := fun hn ad e => by
  obtain ⟨b, o', e2, hb, _⟩ := s.plain (by omega)
  rw [e] at e2; cases e2
  exact ⟨by show b ≠ g; omega, by show b ≠ h; omega⟩
theorem Sl.two {w w' : World} {g h c : Nat} {a : Option Addr} {l : List Nat} (s : Sl w a c l) (x : Two g h w w') (hn : Off a l.length g h) : Sl w' a c l where
  plain := fun h0 => by
    obtain ⟨b, o, rfl, hlt, hc⟩ := s.plain h0
    obtain ⟨n1, n2⟩ := hn h0 _ rfl
    exact ⟨b, o, rfl, Nat.lt_of_lt_of_le hlt x.size, fun k hk => by
      rw [← hc k hk]; exact World.cell?_of_block (x.block b n1 n2 hlt)⟩
  cap := s.cap
  ok := s.ok

def TrB (w : World) (g : Nat) (s t : Int) : Prop := w.heap[g]? = some (.cells #[.int .i64 s, .int .i64 t] 100 (0, 0))
def OfB (w : World) (g : Nat) (v : Value) : Prop := w.heap[g]? = some (.cells #[v] 85 (0, 0))
/-- The best fraction so far, and how far it is off. -/
def Tst (r u g h : Nat) (b : Nat × Nat) (w : World) : Prop := TrB w g b.1 b.2 ∧ ∃ a c, OfB w h (.slice a (Na.limbs (Fl.gap r u b.1 b.2)).length c) ∧ Sl w a c (Na.limbs (Fl.gap r u b.1 b.2)) ∧ Off a (Na.limbs (Fl.gap r u b.1 b.2)).length g h
theorem Tst.on {r u g h : Nat} {b : Nat × Nat} {w w' : World} (t : Tst r u g h b w) (hb : Below w.heap.size w w') : Tst r u g h b w' := by
  obtain ⟨h1, a, c, h2, h3, h4⟩ := t
  exact ⟨(hb.block g (lt_of_block h1)).trans h1, a, c, (hb.block h (lt_of_block h2)).trans h2, h3.on hb, h4⟩
theorem TrB.cells {w : World} {g : Nat} {s t : Int} (h : TrB w g s t) : w.cell? ⟨g, 0, none⟩ = some (.int .i64 s) ∧ w.cell? ⟨g, 1, none⟩ = some (.int .i64 t) ∧ (∀ o, w.frozen? ⟨g, o, none⟩ = false) ∧ g < w.heap.size := by
  unfold TrB at h
  exact ⟨by simp [World.cell?, h], by simp [World.cell?, h], fun o => by simp [World.frozen?, h], lt_of_block h⟩
theorem TrB.set {w : World} {g : Nat} {s t : Int} (h : TrB w g s t) (s' t' : Int) : TrB ((w.setCell ⟨g, 0, none⟩ (.int .i64 s')).setCell ⟨g, 1, none⟩ (.int .i64 t')) g s' t' := by
  unfold TrB at h ⊢
  have h1 := heap_setCell_same w g 0 #[Value.int .i64 s, .int .i64 t] 100 (.int .i64 s') h
  have h2 := heap_setCell_same _ g 1 _ 100 (.int .i64 t') h1
  rw [h2]; rfl

set_option maxRecDepth 100000 in
set_option maxHeartbeats 8000000 in
theorem ex_try_any (r u p q g h : Nat) (b : Nat × Nat) (ga : Option Addr) (gc : Nat) (w : World) (ht : Tst r u g h b w) (hne : g ≠ h) (hs : Sl w ga gc (Na.limbs (Fl.gap r u p q))) (hsn : Off ga (Na.limbs (Fl.gap r u p q)).length g h)
    (hg1 : Fl.gap r u p q < Na.B ^ 60) (hg2 : Fl.gap r u b.1 b.2 < Na.B ^ 60) (hq : q ≤ 100000) (hp : p ≤ 100000) (hb1 : b.1 ≤ 100000) (hb2 : b.2 ≤ 100000) :
    Calls Tryz.prog 84 #[.agg #[.int .i64 p, .int .i64 q], .slice ga (Na.limbs (Fl.gap r u p q)).length gc, .pointer (some ⟨g, 0, none⟩), .pointer (some ⟨h, 0, none⟩)] w
      (fun e w' => e = .returned (.tuple #[]) ∧ Tst r u g h (Fl.pick r u p q b) w' ∧ Two g h w w') := by
  have HTS := Lib.hid ht
  obtain ⟨h1, oa, oc, h2, h3, h4⟩ := ht
  obtain ⟨d0, d1, df, dl⟩ := h1.cells
  have e0 := cell_of_one h2
  have ef := free_of_one h2
  have el := lt_of_block h2
  have HTR := Lib.hid h1; have HOF := Lib.hid h2; have HSO := Lib.hid h3; have HNO := Lib.hid h4; have HSG := Lib.hid hs; have HNG := Lib.hid hsn
  clear h1 h2 h3 h4 hs hsn
  obtain ⟨G, hG⟩ : ∃ G, G = Fl.gap r u p q := ⟨_, rfl⟩
  obtain ⟨O, hO⟩ : ∃ G, G = Fl.gap r u b.1 b.2 := ⟨_, rfl⟩
  obtain ⟨nb, hnb⟩ : ∃ z, z = Fl.nearer r u p q b := ⟨_, rfl⟩
  have hcmp : Na.cmp (Na.limbs (G * b.2)) (Na.limbs (O * q)) < 0 ↔ nb = true := by
    rw [hnb, Fl.nearer, decide_eq_true_eq, ← hG, ← hO, Na.cmp, Na.val_limbs, Na.val_limbs]
    constructor
    · intro h
      by_cases h1 : G * b.2 < O * q
      · exact h1
      · rw [if_neg h1] at h; split at h <;> omega
    · intro h; rw [if_pos h]; decide
  have hpick : Fl.pick r u p q b = if nb = true then (p, q) else b := by rw [hnb]; rfl
  have hsame : p = b.1 → q = b.2 → nb = false := fun e1 e2 => by
    rw [hnb, Fl.nearer, ← e1, ← e2]; exact decide_eq_false (Nat.lt_irrefl _)
  obtain ⟨s, t⟩ := b
  simp only at *
  have HGE := Lib.hid hG; have HOE := Lib.hid hO
  rw [← hG] at HSG hg1 HNG ⊢
  rw [← hO] at HOF HSO e0 hg2
  have HP := Lib.hid hpick
  have HT1 := Lib.hid (fun w1 (hb : Below w.heap.size w w1) => ex_times_any ga gc G t w1 (HSG.out.on hb) hg1 (by omega))
  have HT2 := Lib.hid (fun w1 (hb : Below w.heap.size w w1) => ex_times_any oa oc O q w1 (HSO.out.on hb) hg2 (by omega))
  have l1 := Na.limbs_len_le _ _ (Fl.mul_small hg1 (show t < Na.B ^ 2 from Nat.lt_of_le_of_lt hb2 (by decide))).2
  have l2 := Na.limbs_len_le _ _ (Fl.mul_small hg2 (show q < Na.B ^ 2 from Nat.lt_of_le_of_lt hq (by decide))).2
  have hcm := fun w1 a1 c1 a2 c2 (k1 : Sl w1 a1 c1 (Na.limbs (G * t))) (k2 : Sl w1 a2 c2 (Na.limbs (O * q))) => na_cmp_any a1 c1 (Na.limbs (G * t)) a2 c2 (Na.limbs (O * q)) w1 k1 k2 (by omega) (by omega)
  obtain ⟨z, hz⟩ : ∃ z, z = Na.cmp (Na.limbs (G * t)) (Na.limbs (O * q)) := ⟨_, rfl⟩
  rw [← hz] at hcm hcmp
  have HCM := Lib.hid hcm
  clear hG hO hnb hpick hz hcm l1 l2
  by_cases heq : p = s ∧ q = t
  · obtain ⟨rfl, rfl⟩ := heq
    have hnf := hsame rfl rfl
    have HPP := Lib.hid (show Fl.pick r u p q (p, q) = (p, q) by rw [HP.out]; split <;> rfl)
    have htr : trEq (p : Int) (q : Int) (p : Int) (q : Int) = true := by simp [trEq]
    clear hcmp hsame hnf
    go_enter Tryz.func84, Tryz.ntmps84
    go_wp2_with fail
    obtain ⟨bx, hbx⟩ : ∃ z, z = w.heap.size := ⟨_, rfl⟩
    obtain ⟨X, hX⟩ : ∃ X, X = w.alloc (Obj.cells #[Value.int IntKind.i64 p, Value.int IntKind.i64 q] 100) := ⟨_, rfl⟩
    have x0 : X.cell? ⟨bx, 0, none⟩ = some (.int .i64 p) := by rw [hX, hbx]; simp [go_sem]
    have x1 : X.cell? ⟨bx, 1, none⟩ = some (.int .i64 q) := by rw [hX, hbx]; simp [go_sem]
    have hBX : Below w.heap.size w X := by rw [hX]; exact (Below.refl _ _).alloc (Nat.le_refl _) _
    have HBX := Lib.hid hBX
    replace d0 := (hBX.cell (p := ⟨g, 0, none⟩) dl).trans d0
    replace d1 := (hBX.cell (p := ⟨g, 1, none⟩) dl).trans d1
    rw [← hX, ← hbx]
    clear hX hbx
    go_quiet (fail)
    go_wp2
    refine bodyPost_end (results_none rfl _ _ _) rfl ?_
    exact ⟨rfl, by rw [HPP.out]; exact HTS.out.on (below_drewN' hBX _), Two.of (below_drewN' hBX _)⟩
  · have htr : trEq (p : Int) (q : Int) (s : Int) (t : Int) = false := by
      simp only [trEq, Bool.and_eq_false_iff, beq_eq_false_iff_ne, ne_eq]; omega
    clear hsame
    go_enter Tryz.func84, Tryz.ntmps84
    go_wp2_with fail
    obtain ⟨bx, hbx⟩ : ∃ z, z = w.heap.size := ⟨_, rfl⟩
    obtain ⟨X, hX⟩ : ∃ X, X = w.alloc (Obj.cells #[Value.int IntKind.i64 p, Value.int IntKind.i64 q] 100) := ⟨_, rfl⟩
    have x0 : X.cell? ⟨bx, 0, none⟩ = some (.int .i64 p) := by rw [hX, hbx]; simp [go_sem]
    have x1 : X.cell? ⟨bx, 1, none⟩ = some (.int .i64 q) := by rw [hX, hbx]; simp [go_sem]
    have xl : bx < X.heap.size := by rw [hX, hbx]; simp
    have hBX : Below w.heap.size w X := by rw [hX]; exact (Below.refl _ _).alloc (Nat.le_refl _) _
    have hszX := hBX.size
    have HBX := Lib.hid hBX
    replace d0 := (hBX.cell (p := ⟨g, 0, none⟩) dl).trans d0
    replace d1 := (hBX.cell (p := ⟨g, 1, none⟩) dl).trans d1
    replace e0 := (hBX.cell (p := ⟨h, 0, none⟩) el).trans e0
    replace dl : g < X.heap.size := Nat.lt_of_lt_of_le dl hszX
    replace el : h < X.heap.size := Nat.lt_of_lt_of_le el hszX
    have gx : ¬ g = bx := by rw [hbx]; have := HTR.out; have := lt_of_block this; omega
    have hx : ¬ h = bx := by rw [hbx]; have := HOF.out; have := lt_of_block this; omega
    rw [← hX, ← hbx]
    clear hX hbx
    have HZB := Lib.hid (show decide (z < 0) = nb by cases nb with | true => exact decide_eq_true (hcmp.2 rfl) | false => exact decide_eq_false (fun e => Bool.noConfusion (hcmp.1 e)))
    clear hcmp
    go_upto_region 1 with (fail)
    go_cut [20] (fun tv w' => tv = .bool nb ∧ Hid (Below X.heap.size X w'))
    case first =>
      go_region_with (first
        | (go_at_call 86; (with_reducible refine (HT1.out _ ?_).mono ?_); exact HBX.out.trans ((Below.refl _ _).drew); rintro e w1 ⟨a1, c1, rfl, s1, -, hb1⟩; have hB1 : Below X.heap.size X w1 := Below.trans ((Below.refl _ _).drew) hb1; have m0 := (hB1.cell (p := ⟨bx, 0, none⟩) xl).trans x0; have m1 := (hB1.cell (p := ⟨bx, 1, none⟩) xl).trans x1; have m2 := (hB1.cell (p := ⟨h, 0, none⟩) el).trans e0)
        | (go_at_call 86; (with_reducible refine (HT2.out _ ?_).mono ?_); exact HBX.out.trans (hB1.mono hszX); rintro e w2 ⟨a2, c2, rfl, s2, -, hb2⟩; have hB2 := hB1.trans (hb2.mono hB1.size); have s1' := s1.on hb2)
        | (go_at_call 85; (with_reducible refine (HCM.out _ _ _ _ _ s1' s2).mono ?_); rintro e w3 ⟨rfl, hb3⟩; have hB3 := hB2.trans (hb3.mono hB2.size)))
      all_goals (go_wp2; go_meet)
      all_goals exact ⟨by rw [HZB.out], Lib.hid (by have hb3 := hB3; (repeat (first | exact Below.refl _ _ | assumption | refine Below.setCell ?_ (by first | omega | (simp <;> omega)) _ | refine Below.alloc ?_ (by first | omega | (simp <;> omega)) _ | refine Below.drew ?_ | refine below_drewN' ?_ _)))⟩
    case rest => as_aux_lemma =>
      obtain ⟨rfl, HB3⟩ := hcut
      have x0' := (HB3.out.cell (p := ⟨bx, 0, none⟩) xl).trans x0
      have x1' := (HB3.out.cell (p := ⟨bx, 1, none⟩) xl).trans x1
      have tb : TrB wc g s t := (HB3.out.block g dl).trans ((HBX.out.block g (lt_of_block HTR.out)).trans HTR.out)
      have ob : OfB wc h (.slice oa (Na.limbs O).length oc) := (HB3.out.block h el).trans ((HBX.out.block h (lt_of_block HOF.out)).trans HOF.out)
      have hBW := HBX.out.trans (HB3.out.mono hszX)
      clear x0 x1 d0 d1 e0 HT1 HT2 HCM HZB
      cases nb with
      | false =>
        have HPP := Lib.hid (show Fl.pick r u p q (s, t) = (s, t) by rw [HP.out]; rfl)
        go_wp2_with fail
        refine bodyPost_end (results_none rfl _ _ _) rfl ?_
        exact ⟨rfl, by rw [HPP.out]; exact HTS.out.on hBW, Two.of hBW⟩
      | true =>
        have HPP := Lib.hid (show Fl.pick r u p q (s, t) = (p, q) by rw [HP.out]; rfl)
        obtain ⟨d0, d1, df, -⟩ := tb.cells
        have df0 := df 0; have df1 := df 1
        have e0 := cell_of_one ob
        have e1 := free_of_one ob
        have tb2 := Lib.hid (tb.set p q)
        have hobl := Lib.hid ob
        clear tb ob df
        go_wp2_with fail
        refine bodyPost_end (results_none rfl _ _ _) rfl ?_
        have tb1 := tb2.out
        obtain ⟨W1, hW1⟩ : ∃ W1, W1 = ((wc.setCell ⟨g, 0, none⟩ (.int .i64 p)).setCell ⟨g, 1, none⟩ (.int .i64 q)) := ⟨_, rfl⟩
        rw [← hW1] at tb1 ⊢
        have t1 : Two g h w W1 := by rw [hW1]; exact ((Two.of hBW).setL 0 _).setL 1 _
        have ob1 : OfB W1 h (.slice oa (Na.limbs O).length oc) := by
          rw [hW1]; exact (Below.heap_setCell _ _ _ h (Ne.symm hne)).trans ((Below.heap_setCell _ _ _ h (Ne.symm hne)).trans hobl.out)
        have t2 := t1.setR (h := h) 0 (.slice ga (Na.limbs G).length gc)
        refine ⟨rfl, ?_, t2⟩
        rw [HPP.out]
        show TrB _ g p q ∧ ∃ a c, OfB _ h (.slice a (Na.limbs (Fl.gap r u p q)).length c) ∧ Sl _ a c (Na.limbs (Fl.gap r u p q)) ∧ _
        rw [← HGE.out]
        exact ⟨(Below.heap_setCell _ _ _ g hne).trans tb1, ga, gc, one_setCell ob1, HSG.out.two t2 HNG.out, HNG.out⟩
end Go.Proofs.YtjnkbifafbjckaaGreatDoor

/- append of limbs to a list of the call's own. -/
namespace Go.Proofs.YtjnkbifafbjckaaGreatDoor
set_option linter.all false
open Go.RowKit

/-- A list of the call's own, to which may be appended. -/
def Row (w : World) (B : Nat) (v : Value) (l : List Nat) : Prop := w.ownsRow B 72 1 v l.length (u32s l)
theorem Row.sl {w : World} {B : Nat} {v : Value} {l : List Nat} (h : Row w B v l) (hok : Na.OK l) : ∃ a c, v = .slice a l.length c ∧ Sl w a c l ∧ Own w B a l.length := by
  have h0 := h
  rcases h.2 with ⟨rfl, hn⟩ | ⟨g, cap, cur, rfl, hb, hg, h1, h2, h3, h4⟩
  · obtain rfl : l = [] := List.eq_nil_of_length_eq_zero hn
    exact ⟨none, 0, rfl, Sl.nil _ _ _, Own.nil _ _ _⟩
  · refine ⟨some ⟨g, 0, none⟩, cap, rfl, ⟨fun _ => ⟨g, 0, rfl, (Array.getElem?_eq_some_iff.1 hg).1, fun k hk => ?_⟩, h1, hok⟩, fun _ => ⟨g, 0, rfl, hb, fun k _ => ?_⟩⟩
    · have := World.ownsRow.cellAt h0 k (by omega)
      rw [Nat.zero_add, this, u32s_get l k hk]
    · rw [Nat.zero_add]; exact World.ownsRow.frozenAt h0 k
theorem Row.empty (w : World) {B : Nat} (hB : B ≤ w.heap.size) : Row (w.alloc (.cells #[] 72)) B (.slice (some ⟨w.heap.size, 0, none⟩) 0 0) [] :=
  World.ownsRow_lit w #[] 0 hB (Nat.zero_le _) rfl
theorem Row.nil (w : World) (B : Nat) : Row w B (.slice none 0 0) [] := World.ownsRow_nil _ _ _ _
theorem Row.lt {w : World} {B : Nat} {v : Value} {l : List Nat} (h : Row w B v l) : ∀ k, v.ownBlock = some k → B ≤ k ∧ k < w.heap.size := World.ownsRow.lt h
theorem Row.mono {w : World} {B B' : Nat} {v : Value} {l : List Nat} (h : Row w B v l) (hB : B' ≤ B) : Row w B' v l := by
  refine ⟨h.1, h.2.imp id ?_⟩
  rintro ⟨g, cap, cur, h1, h2, h3⟩
  exact ⟨g, cap, cur, h1, by omega, h3⟩
theorem Row.alloc {w : World} {B : Nat} {v : Value} {l : List Nat} (h : Row w B v l) (o : Obj) : Row (w.alloc o) B v l := World.ownsRow.alloc h o

theorem app_u32 {w : World} {ops : Array Oper} {rest : List Oper} {o : Oper} {act : Act} {Q : Exit → Act → World → Prop} (hgd : o.guard = none) (s x : Operand) (t : TypeId) (ht : Tryz.prog.underlying t = some (.slice 72))
    (hop : o.op = .call { callee := .builtin .append, args := #[s, x], argTypes := #[t, t] }) (B : Nat) (v : Value) (l : List Nat) (hs : act.eval s = v) (hown : Row w B v l) (ad : Option Addr) (n c : Nat) (m : List Nat) (hx : act.eval x = .slice ad n c) (hn : m.length = n) (hm : Sl w ad c m)
    (hnil : ad = none → c = 0) (hlen : l.length + m.length ≤ 1000000) (hB : B ≤ w.heap.size)
    (hK : ∀ v' w', Hid (Row w' B v' (l ++ m)) → Hid (∀ B' w0, Below B' w0 w → B' ≤ B → Below B' w0 w') → wpList Tryz.prog ops Q rest (act.put o.dst v') w') : wpList Tryz.prog ops Q (o :: rest) act w := by
  subst hn
  obtain ⟨ti, hi, hz0, hz1, hz2⟩ := info_parts infoU32
  cases ad with
  | none =>
    have hm0 : m = [] := by
      rcases Nat.eq_zero_or_pos m.length with h | h
      · exact List.eq_nil_of_length_eq_zero h
      · obtain ⟨_, _, e, _⟩ := hm.plain h; cases e
    subst hm0
    obtain rfl := hnil rfl
    exact wpList_append_own_none hgd s x t hop B 72 ti 1 ht hi v l.length (u32s l) hs hown hx (hK v w (Lib.hid (by rw [List.append_nil]; exact hown)) (Lib.hid fun B' w0 hb _ => hb))
  | some a =>
    refine wpList_append_own w hgd s x t hop B 72 ti (.int .u32 0) 1 4 ht hi hz0 hz1 hz2 rfl (by decide) v l.length (u32s l) hs hown a m.length c (u32s m) hx (by rw [u32s_len]; omega) ?_ (u32s_one _) (by unfold maxLen; omega) (by omega) hB ?_
    · intro j u hu
      have hj : j < m.length := by have := (List.getElem?_eq_some_iff.1 hu).1; rwa [u32s_len] at this
      obtain ⟨ad', e, hc⟩ := hm.cells (by omega)
      cases e
      exact hc j u hu
    · intro v' w' h1 h2 _
      refine hK v' w' (Lib.hid ?_) (Lib.hid fun B' w0 hb hB' => hb.grown h2 (by omega) (fun k e => by have := (hown.lt k e).1; omega))
      show w'.ownsRow _ _ _ _ (l ++ m).length _
      rw [List.length_append, u32s, List.map_append]; exact h1
end Go.Proofs.YtjnkbifafbjckaaGreatDoor
