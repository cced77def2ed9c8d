/- Plain Lean: bits of numbers, as the walks meet them. -/
import Derived.Test.YtcdndcbfmlnpjaaGreatDoorNa2
import Derived.Laws.Bits64b
import Derived.Lib.BitFns
namespace Go.Proofs.YtcdndcbfmlnpjaaGreatDoor.Na
set_option linter.all false
open Go

theorem wrap_u64 (n : Nat) (h : n < 18446744073709551616) : IntKind.u64.wrap (n : Int) = (n : Int) := by
  rw [IntKind.wrap_u64]; omega
theorem or_shift (V x m : Nat) (h1 : V < 2 ^ m) (h2 : V + x * 2 ^ m < 18446744073709551616) : bits BinOp.or IntKind.u64 (V : Int) (IntKind.u64.wrap ((x : Int) * 2 ^ m)) = ((V + x * 2 ^ m : Nat) : Int) := by
  have e : ((x : Int) * 2 ^ m) = ((x * 2 ^ m : Nat) : Int) := by simp
  rw [e, wrap_u64 _ (by omega), bits_or_u64_nat _ _ (by omega) (by omega)]
  congr 1
  have := Nat.two_pow_add_eq_or_of_lt h1 x
  rw [Nat.or_comm, Nat.mul_comm x, ← this]; omega
theorem log2_add (r m x : Nat) (hr : r < 2 ^ m) (hx : x ≠ 0) : Nat.log2 (r + 2 ^ m * x) = m + Nat.log2 x := by
  have h0 : 0 < 2 ^ m := Nat.pow_pos (by omega)
  have hp : 0 < 2 ^ m * x := Nat.mul_pos h0 (by omega)
  rw [Nat.log2_eq_iff (by omega)]
  constructor
  · have := Nat.mul_le_mul_left (2 ^ m) (Nat.log2_self_le hx)
    rw [Nat.pow_add]; omega
  · have h1 : x + 1 ≤ 2 ^ (Nat.log2 x + 1) := Nat.lt_log2_self
    have h2 := Nat.mul_le_mul_left (2 ^ m) h1
    rw [Nat.mul_add, Nat.mul_one] at h2
    rw [show m + Nat.log2 x + 1 = m + (Nat.log2 x + 1) by omega, Nat.pow_add]; omega
theorem libBitLen (x : Nat) : x ≠ 0 → x < 2 ^ 64 → Lib.bitLen x = Nat.log2 x + 1 := by
  induction x using Nat.strongRecOn with
  | _ x ih =>
    intro h0 h
    rw [Lib.bitLen_half x h0 h]
    by_cases h1 : x / 2 = 0
    · have : x = 1 := by omega
      subst this; rfl
    · rw [ih (x / 2) (by omega) h1 (by omega), Nat.log2_def x, if_pos (by omega)]; omega
theorem bitLen_at (l q : List Nat) (hq : q = cut l) (n : Nat) (hn : q.length = n + 1) : bitLen (val l) = 32 * n + Lib.bitLen (q[n]'(by omega)) := by
  have hne : q ≠ [] := by intro e; rw [e] at hn; simp at hn
  have hv : val q = val l := by rw [hq, val_cut]
  have hok : OK q := by rw [hq]; exact ok_cut l
  have hl : q[n]'(by omega) ≠ 0 := by
    have := limbs_last (val l) (by show cut l ≠ []; rw [← hq]; exact hne)
    rw [List.getLast_eq_getElem] at this
    have e : limbs (val l) = q := hq.symm
    simp only [e] at this
    simpa [hn] using this
  have h1 := val_take_succ q n (by omega)
  rw [List.take_of_length_le (by omega), hv] at h1
  have h2 := val_lt (q.take n) (ok_take hok n)
  rw [List.length_take, show min n q.length = n by omega, show B ^ n = 2 ^ (32 * n) by rw [Nat.pow_mul]] at h2
  have hx := hok _ (List.getElem_mem (show n < q.length by omega))
  rw [show B ^ n = 2 ^ (32 * n) by rw [Nat.pow_mul]] at h1
  have hpos : val l ≠ 0 := fun e => hne (by rw [hq]; exact (cut_nil_iff l).2 e)
  rw [bitLen, if_neg hpos, h1, log2_add _ _ _ h2 hl, libBitLen _ hl (Nat.lt_trans hx (by decide))]
  omega
theorem bits_and_u32 (a b : Nat) (ha : a < 4294967296) (hb : b < 4294967296) : bits .and .u32 (a : Int) (b : Int) = ((a &&& b : Nat) : Int) ∧ a &&& b < 4294967296 := by
  have hx : a &&& b < 2 ^ 32 := Nat.and_lt_two_pow _ (by omega)
  have h1 : (BitVec.ofInt 32 (a : Int)).toNat = a := by
    rw [BitVec.ofInt_natCast, BitVec.toNat_ofNat]; exact Nat.mod_eq_of_lt (by omega)
  have h2 : (BitVec.ofInt 32 (b : Int)).toNat = b := by
    rw [BitVec.ofInt_natCast, BitVec.toNat_ofNat]; exact Nat.mod_eq_of_lt (by omega)
  refine ⟨?_, by omega⟩
  show IntKind.u32.wrap ((BitVec.ofInt 32 (a : Int) &&& BitVec.ofInt 32 (b : Int)).toNat : Int) = _
  rw [BitVec.toNat_and, h1, h2, IntKind.wrap_u32]
  omega
theorem bits_or_u32 (a b : Nat) (ha : a < 4294967296) (hb : b < 4294967296) : bits .or .u32 (a : Int) (b : Int) = ((a ||| b : Nat) : Int) ∧ a ||| b < 4294967296 := by
  have hx : a ||| b < 2 ^ 32 := Nat.or_lt_two_pow (by omega) (by omega)
  have h1 : (BitVec.ofInt 32 (a : Int)).toNat = a := by
    rw [BitVec.ofInt_natCast, BitVec.toNat_ofNat]; exact Nat.mod_eq_of_lt (by omega)
  have h2 : (BitVec.ofInt 32 (b : Int)).toNat = b := by
    rw [BitVec.ofInt_natCast, BitVec.toNat_ofNat]; exact Nat.mod_eq_of_lt (by omega)
  refine ⟨?_, by omega⟩
  show IntKind.u32.wrap ((BitVec.ofInt 32 (a : Int) ||| BitVec.ofInt 32 (b : Int)).toNat : Int) = _
  rw [BitVec.toNat_or, h1, h2, IntKind.wrap_u32]
  omega
theorem bits_xor_u32 (a b : Nat) (ha : a < 4294967296) (hb : b < 4294967296) : bits .xor .u32 (a : Int) (b : Int) = ((a ^^^ b : Nat) : Int) ∧ a ^^^ b < 4294967296 := by
  have hx : a ^^^ b < 2 ^ 32 := Nat.xor_lt_two_pow (by omega) (by omega)
  have h1 : (BitVec.ofInt 32 (a : Int)).toNat = a := by
    rw [BitVec.ofInt_natCast, BitVec.toNat_ofNat]; exact Nat.mod_eq_of_lt (by omega)
  have h2 : (BitVec.ofInt 32 (b : Int)).toNat = b := by
    rw [BitVec.ofInt_natCast, BitVec.toNat_ofNat]; exact Nat.mod_eq_of_lt (by omega)
  refine ⟨?_, by omega⟩
  show IntKind.u32.wrap ((BitVec.ofInt 32 (a : Int) ^^^ BitVec.ofInt 32 (b : Int)).toNat : Int) = _
  rw [BitVec.toNat_xor, h1, h2, IntKind.wrap_u32]
  omega
theorem top32 (n : Nat) (h : n < 4294967296) : n / 2147483648 = if n.testBit 31 then 1 else 0 := by
  rw [Nat.testBit_eq_decide_div_mod_eq]
  by_cases h1 : n / 2 ^ 31 % 2 = 1
  · rw [if_pos (decide_eq_true h1)]; omega
  · rw [if_neg (by simpa using h1)]; omega
theorem top32_iff (n : Nat) (h : n < 4294967296) : n.testBit 31 = decide (2147483648 ≤ n) := by
  rw [Nat.testBit_eq_decide_div_mod_eq]
  apply decide_eq_decide.2
  omega
theorem sub32_borrow (x y c : Nat) (hx : x < 4294967296) (hy : y < 4294967296) (hc : c ≤ 1) :
    bits BinOp.or IntKind.u32 (bits BinOp.and IntKind.u32 (bits BinOp.xor IntKind.u32 IntKind.u32.max (x : Int)) (y : Int)) (bits BinOp.and IntKind.u32 (bits BinOp.xor IntKind.u32 IntKind.u32.max (bits BinOp.xor IntKind.u32 (x : Int) (y : Int))) (((x : Int) - y - c) % 4294967296)) / 2147483648
      = ((if x < y + c then 1 else 0 : Nat) : Int) := by
  have hM : IntKind.u32.max = ((4294967295 : Nat) : Int) := rfl
  obtain ⟨d, hd, hdi, hdc⟩ : ∃ d : Nat, d < 4294967296 ∧ (((x : Int) - y - c) % 4294967296) = (d : Int) ∧ (d : Int) = if x < y + c then (x : Int) - y - c + 4294967296 else (x : Int) - y - c := by
    refine ⟨((((x : Int) - y - c) % 4294967296)).toNat, by omega, by omega, ?_⟩
    split <;> omega
  rw [hM, hdi]
  obtain ⟨e1, l1⟩ := bits_xor_u32 4294967295 x (by decide) hx
  obtain ⟨e2, l2⟩ := bits_xor_u32 x y hx hy
  obtain ⟨e3, l3⟩ := bits_and_u32 _ y l1 hy
  obtain ⟨e4, l4⟩ := bits_xor_u32 4294967295 _ (by decide) l2
  obtain ⟨e5, l5⟩ := bits_and_u32 _ d l4 hd
  obtain ⟨e6, l6⟩ := bits_or_u32 _ _ l3 l5
  rw [e1, e2, e3, e4, e5, e6]
  have ht : ∀ n : Nat, ((n : Int) / 2147483648) = ((n / 2147483648 : Nat) : Int) := fun n => by omega
  rw [ht, top32 _ l6]
  congr 1
  rw [Nat.testBit_or, Nat.testBit_and, Nat.testBit_and, Nat.testBit_xor, Nat.testBit_xor, Nat.testBit_xor, top32_iff x hx, top32_iff y hy, top32_iff d hd, show Nat.testBit 4294967295 31 = true by decide]
  by_cases hlt : x < y + c
  · rw [if_pos hlt] at hdc ⊢
    by_cases a : 2147483648 ≤ x <;> by_cases b : 2147483648 ≤ y <;> by_cases k : 2147483648 ≤ d <;> simp [a, b, k] <;> omega
  · rw [if_neg hlt] at hdc ⊢
    by_cases a : 2147483648 ≤ x <;> by_cases b : 2147483648 ≤ y <;> by_cases k : 2147483648 ≤ d <;> simp [a, b, k] <;> omega
theorem set_take (o : List Nat) (k v : Nat) (hk : k < o.length) : (o.set k v).take (k + 1) = o.take k ++ [v] := by
  rw [List.take_succ_eq_append_getElem (by rw [List.length_set]; exact hk), List.getElem_set_self, List.take_set_of_le (Nat.le_refl _)]
theorem val_set_take (o : List Nat) (k v : Nat) (hk : k < o.length) : val ((o.set k v).take (k + 1)) = val (o.take k) + B ^ k * v := by
  rw [set_take o k v hk, val_app, List.length_take, show min k o.length = k by omega]; simp [val]
theorem take_more (Q : List Nat) (k : Nat) (h : Q.length ≤ k) : val (Q.take (k + 1)) = val (Q.take k) + B ^ k * 0 := by
  rw [List.take_of_length_le h, List.take_of_length_le (by omega)]; simp
theorem split_digit (b s : Nat) : b * (s % B) + b * B * (s / B) = b * s := by
  rw [Nat.mul_assoc, ← Nat.mul_add, Nat.mod_add_div]
theorem add_step (o P Q : List Nat) (k x y cc : Nat) (hk : k < o.length) (inv : val (o.take k) + B ^ k * cc = val (P.take k) + val (Q.take k)) (hP : val (P.take (k + 1)) = val (P.take k) + B ^ k * x)
    (hQ : val (Q.take (k + 1)) = val (Q.take k) + B ^ k * y) : val ((o.set k ((x + y + cc) % 4294967296)).take (k + 1)) + B ^ (k + 1) * ((x + y + cc) / 4294967296) = val (P.take (k + 1)) + val (Q.take (k + 1)) := by
  have h1 := split_digit (B ^ k) (x + y + cc)
  rw [val_set_take o k _ hk, hP, hQ, Nat.pow_succ]
  rw [Nat.mul_add, Nat.mul_add] at h1
  simp only [B] at h1 inv ⊢
  omega
theorem ok_set_take (o : List Nat) (k v : Nat) (hk : k < o.length) (h : OK (o.take k)) (hv : v < 4294967296) : OK ((o.set k v).take (k + 1)) := by
  rw [set_take o k v hk]
  intro x hx
  rcases List.mem_append.1 hx with hx | hx
  · exact h x hx
  · rw [List.mem_singleton.1 hx]; exact hv
end Go.Proofs.YtcdndcbfmlnpjaaGreatDoor.Na
