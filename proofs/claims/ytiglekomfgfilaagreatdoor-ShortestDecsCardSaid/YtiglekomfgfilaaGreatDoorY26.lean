/- Plain Lean: rounded to so many digits, as numbers; seventeen digits say a number. -/
import Derived.Test.YtiglekomfgfilaaGreatDoorY8
import Derived.Test.YtiglekomfgfilaaGreatDoorY25
import Derived.Test.YtiglekomfgfilaaGreatDoorY1
import Derived.Laws.StructEq
namespace Go.Proofs.YtiglekomfgfilaaGreatDoor.Fl
set_option linter.all false
open Go
structure SigOk (s : Bool) (l : Dc.Bs) (x : Int) (k : Nat) (way : Int) (r : Dc.Res) : Prop where
  e : r.e = 0
  n : r.n = s
  right : Dc.right r.l r.x = true
  len : r.l.length ≤ k
  val : Dc.vv r.l r.x = Dc.rnd s way (Dc.vv l x) (Dc.unit ((k : Int) - (l.length + x))) * Dc.unit ((k : Int) - (l.length + x))
theorem sig_ok {s : Bool} {l : Dc.Bs} {x : Int} {k : Nat} {way : Int} (h : Dc.right l x = true) (hne : l ≠ []) (hk : 1 ≤ k ∧ k ≤ 100) (hw : 0 ≤ way ∧ way ≤ 5) (hx : -40000 ≤ x ∧ x ≤ 40000) : SigOk s l x k way (Dc.sig s l x k way) := by
  have hlen := Dc.right_len h
  have hpt : Dc.point l x = l.length + x := by rw [Dc.point, if_pos h]
  have hsp : Dc.sig s l x k way = Dc.place s l x ((k : Int) - (l.length + x)) way := by
    have hc1 : Dc.right l x = true ∧ 0 ≤ way ∧ way ≤ 5 ∧ 1 ≤ (k : Int) := ⟨h, hw.1, hw.2, by omega⟩
    have hc2 : Dc.right l x = true ∧ 0 ≤ way ∧ way ≤ 5 ∧ -100000 ≤ (k : Int) - (l.length + x) ∧ (k : Int) - (l.length + x) ≤ 100000 := ⟨h, hw.1, hw.2, by omega, by omega⟩
    rw [Dc.sig, if_pos hc1, Dc.place, if_pos hc2, hpt]
    by_cases hle : (l.length : Int) ≤ k
    · rw [if_pos hle, if_neg (by rintro ⟨-, h2⟩; omega)]
    · rw [if_neg hle, if_pos ⟨hne, by omega⟩]; congr 1; omega
  have hel : (Dc.sig s l x k way).e = 0 ∧ (Dc.sig s l x k way).l.length ≤ k := by
    rw [Dc.sig, if_pos ⟨h, hw.1, hw.2, by omega⟩]
    by_cases hle : (l.length : Int) ≤ k
    · rw [if_pos hle]; exact ⟨rfl, by show l.length ≤ k; omega⟩
    · rw [if_neg hle]
      have hd := Dc.right_dig h
      have hKd : Dc.allDig (l.take k) = true := Dc.dig_take hd k
      have hc : Dc.cut s l x k way = Dc.mk s (if Dc.up s (l.take k) (l.drop k) way then Dc.more (l.take k) else l.take k) (x + l.length - k) := by
        unfold Dc.cut
        simp only [if_neg (show ¬ ((k : Int) < 0) by omega), Int.toNat_natCast]
      rw [hc]
      have hl1 : (if Dc.up s (l.take k) (l.drop k) way then Dc.more (l.take k) else l.take k).length ≤ 101 := by
        split
        · have := Dc.more_len (l.take k); rw [List.length_take] at this; omega
        · rw [List.length_take]; omega
      have hlc : (Dc.core (if Dc.up s (l.take k) (l.drop k) way then Dc.more (l.take k) else l.take k)).length ≤ k := by
        split
        · have := Dc.core_more (l.take k) hKd
          rw [List.length_take] at this; omega
        · have := Dc.core_le (l.take k)
          rw [List.length_take] at this; omega
      have hdd : Dc.allDig (if Dc.up s (l.take k) (l.drop k) way then Dc.more (l.take k) else l.take k) = true := by split; exact (Dc.nv_more _ hKd).2; exact hKd
      generalize (if Dc.up s (l.take k) (l.drop k) way then Dc.more (l.take k) else l.take k) = ds at hl1 hlc hdd ⊢
      have hf := mk_fine s ds (x + l.length - k) hdd (by omega) (by omega)
      refine ⟨hf.1, ?_⟩
      by_cases h1 : Dc.core ds = []
      · rw [Dc.mk_zero hdd h1]; exact Nat.zero_le _
      · by_cases h2 : Dc.right (Dc.core ds) (x + l.length - k + Dc.tz ds) = true
        · rw [Dc.mk_ok hdd h1 h2]; exact hlc
        · have := hf.1
          rw [Dc.mk_over hdd h1 h2] at this; cases this
  have hpe := hel.1
  rw [hsp] at hpe
  obtain ⟨p1, p2, p3⟩ := Dc.place_rnd s l x ((k : Int) - (l.length + x)) way h hw (by omega) hpe
  rw [← hsp] at p1 p2 p3
  exact ⟨hel.1, p1, p2, hel.2, p3⟩
theorem sig_unit {l : Dc.Bs} {x : Int} {k : Nat} (h : Dc.right l x = true) (hne : l ≠ []) (hk : 1 ≤ k ∧ k ≤ 100) (hx : -40000 ≤ x ∧ x ≤ 40000) :
    10 ^ (k - 1) * Dc.unit ((k : Int) - (l.length + x)) ≤ Dc.vv l x ∧ Dc.vv l x < 10 ^ k * Dc.unit ((k : Int) - (l.length + x)) := by
  have hlen := Dc.right_len h
  obtain ⟨b1, b2⟩ := Dc.vv_bounds h hne
  have hlift : Dc.lift = 200000 := rfl
  unfold Dc.unit
  rw [← Nat.pow_add, ← Nat.pow_add]
  rw [show k - 1 + ((Dc.lift : Int) - ((k : Int) - (l.length + x))).toNat = ((l.length : Int) + x - 1 + Dc.lift).toNat by omega, show k + ((Dc.lift : Int) - ((k : Int) - (l.length + x))).toNat = ((l.length : Int) + x + Dc.lift).toNat by omega]
  exact ⟨b1, b2⟩
theorem rnd_half (n : Bool) (way : Int) (V U : Nat) (hU : 0 < U) (hw : way = 0 ∨ way = 1) : 2 * V ≤ 2 * (Dc.rnd n way V U * U) + U ∧ 2 * (Dc.rnd n way V U * U) ≤ 2 * V + U := by
  have h1 := Nat.div_add_mod V U
  have h2 := Nat.mod_lt V hU
  obtain ⟨q, hq⟩ : ∃ q, q = V / U := ⟨_, rfl⟩
  obtain ⟨r, hr⟩ : ∃ q, q = V % U := ⟨_, rfl⟩
  have hqu : U * q = q * U := Nat.mul_comm _ _
  rw [Dc.rnd, ← hq, ← hr]
  rw [← hq, ← hr] at h1
  rw [← hr] at h2
  have hup : Dc.ups n way q r U = true → U ≤ 2 * r := by
    intro h
    unfold Dc.ups at h
    rw [Bool.and_eq_true] at h
    rcases hw with rfl | rfl
    · rw [if_pos rfl, Bool.or_eq_true, Bool.and_eq_true] at h
      rcases h.2 with h3 | h3
      · have := of_decide_eq_true h3; omega
      · have := of_decide_eq_true h3.1; omega
    · rw [if_neg (by decide), if_pos rfl] at h
      exact of_decide_eq_true h.2
  have hdn : ¬ Dc.ups n way q r U = true → 2 * r ≤ U := by
    intro h
    rcases Nat.lt_or_ge U (2 * r) with h3 | h3
    · exfalso
      apply h
      unfold Dc.ups
      rcases hw with rfl | rfl
      · rw [if_pos rfl, decide_eq_true (show r ≠ 0 by omega), decide_eq_true h3]; rfl
      · rw [if_neg (by decide), if_pos rfl, decide_eq_true (show r ≠ 0 by omega), decide_eq_true (show U ≤ 2 * r by omega)]; rfl
    · exact h3
  split
  · rename_i hu
    have := hup hu
    rw [Nat.add_mul, Nat.one_mul]; omega
  · rename_i hu
    have := hdn hu
    rw [Nat.add_zero]; omega
theorem V_gap (b : Nat) : V b < 10000000000000000 * (V (b + 1) - V b) ∧ (0 < b → V b < 10000000000000000 * (V b - V (b - 1))) := by
  constructor
  · obtain ⟨j, m, -, hm, h1, h2, -⟩ := V_split b
    have hp : 0 < 2 ^ j := Nat.pow_pos (by decide)
    rw [h1, h2, Nat.add_mul, Nat.one_mul, Nat.add_sub_cancel_left]
    exact Nat.mul_lt_mul_of_pos_right (by omega) hp
  · intro h0
    obtain ⟨c, rfl⟩ : ∃ c, b = c + 1 := ⟨b - 1, by omega⟩
    obtain ⟨j, m, -, hm, h1, h2, -⟩ := V_split c
    have hp : 0 < 2 ^ j := Nat.pow_pos (by decide)
    rw [Nat.add_sub_cancel, h1, h2, show (m + 1) * 2 ^ j - m * 2 ^ j = 2 ^ j by rw [Nat.add_mul, Nat.one_mul, Nat.add_sub_cancel_left]]
    exact Nat.mul_lt_mul_of_pos_right (by omega) hp
theorem near_close {b V0 N U : Nat} (hb : b ≤ 9218868437227405312) (hv : V0 * 2 ^ low = V b * 10 ^ Dc.lift) (hu : 10000000000000000 * U ≤ V0) (h1 : 2 * V0 ≤ 2 * N + U) (h2 : 2 * N ≤ 2 * V0 + U) : Near (N * 2 ^ low) (10 ^ Dc.lift) b := by
  obtain ⟨Q, hQ⟩ : ∃ Q, Q = 2 ^ low := ⟨_, rfl⟩
  obtain ⟨T, hT⟩ : ∃ Q, Q = 10 ^ Dc.lift := ⟨_, rfl⟩
  have hQp : 0 < Q := by rw [hQ]; exact Nat.pow_pos (by decide)
  have hTp : 0 < T := by rw [hT]; exact Nat.pow_pos (by decide)
  rw [← hQ, ← hT] at hv
  rw [← hQ, ← hT]
  obtain ⟨g1, g2⟩ := V_gap b
  have e1 := Nat.mul_le_mul_right Q hu
  have e2 := Nat.mul_le_mul_right Q h1
  have e3 := Nat.mul_le_mul_right Q h2
  rw [Nat.add_mul, Nat.mul_assoc, Nat.mul_assoc] at e2 e3
  rw [Nat.mul_assoc, hv] at e1
  rw [hv] at e2 e3
  have k1 := Nat.mul_lt_mul_of_pos_right g1 hTp
  rw [Nat.mul_assoc, Nat.sub_mul] at k1
  have hs := Nat.mul_lt_mul_of_pos_right (V_succ b) hTp
  obtain ⟨A, hA⟩ : ∃ A, A = U * Q := ⟨_, rfl⟩
  obtain ⟨B, hB⟩ : ∃ A, A = V b * T := ⟨_, rfl⟩
  obtain ⟨C, hC⟩ : ∃ A, A = V (b + 1) * T := ⟨_, rfl⟩
  obtain ⟨E, hE⟩ : ∃ A, A = N * Q := ⟨_, rfl⟩
  rw [← hA, ← hB] at e1
  rw [← hA, ← hB, ← hE] at e2 e3
  rw [← hB, ← hC] at k1 hs
  refine ⟨hb, ?_, Or.inr (Or.inl ?_)⟩
  · by_cases h0 : b = 0
    · exact Or.inl h0
    · right; left
      have k2 := Nat.mul_lt_mul_of_pos_right (g2 (by omega)) hTp
      rw [Nat.mul_assoc, Nat.sub_mul] at k2
      have hs2 : V (b - 1) * T < V b * T := Nat.mul_lt_mul_of_pos_right (V_lt (by omega)) hTp
      obtain ⟨D, hD⟩ : ∃ A, A = V (b - 1) * T := ⟨_, rfl⟩
      rw [← hB, ← hD] at k2 hs2
      rw [Nat.add_mul, ← hD, ← hB, ← hE]
      omega
  · rw [Nat.add_mul, ← hB, ← hC, ← hE]
    omega
theorem seventeen {b : Nat} {s : Bool} {l : Dc.Bs} {X : Int} (hb : b ≤ 9218868437227405312) (hr : Dc.right l X = true) (hne : l ≠ []) (hX : -40000 ≤ X ∧ X ≤ 40000) (hv : Dc.vv l X * 2 ^ low = V b * 10 ^ Dc.lift) :
    bits (Dc.sig s l X 17 0).l (Dc.sig s l X 17 0).x = b := by
  have hs := sig_ok (s := s) (k := 17) (way := 0) hr hne (by omega) (by omega) hX
  have hu := sig_unit (k := 17) hr hne (by omega) hX
  have hU : 0 < Dc.unit (((17 : Nat) : Int) - (l.length + X)) := Dc.unit_pos _
  obtain ⟨r1, r2⟩ := rnd_half s 0 (Dc.vv l X) _ hU (Or.inl rfl)
  refine (bits_eq (Dc.right_exp hs.right).1 ?_).symm
  have hval := hs.val
  have : Near (Dc.vv (Dc.sig s l X ((17 : Nat) : Int) 0).l (Dc.sig s l X ((17 : Nat) : Int) 0).x * 2 ^ low) (10 ^ Dc.lift) b := by
    rw [hval]
    refine near_close hb hv ?_ r1 r2
    have := hu.1
    exact this
  exact this
end Go.Proofs.YtiglekomfgfilaaGreatDoor.Fl

/- Plain Lean: the nearest fraction is in its lowest terms; a number of eighths is told as it is. -/
namespace Go.Proofs.YtiglekomfgfilaaGreatDoor.Fl
set_option linter.all false
open Go
end Go.Proofs.YtiglekomfgfilaaGreatDoor.Fl

/- Plain Lean: the whole part of a number, as a decimal. -/
namespace Go.Proofs.YtiglekomfgfilaaGreatDoor.Fl
set_option linter.all false
open Go
theorem rnd_down (n : Bool) (V U : Nat) : Dc.rnd n 2 V U = V / U := by
  have : Dc.ups n 2 (V / U) (V % U) U = false := by
    unfold Dc.ups
    rw [if_neg (by decide), if_neg (by decide), if_neg (by decide), if_neg (by decide), decide_eq_false (by decide : ¬ (2 : Int) = 5), Bool.false_and, Bool.and_false]
  rw [Dc.rnd, this]; rfl
end Go.Proofs.YtiglekomfgfilaaGreatDoor.Fl

/- Plain Lean: the decimal of the fewest digits that is read as a number. -/
namespace Go.Proofs.YtiglekomfgfilaaGreatDoor.Fl
set_option linter.all false
open Go
theorem mk_n (s t : Bool) (l : Dc.Bs) (x : Int) : (Dc.mk s l x).l = (Dc.mk t l x).l ∧ (Dc.mk s l x).x = (Dc.mk t l x).x ∧ (Dc.mk s l x).e = (Dc.mk t l x).e := by
  unfold Dc.mk
  split
  · split
    · exact ⟨rfl, rfl, rfl⟩
    · split <;> exact ⟨rfl, rfl, rfl⟩
  · exact ⟨rfl, rfl, rfl⟩
theorem up_n (s t : Bool) (a b : Dc.Bs) (way : Int) (hw : way = 0 ∨ way = 1 ∨ way = 2 ∨ way = 3) : Dc.up s a b way = Dc.up t a b way := by
  unfold Dc.up
  rcases hw with rfl | rfl | rfl | rfl <;> rfl
theorem sig_n (s t : Bool) (l : Dc.Bs) (x : Int) (k way : Int) (hw : way = 0 ∨ way = 1 ∨ way = 2 ∨ way = 3) : (Dc.sig s l x k way).l = (Dc.sig t l x k way).l ∧ (Dc.sig s l x k way).x = (Dc.sig t l x k way).x := by
  unfold Dc.sig
  split
  · split
    · exact ⟨rfl, rfl⟩
    · unfold Dc.cut
      simp only [up_n s t _ _ way hw]
      exact ⟨(mk_n s t _ _).1, (mk_n s t _ _).2.1⟩
  · exact ⟨rfl, rfl⟩
def says (r : Dc.Res) (b : Nat) : Bool := decide (bits r.l r.x = b)
def same (r t : Dc.Res) : Bool := decide (r.l = t.l ∧ r.x = t.x)
def tryN (s : Bool) (l : Dc.Bs) (x : Int) (b : Nat) (n : Nat) : Option Dc.Res :=
  if says (Dc.sig s l x n 0) b = true then some (Dc.sig s l x n 0)
  else if same (Dc.sig s l x n 2) (Dc.sig s l x n 0) = false ∧ says (Dc.sig s l x n 2) b = true then some (Dc.sig s l x n 2)
  else if same (Dc.sig s l x n 3) (Dc.sig s l x n 0) = false ∧ says (Dc.sig s l x n 3) b = true then some (Dc.sig s l x n 3)
  else none
def search (s : Bool) (l : Dc.Bs) (x : Int) (b : Nat) : Nat → Nat → Dc.Res
  | 0, n => Dc.sig s l x n 0
  | k + 1, n => match tryN s l x b n with
    | some r => r
    | none => search s l x b k (n + 1)
def short (s : Bool) (l : Dc.Bs) (x : Int) (b : Nat) : Dc.Res := search s l x b 16 1
theorem rnd_up (n : Bool) (V U : Nat) : Dc.rnd n 3 V U = V / U + (if V % U ≠ 0 then 1 else 0) := by
  have : Dc.ups n 3 (V / U) (V % U) U = decide (V % U ≠ 0) := by
    unfold Dc.ups
    rw [if_neg (by decide), if_neg (by decide), if_pos rfl, Bool.and_true]
  rw [Dc.rnd, this]
  simp only [decide_eq_true_eq]
theorem rnd_even (n : Bool) (V U : Nat) : Dc.rnd n 0 V U = V / U + (if V % U ≠ 0 ∧ (U < 2 * (V % U) ∨ 2 * (V % U) = U ∧ V / U % 2 = 1) then 1 else 0) := by
  have : Dc.ups n 0 (V / U) (V % U) U = decide (V % U ≠ 0 ∧ (U < 2 * (V % U) ∨ 2 * (V % U) = U ∧ V / U % 2 = 1)) := by
    unfold Dc.ups
    rw [if_pos rfl]
    simp only [Bool.decide_and, Bool.decide_or]
  rw [Dc.rnd, this]
  simp only [decide_eq_true_eq]
theorem same_vv {s : Bool} {l : Dc.Bs} {x : Int} {k : Nat} {w1 w2 : Int} {r t : Dc.Res} (hr : SigOk s l x k w1 r) (ht : SigOk s l x k w2 t) : (Dc.vv r.l r.x = Dc.vv t.l t.x → r = t) ∧ (same r t = decide (Dc.vv r.l r.x = Dc.vv t.l t.x)) := by
  have h1 : Dc.vv r.l r.x = Dc.vv t.l t.x → r.l = t.l ∧ r.x = t.x := fun h => Dc.vv_inj hr.right ht.right h
  constructor
  · intro h
    obtain ⟨e1, e2⟩ := h1 h
    rcases r with ⟨a, b, c, d⟩
    rcases t with ⟨a', b', c', d'⟩
    have n1 := hr.n; have n2 := ht.n; have e3 := hr.e; have e4 := ht.e
    simp only at e1 e2 n1 n2 e3 e4
    rw [e1, e2, n1, n2, e3, e4]
  · unfold same
    apply decide_eq_decide.2
    constructor
    · rintro ⟨a, b⟩; rw [a, b]
    · exact h1
theorem near_either {s : Bool} {l : Dc.Bs} {x : Int} {k : Nat} (h : Dc.right l x = true) (hne : l ≠ []) (hk : 1 ≤ k ∧ k ≤ 100) (hx : -40000 ≤ x ∧ x ≤ 40000) :
    Dc.sig s l x k 0 = Dc.sig s l x k 2 ∨ Dc.sig s l x k 0 = Dc.sig s l x k 3 := by
  have h0 := sig_ok (s := s) (way := 0) h hne hk (by omega) hx
  have h2 := sig_ok (s := s) (way := 2) h hne hk (by omega) hx
  have h3 := sig_ok (s := s) (way := 3) h hne hk (by omega) hx
  have v0 := h0.val; have v2 := h2.val; have v3 := h3.val
  rw [rnd_even] at v0
  rw [rnd_down] at v2
  rw [rnd_up] at v3
  by_cases c : Dc.vv l x % Dc.unit ((k : Int) - (l.length + x)) ≠ 0 ∧ (Dc.unit ((k : Int) - (l.length + x)) < 2 * (Dc.vv l x % Dc.unit ((k : Int) - (l.length + x))) ∨ 2 * (Dc.vv l x % Dc.unit ((k : Int) - (l.length + x))) = Dc.unit ((k : Int) - (l.length + x)) ∧ Dc.vv l x / Dc.unit ((k : Int) - (l.length + x)) % 2 = 1)
  · right
    rw [if_pos c] at v0
    rw [if_pos c.1] at v3
    exact (same_vv h0 h3).1 (by rw [v0, v3])
  · left
    rw [if_neg c, Nat.add_zero] at v0
    exact (same_vv h0 h2).1 (by rw [v0, v2])
theorem near_which {s : Bool} {l : Dc.Bs} {x : Int} {k : Nat} (h : Dc.right l x = true) (hne : l ≠ []) (hk : 1 ≤ k ∧ k ≤ 100) (hx : -40000 ≤ x ∧ x ≤ 40000) (hd : same (Dc.sig s l x k 2) (Dc.sig s l x k 3) = false) :
    ∃ q U : Nat, 0 < U ∧ Dc.vv (Dc.sig s l x k 2).l (Dc.sig s l x k 2).x = q * U ∧ Dc.vv (Dc.sig s l x k 3).l (Dc.sig s l x k 3).x = (q + 1) * U ∧ U = Dc.unit ((k : Int) - (l.length + x)) ∧ 10 ^ (k - 1) ≤ q ∧ q < 10 ^ k ∧
      Dc.sig s l x k 0 = (if (q * U + (q + 1) * U < 2 * Dc.vv l x ∨ 2 * Dc.vv l x = q * U + (q + 1) * U ∧ q % 2 = 1) then Dc.sig s l x k 3 else Dc.sig s l x k 2) := by
  have h0 := sig_ok (s := s) (way := 0) h hne hk (by omega) hx
  have h2 := sig_ok (s := s) (way := 2) h hne hk (by omega) hx
  have h3 := sig_ok (s := s) (way := 3) h hne hk (by omega) hx
  obtain ⟨u1, u2⟩ := sig_unit h hne hk hx
  have v0 := h0.val; have v2 := h2.val; have v3 := h3.val
  have hU : 0 < Dc.unit ((k : Int) - (l.length + x)) := Dc.unit_pos _
  obtain ⟨U, hUe⟩ : ∃ U, U = Dc.unit ((k : Int) - (l.length + x)) := ⟨_, rfl⟩
  rw [← hUe] at v0 v2 v3 u1 u2 hU
  rw [rnd_even] at v0
  rw [rnd_down] at v2
  rw [rnd_up] at v3
  have hdm := Nat.div_add_mod (Dc.vv l x) U
  have hml := Nat.mod_lt (Dc.vv l x) hU
  have hq1 : 10 ^ (k - 1) ≤ Dc.vv l x / U := (Nat.le_div_iff_mul_le hU).2 u1
  have hq2 : Dc.vv l x / U < 10 ^ k := (Nat.div_lt_iff_lt_mul hU).2 u2
  obtain ⟨q, hq⟩ : ∃ q, q = Dc.vv l x / U := ⟨_, rfl⟩
  obtain ⟨r, hr⟩ : ∃ r, r = Dc.vv l x % U := ⟨_, rfl⟩
  rw [← hq, ← hr] at v0 hdm
  rw [← hq] at v2 hq1 hq2
  rw [← hq, ← hr] at v3
  rw [← hr] at hml
  have hr0 : r ≠ 0 := by
    intro e
    rw [(same_vv h2 h3).2, v2, v3, e, if_neg (by simp), Nat.add_zero, decide_eq_true rfl] at hd
    cases hd
  rw [if_pos hr0] at v3
  have hqU : U * q = q * U := Nat.mul_comm _ _
  have hs1 : (q + 1) * U = q * U + U := by rw [Nat.add_mul, Nat.one_mul]
  refine ⟨q, U, hU, v2, v3, hUe, hq1, hq2, ?_⟩
  by_cases c : r ≠ 0 ∧ (U < 2 * r ∨ 2 * r = U ∧ q % 2 = 1)
  · rw [if_pos c] at v0
    rw [if_pos (by rw [hs1]; rcases c.2 with c1 | c1 <;> omega)]
    exact (same_vv h0 h3).1 (by rw [v0, v3])
  · rw [if_neg c, Nat.add_zero] at v0
    rw [if_neg (by rw [hs1]; rintro (c1 | c1) <;> exact c ⟨hr0, by omega⟩)]
    exact (same_vv h0 h2).1 (by rw [v0, v2])
theorem tryN_says {s : Bool} {l : Dc.Bs} {x : Int} {b n : Nat} {r : Dc.Res} (h : tryN s l x b n = some r) : says r b = true ∧ (r = Dc.sig s l x n 0 ∨ r = Dc.sig s l x n 2 ∨ r = Dc.sig s l x n 3) := by
  unfold tryN at h
  split at h
  · rename_i c; cases h; exact ⟨c, Or.inl rfl⟩
  · split at h
    · rename_i c; cases h; exact ⟨c.2, Or.inr (Or.inl rfl)⟩
    · split at h
      · rename_i c; cases h; exact ⟨c.2, Or.inr (Or.inr rfl)⟩
      · cases h
theorem says_same {r t : Dc.Res} {b : Nat} (h : same r t = true) : says r b = says t b := by
  obtain ⟨a, c⟩ := of_decide_eq_true h
  unfold says; rw [a, c]
theorem tryN_none {s : Bool} {l : Dc.Bs} {x : Int} {b n : Nat} (h : tryN s l x b n = none) : says (Dc.sig s l x n 0) b = false ∧ says (Dc.sig s l x n 2) b = false ∧ says (Dc.sig s l x n 3) b = false := by
  unfold tryN at h
  split at h
  · cases h
  · rename_i c0
    have c0 := Bool.eq_false_iff.2 c0
    split at h
    · cases h
    · rename_i c1
      split at h
      · cases h
      · rename_i c2
        refine ⟨c0, ?_, ?_⟩
        · cases hs : same (Dc.sig s l x n 2) (Dc.sig s l x n 0) with
          | true => rw [says_same hs]; exact c0
          | false => exact Bool.eq_false_iff.2 (fun e => c1 ⟨hs, e⟩)
        · cases hs : same (Dc.sig s l x n 3) (Dc.sig s l x n 0) with
          | true => rw [says_same hs]; exact c0
          | false => exact Bool.eq_false_iff.2 (fun e => c2 ⟨hs, e⟩)
theorem search_end {s : Bool} {l : Dc.Bs} {x : Int} {b : Nat} : ∀ (k n : Nat), ∃ m, n ≤ m ∧ m ≤ n + k ∧ (∀ i, n ≤ i → i < m → tryN s l x b i = none) ∧ (tryN s l x b m = some (search s l x b k n) ∨ m = n + k ∧ search s l x b k n = Dc.sig s l x m 0)
  | 0, n => ⟨n, Nat.le_refl _, Nat.le_refl _, fun i h1 h2 => absurd h1 (by omega), Or.inr ⟨rfl, rfl⟩⟩
  | k + 1, n => by
    unfold search
    cases h : tryN s l x b n with
    | some r => exact ⟨n, Nat.le_refl _, by omega, fun i h1 h2 => absurd h1 (by omega), Or.inl h⟩
    | none =>
      obtain ⟨m, h1, h2, h3, h4⟩ := search_end (s := s) (l := l) (x := x) (b := b) k (n + 1)
      refine ⟨m, by omega, by omega, fun i i1 i2 => ?_, ?_⟩
      · by_cases e : i = n
        · rw [e]; exact h
        · exact h3 i (by omega) i2
      · rcases h4 with h4 | ⟨h4, h5⟩
        · exact Or.inl h4
        · exact Or.inr ⟨by omega, h5⟩
theorem short_fine {b : Nat} {s : Bool} {l : Dc.Bs} {X : Int} (hb : b ≤ 9218868437227405312) (hr : Dc.right l X = true) (hne : l ≠ []) (hX : -40000 ≤ X ∧ X ≤ 40000) (hv : Dc.vv l X * 2 ^ low = V b * 10 ^ Dc.lift) :
    ∃ m : Nat, 1 ≤ m ∧ m ≤ 17 ∧ (short s l X b).e = 0 ∧ (short s l X b).n = s ∧ Dc.right (short s l X b).l (short s l X b).x = true ∧ (short s l X b).l.length ≤ m ∧ bits (short s l X b).l (short s l X b).x = b ∧
      (∀ i, 1 ≤ i → i < m → says (Dc.sig s l X i 2) b = false ∧ says (Dc.sig s l X i 3) b = false) ∧ (∃ way, (way = 0 ∨ way = 2 ∨ way = 3) ∧ short s l X b = Dc.sig s l X m way) := by
  obtain ⟨m, h1, h2, h3, h4⟩ := search_end (s := s) (l := l) (x := X) (b := b) 16 1
  have hw : ∃ way, (way = 0 ∨ way = 2 ∨ way = 3) ∧ short s l X b = Dc.sig s l X m way := by
    rcases h4 with h4 | ⟨-, h4⟩
    · rcases (tryN_says h4).2 with h5 | h5 | h5
      · exact ⟨0, Or.inl rfl, h5⟩
      · exact ⟨2, Or.inr (Or.inl rfl), h5⟩
      · exact ⟨3, Or.inr (Or.inr rfl), h5⟩
    · exact ⟨0, Or.inl rfl, h4⟩
  have hbits : bits (short s l X b).l (short s l X b).x = b := by
    rcases h4 with h4 | ⟨h4, h5⟩
    · exact of_decide_eq_true (tryN_says h4).1
    · show bits (search s l X b 16 1).l (search s l X b 16 1).x = b
      rw [h5, h4]; exact seventeen hb hr hne hX hv
  obtain ⟨way, w1, w2⟩ := hw
  have hs := sig_ok (s := s) (k := m) (way := way) hr hne (by omega) (by omega) hX
  rw [← w2] at hs
  exact ⟨m, h1, by omega, hs.e, hs.n, hs.right, hs.len, hbits, fun i i1 i2 => (tryN_none (h3 i i1 i2)).2, way, w1, w2⟩
end Go.Proofs.YtiglekomfgfilaaGreatDoor.Fl

/- Plain Lean: the document's choice is the program's; a decimal of at most fifteen digits comes back. -/
namespace Go.Proofs.YtiglekomfgfilaaGreatDoor.Fl
set_option linter.all false
open Go
theorem pow_same {v a b : Nat} (h1 : 10 ^ a ≤ v) (h2 : v < 10 ^ (a + 1)) (h3 : 10 ^ b ≤ v) (h4 : v < 10 ^ (b + 1)) : a = b := by
  rcases Nat.lt_trichotomy a b with h | h | h
  · have : 10 ^ (a + 1) ≤ 10 ^ b := Nat.pow_le_pow_right (by decide) h
    omega
  · exact h
  · have : 10 ^ (b + 1) ≤ 10 ^ a := Nat.pow_le_pow_right (by decide) h
    omega
def evenN (l : Dc.Bs) (n : Nat) : Bool := if l.length < n then true else decide ((l.getD (l.length - 1) 48).toNat % 2 = 0)
theorem nv_parity {l : Dc.Bs} (hd : Dc.allDig l = true) (hne : l ≠ []) : Dc.nv l % 2 = (l.getD (l.length - 1) 48).toNat % 2 := by
  have hs := List.dropLast_concat_getLast hne
  have hdm := Dc.dig_mem hd (List.getLast_mem hne)
  have hg : l.getD (l.length - 1) 48 = l.getLast hne := by
    rw [List.getD_eq_getElem?_getD, ← List.getLast?_eq_getElem?, List.getLast?_eq_some_getLast hne]; rfl
  have h2 : Dc.nv l = Dc.nv (l.dropLast ++ [l.getLast hne]) := by rw [hs]
  rw [hg, h2, Dc.nv_app, Dc.nv_cons, Dc.nv_nil]
  simp only [List.length_cons, List.length_nil, Nat.zero_add, Nat.pow_one, Nat.pow_zero, Nat.mul_one, Nat.add_zero]
  omega
theorem even_low {l : Dc.Bs} {x : Int} {q U n : Nat} {p : Int} (hr : Dc.right l x = true) (hn : 1 ≤ n) (hlen : l.length ≤ n) (hp : -100000 ≤ p ∧ p ≤ 100000) (hU : U = Dc.unit p) (hv : Dc.vv l x = q * U) (h1 : 10 ^ (n - 1) ≤ q) (h2 : q < 10 ^ n) :
    evenN l n = decide (q % 2 = 0) := by
  have hlift : Dc.lift = 200000 := rfl
  have hx := Dc.right_exp hr
  obtain ⟨u, hu⟩ : ∃ u, u = (Dc.lift - p : Int).toNat := ⟨_, rfl⟩
  obtain ⟨c, hc⟩ : ∃ c, c = (x + Dc.lift : Int).toNat := ⟨_, rfl⟩
  have hUp : U = 10 ^ u := by rw [hU, Dc.unit, hu]
  have hUpos : 0 < U := by rw [hUp]; exact Nat.pow_pos (by decide)
  have hq0 : 0 < q := Nat.lt_of_lt_of_le (Nat.pow_pos (by decide)) h1
  have hne : l ≠ [] := by
    intro e
    rw [e, Dc.vv_zero] at hv
    have := Nat.mul_pos hq0 hUpos; omega
  obtain ⟨b1, b2⟩ := Dc.vv_bounds hr hne
  have hl0 : 0 < l.length := List.length_pos_iff.2 hne
  have k1 : 10 ^ (n - 1 + u) ≤ Dc.vv l x := by rw [hv, hUp, Nat.pow_add]; exact Nat.mul_le_mul_right _ h1
  have k2 : Dc.vv l x < 10 ^ (n - 1 + u + 1) := by
    rw [hv, hUp, show n - 1 + u + 1 = n + u by omega, Nat.pow_add]; exact Nat.mul_lt_mul_of_pos_right h2 (Nat.pow_pos (by decide))
  have hs : l.length - 1 + c = n - 1 + u := by
    refine pow_same ?_ ?_ k1 k2
    · rw [show l.length - 1 + c = ((l.length : Int) + x - 1 + Dc.lift).toNat by omega]; exact b1
    · rw [show l.length - 1 + c + 1 = ((l.length : Int) + x + Dc.lift).toNat by omega]; exact b2
  have hvv : Dc.nv l * 10 ^ c = q * 10 ^ u := by rw [← hUp, ← hv, Dc.vv, hc]
  unfold evenN
  by_cases hlt : l.length < n
  · rw [if_pos hlt]
    obtain ⟨d, hd⟩ : ∃ d, c = d + 1 + u := ⟨c - 1 - u, by omega⟩
    rw [hd, Nat.pow_add, ← Nat.mul_assoc] at hvv
    have := Nat.eq_of_mul_eq_mul_right (Nat.pow_pos (by decide)) hvv
    rw [Nat.pow_succ, ← Nat.mul_assoc] at this
    exact (decide_eq_true (by omega)).symm
  · rw [if_neg hlt]
    rw [show c = u by omega] at hvv
    have := Nat.eq_of_mul_eq_mul_right (Nat.pow_pos (by decide)) hvv
    rw [← nv_parity (Dc.right_dig hr) hne, this]
def refN (s : Bool) (l : Dc.Bs) (x : Int) (b n : Nat) : Option Dc.Res :=
  if says (Dc.sig s l x n 2) b = true ∧ says (Dc.sig s l x n 3) b = true ∧ same (Dc.sig s l x n 2) (Dc.sig s l x n 3) = false then
    some (if Dc.vv (Dc.sig s l x n 2).l (Dc.sig s l x n 2).x + Dc.vv (Dc.sig s l x n 3).l (Dc.sig s l x n 3).x < 2 * Dc.vv l x ∨ 2 * Dc.vv l x = Dc.vv (Dc.sig s l x n 2).l (Dc.sig s l x n 2).x + Dc.vv (Dc.sig s l x n 3).l (Dc.sig s l x n 3).x ∧ evenN (Dc.sig s l x n 2).l n = false then Dc.sig s l x n 3 else Dc.sig s l x n 2)
  else if says (Dc.sig s l x n 3) b = true then some (Dc.sig s l x n 3)
  else if says (Dc.sig s l x n 2) b = true then some (Dc.sig s l x n 2)
  else none
theorem refN_eq {s : Bool} {l : Dc.Bs} {x : Int} {b n : Nat} (h : Dc.right l x = true) (hne : l ≠ []) (hn : 1 ≤ n ∧ n ≤ 100) (hx : -40000 ≤ x ∧ x ≤ 40000) : refN s l x b n = tryN s l x b n := by
  have hlen := Dc.right_len h
  have h2 := sig_ok (s := s) (way := 2) h hne hn (by omega) hx
  have h3 := sig_ok (s := s) (way := 3) h hne hn (by omega) hx
  have hor := near_either (s := s) h hne hn hx
  unfold refN
  by_cases c1 : says (Dc.sig s l x n 2) b = true ∧ says (Dc.sig s l x n 3) b = true ∧ same (Dc.sig s l x n 2) (Dc.sig s l x n 3) = false
  · rw [if_pos c1]
    obtain ⟨q, U, hU, v2, v3, hUe, q1, q2, h0⟩ := near_which h hne hn hx c1.2.2
    have hev := even_low (p := (n : Int) - (l.length + x)) h2.right hn.1 h2.len (by omega) hUe v2 q1 q2
    have hres : (if Dc.vv (Dc.sig s l x n 2).l (Dc.sig s l x n 2).x + Dc.vv (Dc.sig s l x n 3).l (Dc.sig s l x n 3).x < 2 * Dc.vv l x ∨ 2 * Dc.vv l x = Dc.vv (Dc.sig s l x n 2).l (Dc.sig s l x n 2).x + Dc.vv (Dc.sig s l x n 3).l (Dc.sig s l x n 3).x ∧ evenN (Dc.sig s l x n 2).l n = false then Dc.sig s l x n 3 else Dc.sig s l x n 2) = Dc.sig s l x n 0 := by
      rw [h0, v2, v3, hev]
      have e : (decide (q % 2 = 0) = false) ↔ q % 2 = 1 := by rw [decide_eq_false_iff_not]; omega
      simp only [e]
    rw [hres]
    have hsay : says (Dc.sig s l x n 0) b = true := by
      rcases hor with e | e <;> rw [e]
      · exact c1.1
      · exact c1.2.1
    unfold tryN
    rw [if_pos hsay]
  · rw [if_neg c1]
    by_cases c3 : says (Dc.sig s l x n 3) b = true
    · rw [if_pos c3]
      unfold tryN
      by_cases c2 : says (Dc.sig s l x n 2) b = true
      · have hs : same (Dc.sig s l x n 2) (Dc.sig s l x n 3) = true := by
          cases e : same (Dc.sig s l x n 2) (Dc.sig s l x n 3) with
          | true => rfl
          | false => exact absurd ⟨c2, c3, e⟩ c1
        have he : Dc.sig s l x n 2 = Dc.sig s l x n 3 := (same_vv h2 h3).1 (by
          rw [(same_vv h2 h3).2] at hs; exact of_decide_eq_true hs)
        have h0 : Dc.sig s l x n 0 = Dc.sig s l x n 3 := by rcases hor with e | e <;> rw [e]; exact he
        rw [h0, if_pos c3]
      · rcases hor with e | e
        · rw [e, if_neg c2, if_neg (fun hh => c2 hh.2), if_pos]
          refine ⟨?_, c3⟩
          cases hs : same (Dc.sig s l x n 3) (Dc.sig s l x n 2) with
          | false => rfl
          | true => exact absurd ((says_same hs).symm.trans c3) c2
        · rw [e, if_pos c3]
    · rw [if_neg c3]
      unfold tryN
      by_cases c2 : says (Dc.sig s l x n 2) b = true
      · rw [if_pos c2]
        rcases hor with e | e
        · rw [e, if_pos c2]
        · rw [e, if_neg c3, if_pos]
          refine ⟨?_, c2⟩
          cases hs : same (Dc.sig s l x n 2) (Dc.sig s l x n 3) with
          | false => rfl
          | true => exact absurd ((says_same hs).symm.trans c2) c3
      · rw [if_neg c2]
        have h0 : ¬ says (Dc.sig s l x n 0) b = true := by rcases hor with e | e <;> rw [e] <;> assumption
        rw [if_neg h0, if_neg (fun hh => c2 hh.2), if_neg (fun hh => c3 hh.2)]
end Go.Proofs.YtiglekomfgfilaaGreatDoor.Fl

/- Plain Lean: what the writer of numbers tells: the shortest decimal, the text, what a text is read as; chapter 10's laws. -/
namespace Go.Proofs.YtiglekomfgfilaaGreatDoor.Fl
set_option linter.all false
open Go
def nanS : Dc.Bs := [110, 97, 110]
def infS : Dc.Bs := [105, 110, 102]
def ninfS : Dc.Bs := [45, 105, 110, 102]
def wdec (x : Nat) : Dc.Res := if 3 ≤ kind x then ⟨false, [], 0, 11⟩ else if (dec x).l = [] then dec x else short (neg x) (dec x).l (dec x).x (x % 9223372036854775808)
def wname (x : Nat) : Dc.Bs := if kind x = 4 then nanS else if x = 9218868437227405312 then infS else if x = 18442240474082181120 then ninfS else []
def wprint (x : Nat) : Dc.Bs := if wname x ≠ [] then wname x else Dc.print (wdec x).n (wdec x).l (wdec x).x
def wparse (s : Dc.Bs) : Nat × Int :=
  if s = nanS then (9221120237041090560, 0) else if s = infS then (9218868437227405312, 0) else if s = ninfS then (18442240474082181120, 0)
  else if (readS s).2 ≠ 0 then (0, (readS s).2) else if wprint (readS s).1 ≠ s then (0, 3) else ((readS s).1, 0)
theorem mk_x (s : Bool) (l : Dc.Bs) (y : Int) : (Dc.mk s l y).x = 0 ∨ (Dc.mk s l y).x = y + Dc.tz l := by
  unfold Dc.mk
  split
  · split
    · exact Or.inl rfl
    · split
      · exact Or.inr rfl
      · exact Or.inl rfl
  · exact Or.inl rfl
theorem of_x (s : Bool) (n : Nat) (e : Int) (hn : n < 2 ^ 54) (he : -1075 ≤ e ∧ e ≤ 971) : -2000 ≤ (of s n e).x ∧ (of s n e).x ≤ 2000 := by
  by_cases h0 : 0 ≤ e
  · have hl := up_len hn (show e.toNat ≤ n971 by unfold n971; omega)
    rw [of, if_pos h0]
    have ht := Dc.tz_le (Lib.decDigits (n * 2 ^ e.toNat))
    rcases mk_x s (Lib.decDigits (n * 2 ^ e.toNat)) 0 with h | h <;> rw [h] <;> omega
  · rw [of, if_neg h0]
    have hk := (halve_le (-e).toNat n).2
    have hl : (Lib.decDigits ((halve (-e).toNat n).1 * 5 ^ (halve (-e).toNat n).2)).length ≤ 800 := mid_len (Nat.lt_of_le_of_lt (halve_le (-e).toNat n).1 hn) (K := 1075) (by omega) rfl
    have ht := Dc.tz_le (Lib.decDigits ((halve (-e).toNat n).1 * 5 ^ (halve (-e).toNat n).2))
    rcases mk_x s (Lib.decDigits ((halve (-e).toNat n).1 * 5 ^ (halve (-e).toNat n).2)) (-((halve (-e).toNat n).2 : Int)) with h | h <;> rw [h] <;> omega
theorem decx_fine (x : Nat) (h : kind x < 3) : (dec x).e = 0 ∧ (dec x).n = neg x ∧ Dc.right (dec x).l (dec x).x = true ∧ -2000 ≤ (dec x).x ∧ (dec x).x ≤ 2000 ∧ Dc.vv (dec x).l (dec x).x * 2 ^ low = V (x % 9223372036854775808) * 10 ^ Dc.lift ∧ bits (dec x).l (dec x).x = x % 9223372036854775808 := by
  obtain ⟨hI, hw⟩ := dec_worth x h
  have hm := mant_lt x
  have he := expn_bound x
  have hx := of_x (neg x) (mant x) (expn x) (by omega) (by omega)
  have hb := bits_dec x h
  have e : dec x = ⟨(of (neg x) (mant x) (expn x)).n, (of (neg x) (mant x) (expn x)).l, (of (neg x) (mant x) (expn x)).x, 0⟩ := by rw [dec, if_neg (by omega), okd]
  rw [e]
  exact ⟨rfl, hI.sign, hI.right, hx.1, hx.2, hw, hb⟩
theorem V_le_inf {x : Nat} (h : kind x < 3) : x % 9223372036854775808 < 9218868437227405312 := (V_parts x h).2
theorem wdec_fine (x : Nat) (h : kind x < 3) : (wdec x).e = 0 ∧ (wdec x).n = neg x ∧ Dc.right (wdec x).l (wdec x).x = true ∧ (wdec x).l.length ≤ 17 ∧ bits (wdec x).l (wdec x).x = x % 9223372036854775808 ∧
    ∀ i, 1 ≤ i → i < (wdec x).l.length → bits (Dc.sig (neg x) (dec x).l (dec x).x i 2).l (Dc.sig (neg x) (dec x).l (dec x).x i 2).x ≠ x % 9223372036854775808 ∧ bits (Dc.sig (neg x) (dec x).l (dec x).x i 3).l (Dc.sig (neg x) (dec x).l (dec x).x i 3).x ≠ x % 9223372036854775808 := by
  obtain ⟨d1, d2, d3, d4, d5, d6, d7⟩ := decx_fine x h
  unfold wdec
  rw [if_neg (by omega)]
  by_cases h0 : (dec x).l = []
  · rw [if_pos h0]
    exact ⟨d1, d2, d3, by rw [h0]; decide, d7, fun i h1 h2 => by rw [h0] at h2; simp at h2⟩
  · rw [if_neg h0]
    obtain ⟨m, m1, m2, k1, k2, k3, k4, k5, k6, -⟩ := short_fine (s := neg x) (Nat.le_of_lt (V_le_inf h)) d3 h0 (by omega) d6
    exact ⟨k1, k2, k3, by omega, k5, fun i h1 h2 => by
      obtain ⟨a, b⟩ := k6 i h1 (by omega)
      exact ⟨of_decide_eq_false a, of_decide_eq_false b⟩⟩
theorem res_eq {r : Dc.Res} {n : Bool} {l : Dc.Bs} {x e : Int} (h : r.n = n ∧ r.l = l ∧ r.x = x ∧ r.e = e) : r = ⟨n, l, x, e⟩ := by
  rcases r with ⟨a, b, c, d⟩; obtain ⟨rfl, rfl, rfl, rfl⟩ := h; rfl
theorem kind_le (x : Nat) : kind x ≤ 4 := by unfold kind; split <;> (try split) <;> (try split) <;> omega
theorem inf_kind {x : Nat} (hx : x < 18446744073709551616) (h : kind x = 3) : x = 9218868437227405312 ∨ x = 18442240474082181120 := by
  have h1 : expo x = 2047 := by
    unfold kind at h
    by_cases c : expo x = 2047
    · exact c
    · rw [if_neg c] at h
      split at h
      · omega
      · split at h <;> omega
  have h2 : frac x = 0 := by
    unfold kind at h
    rw [if_pos h1] at h
    by_cases c : frac x = 0
    · exact c
    · rw [if_neg c] at h; omega
  unfold expo at h1; unfold frac at h2
  omega
theorem neg_mod {x : Nat} (hx : x < 18446744073709551616) : wsign (neg x) + x % 9223372036854775808 = x := by
  unfold wsign neg
  by_cases c : 9223372036854775808 ≤ x
  · rw [decide_eq_true c, if_pos rfl]; omega
  · rw [decide_eq_false c, if_neg (by decide)]; omega
theorem readS_lt (s : Dc.Bs) : (readS s).1 < 18446744073709551616 := by
  unfold readS
  split
  · rename_i h
    have hf := Dc.parse_fine s
    rcases hf with ⟨_, hr⟩ | ⟨e, he, hf⟩
    · have := bits_le hr
      show wsign _ + _ < _
      unfold wsign; split <;> omega
    · rw [hf] at h; exfalso; simp at h; omega
  · show 0 < _; decide
end Go.Proofs.YtiglekomfgfilaaGreatDoor.Fl

/- The Writer in the program: names, New, says. -/
namespace Go.Proofs.YtiglekomfgfilaaGreatDoor
set_option maxRecDepth 100000
set_option maxHeartbeats 4000000
set_option linter.all false
open Go.RowKit
structure Wtr (w : World) (v b : Nat) : Prop where
  cell : w.cell? ⟨v, 0, none⟩ = some (.pointer (some ⟨b, 0, none⟩))
  lt : v < w.heap.size
  ne : v ≠ b
  rd : Rdr w b
theorem Wtr.on {w w' : World} {v b : Nat} (h : Wtr w v b) (hb : Below w.heap.size w w') : Wtr w' v b :=
  ⟨(hb.cell (p := ⟨v, 0, none⟩) h.lt).trans h.cell, Nat.lt_of_lt_of_le h.lt hb.size, h.ne, h.rd.on hb⟩
theorem Wtr.onl {w w' : World} {v b : Nat} (h : Wtr w v b) (ho : Onl b w w') (hr : Rdr w' b) : Wtr w' v b :=
  ⟨(ho.cell h.ne h.lt).trans h.cell, Nat.lt_of_lt_of_le h.lt ho.size, h.ne, hr⟩
theorem bs_mk (l : Dc.Bs) : (⟨l.toArray⟩ : ByteArray).data.toList = l := rfl
theorem sh_name_any (x : Nat) (w : World) (hx : x < 18446744073709551616) : Calls Tryz.prog 39 #[.int .u64 x] w (Ret0 (.string ⟨(Fl.wname x).toArray⟩) w) := by
  have hk := fun w => fl_kind_any x hx w
  obtain ⟨K, hK⟩ : ∃ K, K = Fl.kind x := ⟨_, rfl⟩
  rw [← hK] at hk
  have HK := Lib.hid hk
  by_cases h4 : K = 4
  · have hv : Fl.wname x = Fl.nanS := by rw [Fl.wname, ← hK, if_pos h4]
    rw [hv]
    have d1 : ((K : Int) == 4) = true := by rw [h4]; rfl
    clear hk hK h4 hv
    go_enter Tryz.func39, Tryz.ntmps39
    go_wp2_with (go_at_call 62; (with_reducible refine (HK.out _).mono ?_); rintro e w' ⟨rfl, rfl⟩)
    go_ret
    exact Ret0.of rfl
  · have d1 : ((K : Int) == 4) = false := by simp only [beq_eq_false_iff_ne, ne_eq]; omega
    by_cases hi : x = 9218868437227405312
    · have hv : Fl.wname x = Fl.infS := by rw [Fl.wname, ← hK, if_neg h4, if_pos hi]
      rw [hv]
      have d2 : ((x : Int) == 9218868437227405312) = true := by rw [hi]; rfl
      clear hk hK h4 hv hi
      go_enter Tryz.func39, Tryz.ntmps39
      go_wp2_with (go_at_call 62; (with_reducible refine (HK.out _).mono ?_); rintro e w' ⟨rfl, rfl⟩)
      go_ret
      exact Ret0.of rfl
    · have d2 : ((x : Int) == 9218868437227405312) = false := by simp only [beq_eq_false_iff_ne, ne_eq]; omega
      by_cases hj : x = 18442240474082181120
      · have hv : Fl.wname x = Fl.ninfS := by rw [Fl.wname, ← hK, if_neg h4, if_neg hi, if_pos hj]
        rw [hv]
        have d3 : ((x : Int) == 18442240474082181120) = true := by rw [hj]; rfl
        clear hk hK h4 hv hi hj
        go_enter Tryz.func39, Tryz.ntmps39
        go_wp2_with (go_at_call 62; (with_reducible refine (HK.out _).mono ?_); rintro e w' ⟨rfl, rfl⟩)
        go_ret
        exact Ret0.of rfl
      · have hv : Fl.wname x = [] := by rw [Fl.wname, ← hK, if_neg h4, if_neg hi, if_neg hj]
        rw [hv]
        have d3 : ((x : Int) == 18442240474082181120) = false := by simp only [beq_eq_false_iff_ne, ne_eq]; omega
        clear hk hK h4 hv hi hj
        go_enter Tryz.func39, Tryz.ntmps39
        go_wp2_with (go_at_call 62; (with_reducible refine (HK.out _).mono ?_); rintro e w' ⟨rfl, rfl⟩)
        go_ret
        exact Ret0.of rfl
theorem sh_new_any (w : World) : Calls Tryz.prog 9 #[] w (fun e w' => ∃ v b : Nat, e = .returned (.pointer (some ⟨v, 0, none⟩)) ∧ w.heap.size ≤ v ∧ w.heap.size ≤ b ∧ Wtr w' v b ∧ Below w.heap.size w w') := by
  have HN := Lib.hid (fun w1 => re_new_any w1)
  go_enter Tryz.func9, Tryz.ntmps9
  go_wp2_with (first | (go_at_call 27; (with_reducible refine (HN.out _).mono ?_); rintro e w1 ⟨rfl, rd1, hb1⟩))
  go_ret
  refine ⟨w1.heap.size, w.heap.size, rfl, hb1.size, Nat.le_refl _, ⟨?_, by simp, Nat.ne_of_gt rd1.lt, rd1.on ((Below.refl _ _).alloc (Nat.le_refl _) _)⟩, hb1.alloc hb1.size _⟩
  simp [go_sem]
theorem sh_says_any (v b x : Nat) (n : Bool) (s : ByteArray) (X_ : Int) (w : World) (hW : Wtr w v b) (hr : Dc.right s.data.toList X_ = true) :
    Calls Tryz.prog 32 #[.pointer (some ⟨v, 0, none⟩), .agg #[.bool n, .string s, .int .i64 X_], .int .u64 x] w (RetR b (.bool (decide (Fl.wsign n + Fl.bits s.data.toList X_ = x))) w) := by
  have hlen := Dc.right_len hr
  rw [bs_length] at hlen
  have hB := fun w1 (h : Rdr w1 b) => re_bits_any b n s X_ w1 (by omega) h
  rw [Fl.readOf, if_pos hr] at hB
  obtain ⟨Y, hY⟩ : ∃ Y, Y = Fl.wsign n + Fl.bits s.data.toList X_ := ⟨_, rfl⟩
  rw [← hY] at hB ⊢
  have hb0 : Below w.heap.size w (w.alloc (Obj.cells #[Value.bool n, Value.string s, Value.int IntKind.i64 X_] 27)) := (Below.refl _ _).alloc (Nat.le_refl _) _
  have dd0 := DecB.new w n s X_
  have hW0 := hW.on hb0
  obtain ⟨c0, cl, cn, cr⟩ := hW0
  have hbl := hW.rd.lt
  have HB := Lib.hid hB
  have HF := Lib.hid (fun w2 (h : Onl b (w.alloc (Obj.cells #[Value.bool n, Value.string s, Value.int IntKind.i64 X_] 27)) w2) => (hW.rd.onl hb0).trans h)
  have hd : ((Y : Int) == (x : Int)) = decide (Y = x) := by
    rw [Bool.eq_iff_iff]; simp only [beq_iff_eq, decide_eq_true_eq]; omega
  obtain ⟨D, hD⟩ : ∃ D, D = decide (Y = x) := ⟨_, rfl⟩
  rw [← hD] at hd ⊢
  obtain ⟨d0, d1, d2, dl⟩ := dd0
  clear hB hY hW hlen hr hD
  go_enter Tryz.func32, Tryz.ntmps32
  go_upto_region 1 with (fail)
  obtain ⟨X, hX⟩ : ∃ X, X = (w.alloc (Obj.cells #[Value.bool n, Value.string s, Value.int IntKind.i64 X_] 27)) := ⟨_, rfl⟩
  rw [← hX] at c0 cl cr d0 d1 d2 dl HF ⊢
  obtain ⟨g, hg⟩ : ∃ g, g = w.heap.size := ⟨_, rfl⟩
  rw [← hg] at d0 d1 d2 dl ⊢
  clear hX hb0
  have hgb : g ≠ b := by omega
  clear hg
  have HRX := Lib.hid cr
  go_region_held3 (fun w' => w'.cell? ⟨v, 0, none⟩ = some (.pointer (some ⟨b, 0, none⟩)) ∧ w'.cell? ⟨g, 0, none⟩ = some (.bool n) ∧ w'.cell? ⟨g, 1, none⟩ = some (.string s) ∧ w'.cell? ⟨g, 2, none⟩ = some (.int .i64 X_))
    (first | go_keep | (refine ⟨?_, ?_, ?_, ?_⟩ <;> (first | (rw [hr0_w2]; assumption) | (rw [hr1_w2]; assumption))) | (refine ⟨?_, ?_, ?_, ?_⟩ <;> (first | (go_simp; done) | (simp [go_sem, *]; done))))
    (first | (go_at_call 67; (with_reducible refine (HB.out _ (HRX.out.on (by (repeat (first | exact Below.refl _ _ | assumption | refine Below.setCell ?_ (by first | omega | (simp <;> omega)) _ | refine Below.alloc ?_ (by first | omega | (simp <;> omega)) _ | refine Below.drew ?_ | refine below_drewN' ?_ _))))).mono ?_); rintro e w2 ⟨rfl, ho2, rd2⟩; have hO2 := HF.out w2 (Onl.trans (Rdr.onl (by (repeat (first | exact Below.refl _ _ | assumption | refine Below.setCell ?_ (by first | omega | (simp <;> omega)) _ | refine Below.alloc ?_ (by first | omega | (simp <;> omega)) _ | refine Below.drew ?_ | refine below_drewN' ?_ _))) HRX.out) ho2); have hr0_w2 := fun o => ho2.cell (k := v) (o := o) (by omega) (by (try simp only [zD, zN, zA, zS]); omega); have hr1_w2 := fun o => ho2.cell (k := g) (o := o) (by omega) (by (try simp only [zD, zN, zA, zS]); omega)))
  all_goals (try go_wp2)
  all_goals (go_ret; exact ⟨rfl, hO2, rd2⟩)
end Go.Proofs.YtiglekomfgfilaaGreatDoor

/- Decimals are compared; so are ints of 128 bits. -/
namespace Go.Proofs.YtiglekomfgfilaaGreatDoor
set_option linter.all false
open Go.RowKit
def dcEq (p0 q0 : Bool) (p1 q1 : ByteArray) (p2 q2 : Int) : Bool := p0 == q0 && (p1.toList == q1.toList && p2 == q2)
theorem dc_struct : Tryz.prog.underlying 27 = some (.struct (Tryz.prog.fieldsOf 27)) := by kernel_rfl
theorem dc_held : Tryz.prog.stoodInHeld 27 = false := by kernel_rfl
theorem dc_guardT : Tryz.prog.eqGuardType Tryz.prog.depth 27 = false := by kernel_rfl
theorem dc_fields : (Tryz.prog.fieldsOf 27).toList.map (fun f => (f.type, f.offset, f.name == "_")) = [(4, 0, false), (9, 1, false), (3, 2, false)] := by kernel_rfl
theorem dc_guard (op : BinOp) (x y : Operand) (xs ys : Array Value) (w : World) : (eqGuard op 27 x y (.agg xs) (.agg ys)).run Tryz.prog w = .ok () w := run_eqGuard_agg _ _ _ _ _ _ _ dc_guardT
theorem dc_equalIn (p0 q0 : Bool) (p1 q1 : ByteArray) (p2 q2 : Int) (w : World) :
    (Op.equalIn 10000 27 (.agg #[.bool p0, .string p1, .int .i64 p2]) (.agg #[.bool q0, .string q1, .int .i64 q2])).run Tryz.prog w = .ok (dcEq p0 q0 p1 q1 p2 q2) w := by
  rw [run_equalIn_agg _ 9999 _ _ _ dc_struct dc_held]
  have hf := dc_fields
  generalize (Tryz.prog.fieldsOf 27).toList = fs at hf
  have hl := congrArg List.length hf
  rw [List.length_map] at hl
  obtain ⟨f0, f1, f2, rfl⟩ : ∃ f0 f1 f2, fs = [f0, f1, f2] := by
    match fs, hl with
    | [a, b, c], _ => exact ⟨a, b, c, rfl⟩
  simp only [List.map_cons, List.map_nil, List.cons.injEq, Prod.mk.injEq, and_true] at hf
  obtain ⟨⟨t0, o0, n0⟩, ⟨t1, o1, n1⟩, ⟨t2, o2, n2⟩⟩ := hf
  have m0 := beq_eq_false_iff_ne.1 n0
  have m1 := beq_eq_false_iff_ne.1 n1
  have m2 := beq_eq_false_iff_ne.1 n2
  simp [Op.eqFields, dcEq, go_sem, t0, t1, t2, o0, o1, o2, m0, m1, m2, Tryz.underlying3, Tryz.underlying4, Tryz.underlying9]
  by_cases h0 : p0 = q0 <;> by_cases h1 : p1.toList = q1.toList <;> by_cases h2 : p2 = q2 <;> simp [h0, h1, h2]
theorem dc_neq (p0 q0 : Bool) (p1 q1 : ByteArray) (p2 q2 : Int) (w : World) :
    (binOp .neq 27 (.agg #[.bool p0, .string p1, .int .i64 p2]) (.agg #[.bool q0, .string q1, .int .i64 q2])).run Tryz.prog w = .ok (.bool (!(dcEq p0 q0 p1 q1 p2 q2))) w := by
  rw [run_neq_struct, dc_equalIn]; rfl
theorem dc_eql (p0 q0 : Bool) (p1 q1 : ByteArray) (p2 q2 : Int) (w : World) :
    (binOp .eql 27 (.agg #[.bool p0, .string p1, .int .i64 p2]) (.agg #[.bool q0, .string q1, .int .i64 q2])).run Tryz.prog w = .ok (.bool (dcEq p0 q0 p1 q1 p2 q2)) w := by
  rw [run_eql_struct, dc_equalIn]; rfl
end Go.Proofs.YtiglekomfgfilaaGreatDoor
