/- The Reader in the program: a new one. -/
import Derived.Test.YtiglekomfgfilaaGreatDoorZ24
import Derived.Test.YtiglekomfgfilaaGreatDoorZ8
import Derived.Test.YtiglekomfgfilaaGreatDoorZ9
import Derived.Test.YtiglekomfgfilaaGreatDoorZ26
namespace Go.Proofs.YtiglekomfgfilaaGreatDoor
set_option maxRecDepth 1000000
set_option linter.all false
open Go.RowKit
def slot0 : List Value := [.int .u32 0, .int .i32 0, .int .u32 0, .int .u64 0, .int .u64 0, .int .i64 0, .bool false]
def zeros : List Value := (List.replicate 801 slot0).flatten
theorem re_zero : Tryz.zeroCells98 = zeros.toArray := by kernel_rfl
theorem zeros_get : ∀ (m k j : Nat) (v : Value), k < m → slot0[j]? = some v → ((List.replicate m slot0).flatten)[k * 7 + j]? = some v := by
  intro m
  induction m with
  | zero => intro k j v hk; omega
  | succ m ih =>
    intro k j v hk hj
    have hjl : j < 7 := (List.getElem?_eq_some_iff.1 hj).1
    rw [List.replicate_succ, List.flatten_cons]
    cases k with
    | zero => rw [List.getElem?_append_left (by show _ < 7; omega)]; simpa using hj
    | succ k =>
      rw [List.getElem?_append_right (by show 7 ≤ _; omega), show (k + 1) * 7 + j - slot0.length = k * 7 + j by show _ - 7 = _; omega]
      exact ih k j v (by omega) hj
theorem Rdr.new {w w' : World} {Z : Array Value} {t : TypeId} (hZ : Z = zeros.toArray) (hw : w' = w.alloc (.cells Z t)) : Rdr w' w.heap.size := by
  have hcf : CF w' w.heap.size zeros := by rw [hw, hZ]; exact CF.new w zeros t
  refine ⟨hcf.1.1, hcf.2, fun n h1 h2 => Or.inl ?_⟩
  obtain ⟨k, hk⟩ : ∃ k : Nat, slotAt n = k * 7 ∧ k < 801 := ⟨(n + 400).toNat, by unfold slotAt; omega, by omega⟩
  have g := fun (j : Nat) (v : Value) (hj : slot0[j]? = some v) => hcf.1.get (k * 7 + j) (zeros_get 801 k j v hk.2 hj)
  rw [hk.1]
  exact ⟨g 0 _ rfl, g 1 _ rfl, g 3 _ rfl, g 4 _ rfl, g 5 _ rfl, g 6 _ rfl⟩
theorem re_new_any (w : World) : Calls Tryz.prog 27 #[] w (fun e w' => e = .returned (.pointer (some ⟨w.heap.size, 0, none⟩)) ∧ Rdr w' w.heap.size ∧ Below w.heap.size w w') := by
  go_enter Tryz.func27, Tryz.ntmps27
  go_wp2_with fail
  go_ret
  exact ⟨rfl, Rdr.new re_zero rfl, (Below.refl _ _).alloc (Nat.le_refl _) _⟩
end Go.Proofs.YtiglekomfgfilaaGreatDoor

/- Plain Lean: what is rounded to places is one of two neighbours, stays as it is when it is rounded again, and lies on the side that the way says. -/
namespace Go.Proofs.YtiglekomfgfilaaGreatDoor.Dc
set_option linter.all false
theorem core_le (l : Bs) : (core l).length ≤ l.length := Nat.le_trans (core_len l) (lead_len l)
theorem core_more (K : Bs) (hd : allDig K = true) : (core (more K)).length ≤ max 1 K.length := by
  by_cases h9 : ∀ c ∈ K, c = 57
  · rw [more_nines K h9]
    have := (core_split (49 :: List.replicate K.length 48) [] [49] (List.replicate K.length 48) rfl (by simp) (fun c hc => List.eq_of_mem_replicate hc) (by simp) (by intro c hc; simp at hc; subst hc; decide) (by intro c hc; simp at hc; subst hc; decide)).2
    rw [this]; simp; omega
  · have : (more K).length ≤ K.length := by
      have hne : no9 K ≠ [] := by
        intro e
        apply h9
        intro c hc
        rw [no9, Lib.trimRightB] at e
        have e2 : K.reverse.dropWhile (· == 57) = [] := by simpa using e
        have hs := List.takeWhile_append_dropWhile (p := (· == 57)) (l := K.reverse)
        rw [e2, List.append_nil] at hs
        have := List.all_eq_true.1 (List.all_takeWhile (l := K.reverse) (p := (· == 57))) c (by rw [hs]; simpa using hc)
        simpa using this
      cases hc : (no9 K).getLast? with
      | none => exact absurd (by simpa using hc) hne
      | some c =>
        have hp : 0 < (no9 K).length := List.length_pos_iff.2 hne
        have hl := no9_len K
        rw [more_cons hc, List.length_append, List.length_append, List.length_dropLast, Lib.repeatL_length]
        simp; omega
    have := core_le (more K)
    omega
end Go.Proofs.YtiglekomfgfilaaGreatDoor.Dc

/- Plain Lean: rounded to so many digits, as numbers; seventeen digits say a number. -/
namespace Go.Proofs.YtiglekomfgfilaaGreatDoor.Fl
set_option linter.all false
open Go
structure SigOk (s : Bool) (l : Dc.Bs) (x : Int) (k : Nat) (way : Int) (r : Dc.Res) : Prop where
  e : r.e = 0
  n : r.n = s
  right : Dc.right r.l r.x = true
  len : r.l.length ≤ k
  val : Dc.vv r.l r.x = Dc.rnd s way (Dc.vv l x) (Dc.unit ((k : Int) - (l.length + x))) * Dc.unit ((k : Int) - (l.length + x))
theorem sig_ok {s : Bool} {l : Dc.Bs} {x : Int} {k : Nat} {way : Int} (h : Dc.right l x = true) (hne : l ≠ []) (hk : 1 ≤ k ∧ k ≤ 100) (hw : 0 ≤ way ∧ way ≤ 5) (hx : -40000 ≤ x ∧ x ≤ 40000) : SigOk s l x k way (Dc.sig s l x k way) := by
  have hlen := Dc.right_len h
  have hpt : Dc.point l x = l.length + x := by rw [Dc.point, if_pos h]
  have hsp : Dc.sig s l x k way = Dc.place s l x ((k : Int) - (l.length + x)) way := by
    have hc1 : Dc.right l x = true ∧ 0 ≤ way ∧ way ≤ 5 ∧ 1 ≤ (k : Int) := ⟨h, hw.1, hw.2, by omega⟩
    have hc2 : Dc.right l x = true ∧ 0 ≤ way ∧ way ≤ 5 ∧ -100000 ≤ (k : Int) - (l.length + x) ∧ (k : Int) - (l.length + x) ≤ 100000 := ⟨h, hw.1, hw.2, by omega, by omega⟩
    rw [Dc.sig, if_pos hc1, Dc.place, if_pos hc2, hpt]
    by_cases hle : (l.length : Int) ≤ k
    · rw [if_pos hle, if_neg (by rintro ⟨-, h2⟩; omega)]
    · rw [if_neg hle, if_pos ⟨hne, by omega⟩]; congr 1; omega
  have hel : (Dc.sig s l x k way).e = 0 ∧ (Dc.sig s l x k way).l.length ≤ k := by
    rw [Dc.sig, if_pos ⟨h, hw.1, hw.2, by omega⟩]
    by_cases hle : (l.length : Int) ≤ k
    · rw [if_pos hle]; exact ⟨rfl, by show l.length ≤ k; omega⟩
    · rw [if_neg hle]
      have hd := Dc.right_dig h
      have hKd : Dc.allDig (l.take k) = true := Dc.dig_take hd k
      have hc : Dc.cut s l x k way = Dc.mk s (if Dc.up s (l.take k) (l.drop k) way then Dc.more (l.take k) else l.take k) (x + l.length - k) := by
        unfold Dc.cut
        simp only [if_neg (show ¬ ((k : Int) < 0) by omega), Int.toNat_natCast]
      rw [hc]
      have hl1 : (if Dc.up s (l.take k) (l.drop k) way then Dc.more (l.take k) else l.take k).length ≤ 101 := by
        split
        · have := Dc.more_len (l.take k); rw [List.length_take] at this; omega
        · rw [List.length_take]; omega
      have hlc : (Dc.core (if Dc.up s (l.take k) (l.drop k) way then Dc.more (l.take k) else l.take k)).length ≤ k := by
        split
        · have := Dc.core_more (l.take k) hKd
          rw [List.length_take] at this; omega
        · have := Dc.core_le (l.take k)
          rw [List.length_take] at this; omega
      have hdd : Dc.allDig (if Dc.up s (l.take k) (l.drop k) way then Dc.more (l.take k) else l.take k) = true := by split; exact (Dc.nv_more _ hKd).2; exact hKd
      generalize (if Dc.up s (l.take k) (l.drop k) way then Dc.more (l.take k) else l.take k) = ds at hl1 hlc hdd ⊢
      have hf := mk_fine s ds (x + l.length - k) hdd (by omega) (by omega)
      refine ⟨hf.1, ?_⟩
      by_cases h1 : Dc.core ds = []
      · rw [Dc.mk_zero hdd h1]; exact Nat.zero_le _
      · by_cases h2 : Dc.right (Dc.core ds) (x + l.length - k + Dc.tz ds) = true
        · rw [Dc.mk_ok hdd h1 h2]; exact hlc
        · have := hf.1
          rw [Dc.mk_over hdd h1 h2] at this; cases this
  have hpe := hel.1
  rw [hsp] at hpe
  obtain ⟨p1, p2, p3⟩ := Dc.place_rnd s l x ((k : Int) - (l.length + x)) way h hw (by omega) hpe
  rw [← hsp] at p1 p2 p3
  exact ⟨hel.1, p1, p2, hel.2, p3⟩
theorem sig_unit {l : Dc.Bs} {x : Int} {k : Nat} (h : Dc.right l x = true) (hne : l ≠ []) (hk : 1 ≤ k ∧ k ≤ 100) (hx : -40000 ≤ x ∧ x ≤ 40000) :
    10 ^ (k - 1) * Dc.unit ((k : Int) - (l.length + x)) ≤ Dc.vv l x ∧ Dc.vv l x < 10 ^ k * Dc.unit ((k : Int) - (l.length + x)) := by
  have hlen := Dc.right_len h
  obtain ⟨b1, b2⟩ := Dc.vv_bounds h hne
  have hlift : Dc.lift = 200000 := rfl
  unfold Dc.unit
  rw [← Nat.pow_add, ← Nat.pow_add]
  rw [show k - 1 + ((Dc.lift : Int) - ((k : Int) - (l.length + x))).toNat = ((l.length : Int) + x - 1 + Dc.lift).toNat by omega, show k + ((Dc.lift : Int) - ((k : Int) - (l.length + x))).toNat = ((l.length : Int) + x + Dc.lift).toNat by omega]
  exact ⟨b1, b2⟩
theorem rnd_half (n : Bool) (way : Int) (V U : Nat) (hU : 0 < U) (hw : way = 0 ∨ way = 1) : 2 * V ≤ 2 * (Dc.rnd n way V U * U) + U ∧ 2 * (Dc.rnd n way V U * U) ≤ 2 * V + U := by
  have h1 := Nat.div_add_mod V U
  have h2 := Nat.mod_lt V hU
  obtain ⟨q, hq⟩ : ∃ q, q = V / U := ⟨_, rfl⟩
  obtain ⟨r, hr⟩ : ∃ q, q = V % U := ⟨_, rfl⟩
  have hqu : U * q = q * U := Nat.mul_comm _ _
  rw [Dc.rnd, ← hq, ← hr]
  rw [← hq, ← hr] at h1
  rw [← hr] at h2
  have hup : Dc.ups n way q r U = true → U ≤ 2 * r := by
    intro h
    unfold Dc.ups at h
    rw [Bool.and_eq_true] at h
    rcases hw with rfl | rfl
    · rw [if_pos rfl, Bool.or_eq_true, Bool.and_eq_true] at h
      rcases h.2 with h3 | h3
      · have := of_decide_eq_true h3; omega
      · have := of_decide_eq_true h3.1; omega
    · rw [if_neg (by decide), if_pos rfl] at h
      exact of_decide_eq_true h.2
  have hdn : ¬ Dc.ups n way q r U = true → 2 * r ≤ U := by
    intro h
    rcases Nat.lt_or_ge U (2 * r) with h3 | h3
    · exfalso
      apply h
      unfold Dc.ups
      rcases hw with rfl | rfl
      · rw [if_pos rfl, decide_eq_true (show r ≠ 0 by omega), decide_eq_true h3]; rfl
      · rw [if_neg (by decide), if_pos rfl, decide_eq_true (show r ≠ 0 by omega), decide_eq_true (show U ≤ 2 * r by omega)]; rfl
    · exact h3
  split
  · rename_i hu
    have := hup hu
    rw [Nat.add_mul, Nat.one_mul]; omega
  · rename_i hu
    have := hdn hu
    rw [Nat.add_zero]; omega
theorem V_gap (b : Nat) : V b < 10000000000000000 * (V (b + 1) - V b) ∧ (0 < b → V b < 10000000000000000 * (V b - V (b - 1))) := by
  constructor
  · obtain ⟨j, m, -, hm, h1, h2, -⟩ := V_split b
    have hp : 0 < 2 ^ j := Nat.pow_pos (by decide)
    rw [h1, h2, Nat.add_mul, Nat.one_mul, Nat.add_sub_cancel_left]
    exact Nat.mul_lt_mul_of_pos_right (by omega) hp
  · intro h0
    obtain ⟨c, rfl⟩ : ∃ c, b = c + 1 := ⟨b - 1, by omega⟩
    obtain ⟨j, m, -, hm, h1, h2, -⟩ := V_split c
    have hp : 0 < 2 ^ j := Nat.pow_pos (by decide)
    rw [Nat.add_sub_cancel, h1, h2, show (m + 1) * 2 ^ j - m * 2 ^ j = 2 ^ j by rw [Nat.add_mul, Nat.one_mul, Nat.add_sub_cancel_left]]
    exact Nat.mul_lt_mul_of_pos_right (by omega) hp
theorem near_close {b V0 N U : Nat} (hb : b ≤ 9218868437227405312) (hv : V0 * 2 ^ low = V b * 10 ^ Dc.lift) (hu : 10000000000000000 * U ≤ V0) (h1 : 2 * V0 ≤ 2 * N + U) (h2 : 2 * N ≤ 2 * V0 + U) : Near (N * 2 ^ low) (10 ^ Dc.lift) b := by
  obtain ⟨Q, hQ⟩ : ∃ Q, Q = 2 ^ low := ⟨_, rfl⟩
  obtain ⟨T, hT⟩ : ∃ Q, Q = 10 ^ Dc.lift := ⟨_, rfl⟩
  have hQp : 0 < Q := by rw [hQ]; exact Nat.pow_pos (by decide)
  have hTp : 0 < T := by rw [hT]; exact Nat.pow_pos (by decide)
  rw [← hQ, ← hT] at hv
  rw [← hQ, ← hT]
  obtain ⟨g1, g2⟩ := V_gap b
  have e1 := Nat.mul_le_mul_right Q hu
  have e2 := Nat.mul_le_mul_right Q h1
  have e3 := Nat.mul_le_mul_right Q h2
  rw [Nat.add_mul, Nat.mul_assoc, Nat.mul_assoc] at e2 e3
  rw [Nat.mul_assoc, hv] at e1
  rw [hv] at e2 e3
  have k1 := Nat.mul_lt_mul_of_pos_right g1 hTp
  rw [Nat.mul_assoc, Nat.sub_mul] at k1
  have hs := Nat.mul_lt_mul_of_pos_right (V_succ b) hTp
  obtain ⟨A, hA⟩ : ∃ A, A = U * Q := ⟨_, rfl⟩
  obtain ⟨B, hB⟩ : ∃ A, A = V b * T := ⟨_, rfl⟩
  obtain ⟨C, hC⟩ : ∃ A, A = V (b + 1) * T := ⟨_, rfl⟩
  obtain ⟨E, hE⟩ : ∃ A, A = N * Q := ⟨_, rfl⟩
  rw [← hA, ← hB] at e1
  rw [← hA, ← hB, ← hE] at e2 e3
  rw [← hB, ← hC] at k1 hs
  refine ⟨hb, ?_, Or.inr (Or.inl ?_)⟩
  · by_cases h0 : b = 0
    · exact Or.inl h0
    · right; left
      have k2 := Nat.mul_lt_mul_of_pos_right (g2 (by omega)) hTp
      rw [Nat.mul_assoc, Nat.sub_mul] at k2
      have hs2 : V (b - 1) * T < V b * T := Nat.mul_lt_mul_of_pos_right (V_lt (by omega)) hTp
      obtain ⟨D, hD⟩ : ∃ A, A = V (b - 1) * T := ⟨_, rfl⟩
      rw [← hB, ← hD] at k2 hs2
      rw [Nat.add_mul, ← hD, ← hB, ← hE]
      omega
  · rw [Nat.add_mul, ← hB, ← hC, ← hE]
    omega
theorem seventeen {b : Nat} {s : Bool} {l : Dc.Bs} {X : Int} (hb : b ≤ 9218868437227405312) (hr : Dc.right l X = true) (hne : l ≠ []) (hX : -40000 ≤ X ∧ X ≤ 40000) (hv : Dc.vv l X * 2 ^ low = V b * 10 ^ Dc.lift) :
    bits (Dc.sig s l X 17 0).l (Dc.sig s l X 17 0).x = b := by
  have hs := sig_ok (s := s) (k := 17) (way := 0) hr hne (by omega) (by omega) hX
  have hu := sig_unit (k := 17) hr hne (by omega) hX
  have hU : 0 < Dc.unit (((17 : Nat) : Int) - (l.length + X)) := Dc.unit_pos _
  obtain ⟨r1, r2⟩ := rnd_half s 0 (Dc.vv l X) _ hU (Or.inl rfl)
  refine (bits_eq (Dc.right_exp hs.right).1 ?_).symm
  have hval := hs.val
  have : Near (Dc.vv (Dc.sig s l X ((17 : Nat) : Int) 0).l (Dc.sig s l X ((17 : Nat) : Int) 0).x * 2 ^ low) (10 ^ Dc.lift) b := by
    rw [hval]
    refine near_close hb hv ?_ r1 r2
    have := hu.1
    exact this
  exact this
end Go.Proofs.YtiglekomfgfilaaGreatDoor.Fl

/- Plain Lean: the nearest fraction is in its lowest terms; a number of eighths is told as it is. -/
namespace Go.Proofs.YtiglekomfgfilaaGreatDoor.Fl
set_option linter.all false
open Go
end Go.Proofs.YtiglekomfgfilaaGreatDoor.Fl

/- Plain Lean: the whole part of a number, as a decimal. -/
namespace Go.Proofs.YtiglekomfgfilaaGreatDoor.Fl
set_option linter.all false
open Go
def whole (x : Nat) : Nat := if 0 ≤ expn x then mant x * 2 ^ (expn x).toNat else mant x / 2 ^ (-expn x).toNat
end Go.Proofs.YtiglekomfgfilaaGreatDoor.Fl

/- Plain Lean: the decimal of the fewest digits that is read as a number. -/
namespace Go.Proofs.YtiglekomfgfilaaGreatDoor.Fl
set_option linter.all false
open Go
def says (r : Dc.Res) (b : Nat) : Bool := decide (bits r.l r.x = b)
def same (r t : Dc.Res) : Bool := decide (r.l = t.l ∧ r.x = t.x)
def tryN (s : Bool) (l : Dc.Bs) (x : Int) (b : Nat) (n : Nat) : Option Dc.Res :=
  if says (Dc.sig s l x n 0) b = true then some (Dc.sig s l x n 0)
  else if same (Dc.sig s l x n 2) (Dc.sig s l x n 0) = false ∧ says (Dc.sig s l x n 2) b = true then some (Dc.sig s l x n 2)
  else if same (Dc.sig s l x n 3) (Dc.sig s l x n 0) = false ∧ says (Dc.sig s l x n 3) b = true then some (Dc.sig s l x n 3)
  else none
def search (s : Bool) (l : Dc.Bs) (x : Int) (b : Nat) : Nat → Nat → Dc.Res
  | 0, n => Dc.sig s l x n 0
  | k + 1, n => match tryN s l x b n with
    | some r => r
    | none => search s l x b k (n + 1)
def short (s : Bool) (l : Dc.Bs) (x : Int) (b : Nat) : Dc.Res := search s l x b 16 1
theorem tryN_says {s : Bool} {l : Dc.Bs} {x : Int} {b n : Nat} {r : Dc.Res} (h : tryN s l x b n = some r) : says r b = true ∧ (r = Dc.sig s l x n 0 ∨ r = Dc.sig s l x n 2 ∨ r = Dc.sig s l x n 3) := by
  unfold tryN at h
  split at h
  · rename_i c; cases h; exact ⟨c, Or.inl rfl⟩
  · split at h
    · rename_i c; cases h; exact ⟨c.2, Or.inr (Or.inl rfl)⟩
    · split at h
      · rename_i c; cases h; exact ⟨c.2, Or.inr (Or.inr rfl)⟩
      · cases h
theorem says_same {r t : Dc.Res} {b : Nat} (h : same r t = true) : says r b = says t b := by
  obtain ⟨a, c⟩ := of_decide_eq_true h
  unfold says; rw [a, c]
theorem tryN_none {s : Bool} {l : Dc.Bs} {x : Int} {b n : Nat} (h : tryN s l x b n = none) : says (Dc.sig s l x n 0) b = false ∧ says (Dc.sig s l x n 2) b = false ∧ says (Dc.sig s l x n 3) b = false := by
  unfold tryN at h
  split at h
  · cases h
  · rename_i c0
    have c0 := Bool.eq_false_iff.2 c0
    split at h
    · cases h
    · rename_i c1
      split at h
      · cases h
      · rename_i c2
        refine ⟨c0, ?_, ?_⟩
        · cases hs : same (Dc.sig s l x n 2) (Dc.sig s l x n 0) with
          | true => rw [says_same hs]; exact c0
          | false => exact Bool.eq_false_iff.2 (fun e => c1 ⟨hs, e⟩)
        · cases hs : same (Dc.sig s l x n 3) (Dc.sig s l x n 0) with
          | true => rw [says_same hs]; exact c0
          | false => exact Bool.eq_false_iff.2 (fun e => c2 ⟨hs, e⟩)
theorem search_end {s : Bool} {l : Dc.Bs} {x : Int} {b : Nat} : ∀ (k n : Nat), ∃ m, n ≤ m ∧ m ≤ n + k ∧ (∀ i, n ≤ i → i < m → tryN s l x b i = none) ∧ (tryN s l x b m = some (search s l x b k n) ∨ m = n + k ∧ search s l x b k n = Dc.sig s l x m 0)
  | 0, n => ⟨n, Nat.le_refl _, Nat.le_refl _, fun i h1 h2 => absurd h1 (by omega), Or.inr ⟨rfl, rfl⟩⟩
  | k + 1, n => by
    unfold search
    cases h : tryN s l x b n with
    | some r => exact ⟨n, Nat.le_refl _, by omega, fun i h1 h2 => absurd h1 (by omega), Or.inl h⟩
    | none =>
      obtain ⟨m, h1, h2, h3, h4⟩ := search_end (s := s) (l := l) (x := x) (b := b) k (n + 1)
      refine ⟨m, by omega, by omega, fun i i1 i2 => ?_, ?_⟩
      · by_cases e : i = n
        · rw [e]; exact h
        · exact h3 i (by omega) i2
      · rcases h4 with h4 | ⟨h4, h5⟩
        · exact Or.inl h4
        · exact Or.inr ⟨by omega, h5⟩
theorem short_fine {b : Nat} {s : Bool} {l : Dc.Bs} {X : Int} (hb : b ≤ 9218868437227405312) (hr : Dc.right l X = true) (hne : l ≠ []) (hX : -40000 ≤ X ∧ X ≤ 40000) (hv : Dc.vv l X * 2 ^ low = V b * 10 ^ Dc.lift) :
    ∃ m : Nat, 1 ≤ m ∧ m ≤ 17 ∧ (short s l X b).e = 0 ∧ (short s l X b).n = s ∧ Dc.right (short s l X b).l (short s l X b).x = true ∧ (short s l X b).l.length ≤ m ∧ bits (short s l X b).l (short s l X b).x = b ∧
      (∀ i, 1 ≤ i → i < m → says (Dc.sig s l X i 2) b = false ∧ says (Dc.sig s l X i 3) b = false) ∧ (∃ way, (way = 0 ∨ way = 2 ∨ way = 3) ∧ short s l X b = Dc.sig s l X m way) := by
  obtain ⟨m, h1, h2, h3, h4⟩ := search_end (s := s) (l := l) (x := X) (b := b) 16 1
  have hw : ∃ way, (way = 0 ∨ way = 2 ∨ way = 3) ∧ short s l X b = Dc.sig s l X m way := by
    rcases h4 with h4 | ⟨-, h4⟩
    · rcases (tryN_says h4).2 with h5 | h5 | h5
      · exact ⟨0, Or.inl rfl, h5⟩
      · exact ⟨2, Or.inr (Or.inl rfl), h5⟩
      · exact ⟨3, Or.inr (Or.inr rfl), h5⟩
    · exact ⟨0, Or.inl rfl, h4⟩
  have hbits : bits (short s l X b).l (short s l X b).x = b := by
    rcases h4 with h4 | ⟨h4, h5⟩
    · exact of_decide_eq_true (tryN_says h4).1
    · show bits (search s l X b 16 1).l (search s l X b 16 1).x = b
      rw [h5, h4]; exact seventeen hb hr hne hX hv
  obtain ⟨way, w1, w2⟩ := hw
  have hs := sig_ok (s := s) (k := m) (way := way) hr hne (by omega) (by omega) hX
  rw [← w2] at hs
  exact ⟨m, h1, by omega, hs.e, hs.n, hs.right, hs.len, hbits, fun i i1 i2 => (tryN_none (h3 i i1 i2)).2, way, w1, w2⟩
end Go.Proofs.YtiglekomfgfilaaGreatDoor.Fl

/- Plain Lean: the document's choice is the program's; a decimal of at most fifteen digits comes back. -/
namespace Go.Proofs.YtiglekomfgfilaaGreatDoor.Fl
set_option linter.all false
open Go
theorem V_gap_high (b : Nat) (hn : 4503599627370496 ≤ b) : 4503599627370496 * (V (b + 1) - V b) ≤ V b ∧ 4503599627370496 * (V b - V (b - 1)) ≤ V b := by
  constructor
  · obtain ⟨j, m, hb, hm, h1, h2, -⟩ := V_split b
    rw [h1, h2, Nat.add_mul, Nat.one_mul, Nat.add_sub_cancel_left]
    exact Nat.mul_le_mul_right _ (by rcases hm with ⟨e, -⟩ | ⟨e, -⟩ <;> omega)
  · obtain ⟨c, rfl⟩ : ∃ c, b = c + 1 := ⟨b - 1, by omega⟩
    obtain ⟨j, m, hb, hm, h1, h2, -⟩ := V_split c
    rw [Nat.add_sub_cancel, h1, h2, show (m + 1) * 2 ^ j - m * 2 ^ j = 2 ^ j by rw [Nat.add_mul, Nat.one_mul, Nat.add_sub_cancel_left]]
    exact Nat.mul_le_mul_right _ (by rcases hm with ⟨e, -⟩ | ⟨e, -⟩ <;> omega)
theorem says_close {b V0 V1 : Nat} (hn : 4503599627370496 ≤ b) (hb : b < 9218868437227405312) (hv : V0 * 2 ^ low = V b * 10 ^ Dc.lift) (h : Near (V1 * 2 ^ low) (10 ^ Dc.lift) b) :
    9007199254740992 * V1 ≤ 9007199254740992 * V0 + V0 ∧ 9007199254740992 * V0 ≤ 9007199254740992 * V1 + V0 := by
  obtain ⟨Q, hQ⟩ : ∃ Q, Q = 2 ^ low := ⟨_, rfl⟩
  obtain ⟨T, hT⟩ : ∃ Q, Q = 10 ^ Dc.lift := ⟨_, rfl⟩
  have hQp : 0 < Q := by rw [hQ]; exact Nat.pow_pos (by decide)
  obtain ⟨-, n1, n2⟩ := h
  rw [← hQ, ← hT] at hv
  rw [← hQ, ← hT] at n1 n2
  obtain ⟨g1, g2⟩ := V_gap_high b hn
  have g1 := Nat.mul_le_mul_right T g1
  have g2 := Nat.mul_le_mul_right T g2
  rw [Nat.mul_assoc, Nat.sub_mul] at g1 g2
  have s1 : V b * T ≤ V (b + 1) * T := Nat.mul_le_mul_right _ (V_le (Nat.le_succ _))
  have s2 : V (b - 1) * T ≤ V b * T := Nat.mul_le_mul_right _ (V_le (Nat.sub_le _ _))
  have m1 : (V (b - 1) + V b) * T ≤ 2 * (V1 * Q) := by rcases n1 with e | e | e <;> omega
  have m2 : 2 * (V1 * Q) ≤ (V b + V (b + 1)) * T := by rcases n2 with e | e | e <;> omega
  rw [Nat.add_mul] at m1 m2
  obtain ⟨B, hB⟩ : ∃ A, A = V b * T := ⟨_, rfl⟩
  obtain ⟨C, hC⟩ : ∃ A, A = V (b + 1) * T := ⟨_, rfl⟩
  obtain ⟨D, hD⟩ : ∃ A, A = V (b - 1) * T := ⟨_, rfl⟩
  obtain ⟨E, hE⟩ : ∃ A, A = V1 * Q := ⟨_, rfl⟩
  rw [← hB, ← hC] at g1
  rw [← hB, ← hD] at g2
  rw [← hB, ← hC] at s1
  rw [← hB, ← hD] at s2
  rw [← hB, ← hD, ← hE] at m1
  rw [← hB, ← hC, ← hE] at m2
  rw [← hB] at hv
  constructor
  · refine Nat.le_of_mul_le_mul_right ?_ hQp
    rw [Nat.add_mul, Nat.mul_assoc, Nat.mul_assoc, hv, ← hE]; omega
  · refine Nat.le_of_mul_le_mul_right ?_ hQp
    rw [Nat.add_mul, Nat.mul_assoc, Nat.mul_assoc, hv, ← hE]; omega
theorem fifteen {b : Nat} {s : Bool} {l l' : Dc.Bs} {X X' : Int} {way : Int} (hn : 4503599627370496 ≤ b) (hb : b < 9218868437227405312) (hr : Dc.right l X = true) (hne : l ≠ []) (hX : -40000 ≤ X ∧ X ≤ 40000) (hv : Dc.vv l X * 2 ^ low = V b * 10 ^ Dc.lift)
    (hr' : Dc.right l' X' = true) (hl' : l'.length ≤ 15) (hbits : bits l' X' = b) (hw : way = 0 ∨ way = 1) : Dc.sig s l X 15 way = ⟨s, l', X', 0⟩ := by
  have hs := sig_ok (s := s) (k := 15) (way := way) hr hne (by omega) (by omega) hX
  obtain ⟨u1, u2⟩ := sig_unit (k := 15) hr hne (by omega) hX
  have hU : 0 < Dc.unit (((15 : Nat) : Int) - (l.length + X)) := Dc.unit_pos _
  have hnear := bits_near l' X' (Dc.right_exp hr').1
  rw [hbits] at hnear
  obtain ⟨c1, c2⟩ := says_close hn hb hv hnear
  have hlift : Dc.lift = 200000 := rfl
  have hlen := Dc.right_len hr
  have hx' := Dc.right_exp hr'
  have hl0 : 0 < l.length := List.length_pos_iff.2 hne
  obtain ⟨W, hW⟩ : ∃ W, W = Dc.vv l X := ⟨_, rfl⟩
  obtain ⟨W', hW'⟩ : ∃ W, W = Dc.vv l' X' := ⟨_, rfl⟩
  obtain ⟨u, hu⟩ : ∃ u, u = (Dc.lift - (((15 : Nat) : Int) - (l.length + X)) : Int).toNat := ⟨_, rfl⟩
  obtain ⟨c, hc⟩ : ∃ c, c = (X' + Dc.lift : Int).toNat := ⟨_, rfl⟩
  have hUu : Dc.unit (((15 : Nat) : Int) - (l.length + X)) = 10 ^ u := by rw [Dc.unit, hu]
  have hval := hs.val
  rw [hUu] at u1 u2 hU hval
  rw [← hW] at u1 u2 c1 c2 hval
  rw [← hW'] at c1 c2
  have e14 : (10 : Nat) ^ (15 - 1) = 100000000000000 := by decide
  have e15 : (10 : Nat) ^ 15 = 1000000000000000 := by decide
  rw [e14] at u1
  rw [e15] at u2
  have hW'v : W' = Dc.nv l' * 10 ^ c := by rw [hW', Dc.vv, hc]
  have hnvl : Dc.nv l' < 1000000000000000 := by
    have h1 := Dc.nv_lt (Dc.right_dig hr')
    have h2 : 10 ^ l'.length ≤ 10 ^ 15 := Nat.pow_le_pow_right (by decide) hl'
    omega
  -- it is whole units
  have hmul : ∃ k, W' = k * 10 ^ u := by
    by_cases hcu : u ≤ c
    · obtain ⟨d, hd⟩ : ∃ d, c = d + u := ⟨c - u, by omega⟩
      exact ⟨Dc.nv l' * 10 ^ d, by rw [hW'v, hd, Nat.pow_add, Nat.mul_assoc]⟩
    · exfalso
      obtain ⟨d, hd⟩ : ∃ d, u = d + 1 + c := ⟨u - 1 - c, by omega⟩
      have hP : 0 < 10 ^ c := Nat.pow_pos (by decide)
      obtain ⟨P, hPe⟩ : ∃ P, P = 10 ^ c := ⟨_, rfl⟩
      have hUP : 10 ^ u = 10 ^ d * 10 * P := by rw [hd, Nat.pow_add, Nat.pow_succ, hPe]
      rw [← hPe] at hW'v hP
      have hd0 : d = 0 := by
        rcases Nat.eq_zero_or_pos d with h | h
        · exact h
        · exfalso
          have h10 : 10 ^ 1 ≤ 10 ^ d := Nat.pow_le_pow_right (by decide) h
          have h3 : 10 * 10 * P ≤ 10 ^ u := by rw [hUP]; exact Nat.mul_le_mul_right _ (Nat.mul_le_mul_right _ h10)
          have h4 : W' ≤ 1000000000000000 * P := by rw [hW'v]; exact Nat.mul_le_mul_right _ (by omega)
          omega
      rw [hd0, Nat.pow_zero, Nat.one_mul] at hUP
      rw [hUP] at u1 u2
      have h4 : W' + P ≤ 1000000000000000 * P := by
        rw [hW'v]
        have := Nat.mul_le_mul_right P (show Dc.nv l' + 1 ≤ 1000000000000000 by omega)
        rw [Nat.add_mul, Nat.one_mul] at this; exact this
      omega
  obtain ⟨k, hk⟩ := hmul
  obtain ⟨U, hUe⟩ : ∃ U, U = 10 ^ u := ⟨_, rfl⟩
  rw [← hUe] at hk u1 u2 hU hval
  obtain ⟨r1, r2⟩ := rnd_half s way W U hU hw
  have hR : Dc.rnd s way W U = k := by
    obtain ⟨R, hRe⟩ : ∃ R, R = Dc.rnd s way W U := ⟨_, rfl⟩
    rw [← hRe] at r1 r2 ⊢
    have d1 : 2 * (k * U) < 2 * W + U := by omega
    have d2 : 2 * W < 2 * (k * U) + U := by omega
    have f1 : k * U < (R + 1) * U := by rw [Nat.add_mul, Nat.one_mul]; omega
    have f2 : R * U < (k + 1) * U := by rw [Nat.add_mul, Nat.one_mul]; omega
    have f3 := Nat.lt_of_mul_lt_mul_right f1
    have f4 := Nat.lt_of_mul_lt_mul_right f2
    omega
  rw [hR, ← hk, hW'] at hval
  obtain ⟨i1, i2⟩ := Dc.vv_inj hs.right hr' hval
  have i3 := hs.n; have i4 := hs.e
  show Dc.sig s l X ((15 : Nat) : Int) way = _
  rcases hq : Dc.sig s l X ((15 : Nat) : Int) way with ⟨a, b', c', d'⟩
  rw [hq] at i1 i2 i3 i4
  simp only at i1 i2 i3 i4
  rw [i1, i2, i3, i4]
theorem short_fifteen {b : Nat} {s : Bool} {l l' : Dc.Bs} {X X' : Int} (hn : 4503599627370496 ≤ b) (hb : b < 9218868437227405312) (hr : Dc.right l X = true) (hne : l ≠ []) (hX : -40000 ≤ X ∧ X ≤ 40000) (hv : Dc.vv l X * 2 ^ low = V b * 10 ^ Dc.lift)
    (hr' : Dc.right l' X' = true) (hl' : l'.length ≤ 15) (hbits : bits l' X' = b) : short s l X b = ⟨s, l', X', 0⟩ := by
  have h15 := fifteen (s := s) (way := 0) hn hb hr hne hX hv hr' hl' hbits (Or.inl rfl)
  obtain ⟨m, h1, h2, h3, h4⟩ := search_end (s := s) (l := l) (x := X) (b := b) 16 1
  have hm : m ≤ 15 := by
    rcases Nat.lt_or_ge 15 m with h | h
    · exfalso
      have := (tryN_none (h3 15 (by omega) h)).1
      have e : Dc.sig s l X ((15 : Nat) : Int) 0 = ⟨s, l', X', 0⟩ := h15
      rw [e] at this
      have t : says ⟨s, l', X', 0⟩ b = true := decide_eq_true hbits
      rw [t] at this; cases this
    · exact h
  have h4' : tryN s l X b m = some (short s l X b) := by
    rcases h4 with h4 | ⟨h4, -⟩
    · exact h4
    · omega
  obtain ⟨q1, q2⟩ := tryN_says h4'
  have hw : ∃ way, (0 ≤ way ∧ way ≤ 5) ∧ short s l X b = Dc.sig s l X m way := by
    rcases q2 with e | e | e
    · exact ⟨0, by omega, e⟩
    · exact ⟨2, by omega, e⟩
    · exact ⟨3, by omega, e⟩
  obtain ⟨way, w1, w2⟩ := hw
  have hs := sig_ok (s := s) (k := m) (way := way) hr hne (by omega) w1 hX
  rw [← w2] at hs
  have h15' := fifteen (s := s) (way := 0) hn hb hr hne hX hv hs.right (by have := hs.len; omega) (of_decide_eq_true q1) (Or.inl rfl)
  have e : (⟨s, l', X', 0⟩ : Dc.Res) = ⟨s, (short s l X b).l, (short s l X b).x, 0⟩ := h15.symm.trans h15'
  have i3 := hs.n; have i4 := hs.e
  rcases hq : short s l X b with ⟨a, b', c', d'⟩
  rw [hq] at e i3 i4
  simp only [Dc.Res.mk.injEq] at e i3 i4
  obtain ⟨-, e1, e2, -⟩ := e
  rw [← e1, ← e2, i3, i4]
end Go.Proofs.YtiglekomfgfilaaGreatDoor.Fl

/- Plain Lean: what the writer of numbers tells: the shortest decimal, the text, what a text is read as; chapter 10's laws. -/
namespace Go.Proofs.YtiglekomfgfilaaGreatDoor.Fl
set_option linter.all false
open Go
def nanS : Dc.Bs := [110, 97, 110]
def infS : Dc.Bs := [105, 110, 102]
def ninfS : Dc.Bs := [45, 105, 110, 102]
def wdec (x : Nat) : Dc.Res := if 3 ≤ kind x then ⟨false, [], 0, 11⟩ else if (dec x).l = [] then dec x else short (neg x) (dec x).l (dec x).x (x % 9223372036854775808)
def wname (x : Nat) : Dc.Bs := if kind x = 4 then nanS else if x = 9218868437227405312 then infS else if x = 18442240474082181120 then ninfS else []
def wprint (x : Nat) : Dc.Bs := if wname x ≠ [] then wname x else Dc.print (wdec x).n (wdec x).l (wdec x).x
def wparse (s : Dc.Bs) : Nat × Int :=
  if s = nanS then (9221120237041090560, 0) else if s = infS then (9218868437227405312, 0) else if s = ninfS then (18442240474082181120, 0)
  else if (readS s).2 ≠ 0 then (0, (readS s).2) else if wprint (readS s).1 ≠ s then (0, 3) else ((readS s).1, 0)
theorem mk_x (s : Bool) (l : Dc.Bs) (y : Int) : (Dc.mk s l y).x = 0 ∨ (Dc.mk s l y).x = y + Dc.tz l := by
  unfold Dc.mk
  split
  · split
    · exact Or.inl rfl
    · split
      · exact Or.inr rfl
      · exact Or.inl rfl
  · exact Or.inl rfl
theorem of_x (s : Bool) (n : Nat) (e : Int) (hn : n < 2 ^ 54) (he : -1075 ≤ e ∧ e ≤ 971) : -2000 ≤ (of s n e).x ∧ (of s n e).x ≤ 2000 := by
  by_cases h0 : 0 ≤ e
  · have hl := up_len hn (show e.toNat ≤ n971 by unfold n971; omega)
    rw [of, if_pos h0]
    have ht := Dc.tz_le (Lib.decDigits (n * 2 ^ e.toNat))
    rcases mk_x s (Lib.decDigits (n * 2 ^ e.toNat)) 0 with h | h <;> rw [h] <;> omega
  · rw [of, if_neg h0]
    have hk := (halve_le (-e).toNat n).2
    have hl : (Lib.decDigits ((halve (-e).toNat n).1 * 5 ^ (halve (-e).toNat n).2)).length ≤ 800 := mid_len (Nat.lt_of_le_of_lt (halve_le (-e).toNat n).1 hn) (K := 1075) (by omega) rfl
    have ht := Dc.tz_le (Lib.decDigits ((halve (-e).toNat n).1 * 5 ^ (halve (-e).toNat n).2))
    rcases mk_x s (Lib.decDigits ((halve (-e).toNat n).1 * 5 ^ (halve (-e).toNat n).2)) (-((halve (-e).toNat n).2 : Int)) with h | h <;> rw [h] <;> omega
theorem decx_fine (x : Nat) (h : kind x < 3) : (dec x).e = 0 ∧ (dec x).n = neg x ∧ Dc.right (dec x).l (dec x).x = true ∧ -2000 ≤ (dec x).x ∧ (dec x).x ≤ 2000 ∧ Dc.vv (dec x).l (dec x).x * 2 ^ low = V (x % 9223372036854775808) * 10 ^ Dc.lift ∧ bits (dec x).l (dec x).x = x % 9223372036854775808 := by
  obtain ⟨hI, hw⟩ := dec_worth x h
  have hm := mant_lt x
  have he := expn_bound x
  have hx := of_x (neg x) (mant x) (expn x) (by omega) (by omega)
  have hb := bits_dec x h
  have e : dec x = ⟨(of (neg x) (mant x) (expn x)).n, (of (neg x) (mant x) (expn x)).l, (of (neg x) (mant x) (expn x)).x, 0⟩ := by rw [dec, if_neg (by omega), okd]
  rw [e]
  exact ⟨rfl, hI.sign, hI.right, hx.1, hx.2, hw, hb⟩
theorem V_le_inf {x : Nat} (h : kind x < 3) : x % 9223372036854775808 < 9218868437227405312 := (V_parts x h).2
theorem wdec_fine (x : Nat) (h : kind x < 3) : (wdec x).e = 0 ∧ (wdec x).n = neg x ∧ Dc.right (wdec x).l (wdec x).x = true ∧ (wdec x).l.length ≤ 17 ∧ bits (wdec x).l (wdec x).x = x % 9223372036854775808 ∧
    ∀ i, 1 ≤ i → i < (wdec x).l.length → bits (Dc.sig (neg x) (dec x).l (dec x).x i 2).l (Dc.sig (neg x) (dec x).l (dec x).x i 2).x ≠ x % 9223372036854775808 ∧ bits (Dc.sig (neg x) (dec x).l (dec x).x i 3).l (Dc.sig (neg x) (dec x).l (dec x).x i 3).x ≠ x % 9223372036854775808 := by
  obtain ⟨d1, d2, d3, d4, d5, d6, d7⟩ := decx_fine x h
  unfold wdec
  rw [if_neg (by omega)]
  by_cases h0 : (dec x).l = []
  · rw [if_pos h0]
    exact ⟨d1, d2, d3, by rw [h0]; decide, d7, fun i h1 h2 => by rw [h0] at h2; simp at h2⟩
  · rw [if_neg h0]
    obtain ⟨m, m1, m2, k1, k2, k3, k4, k5, k6, -⟩ := short_fine (s := neg x) (Nat.le_of_lt (V_le_inf h)) d3 h0 (by omega) d6
    exact ⟨k1, k2, k3, by omega, k5, fun i h1 h2 => by
      obtain ⟨a, b⟩ := k6 i h1 (by omega)
      exact ⟨of_decide_eq_false a, of_decide_eq_false b⟩⟩
theorem ten_parts {a b c d : Nat} (h : a + b = c + d) : (10 : Nat) ^ a * 10 ^ b = 10 ^ c * 10 ^ d := by rw [← Nat.pow_add, ← Nat.pow_add, h]
theorem res_eq {r : Dc.Res} {n : Bool} {l : Dc.Bs} {x e : Int} (h : r.n = n ∧ r.l = l ∧ r.x = x ∧ r.e = e) : r = ⟨n, l, x, e⟩ := by
  rcases r with ⟨a, b, c, d⟩; obtain ⟨rfl, rfl, rfl, rfl⟩ := h; rfl
theorem kind_le (x : Nat) : kind x ≤ 4 := by unfold kind; split <;> (try split) <;> (try split) <;> omega
theorem name_fin {x : Nat} (h : kind x < 3) : wname x = [] := by
  have h1 : x ≠ 9218868437227405312 := fun e => by rw [e] at h; exact absurd h (by decide)
  have h2 : x ≠ 18442240474082181120 := fun e => by rw [e] at h; exact absurd h (by decide)
  rw [wname, if_neg (by omega), if_neg h1, if_neg h2]
theorem inf_kind {x : Nat} (hx : x < 18446744073709551616) (h : kind x = 3) : x = 9218868437227405312 ∨ x = 18442240474082181120 := by
  have h1 : expo x = 2047 := by
    unfold kind at h
    by_cases c : expo x = 2047
    · exact c
    · rw [if_neg c] at h
      split at h
      · omega
      · split at h <;> omega
  have h2 : frac x = 0 := by
    unfold kind at h
    rw [if_pos h1] at h
    by_cases c : frac x = 0
    · exact c
    · rw [if_neg c] at h; omega
  unfold expo at h1; unfold frac at h2
  omega
theorem print_fin {x : Nat} (h : kind x < 3) : wprint x = Dc.print (wdec x).n (wdec x).l (wdec x).x := by
  rw [wprint, if_neg (by rw [name_fin h]; simp)]
theorem neg_mod {x : Nat} (hx : x < 18446744073709551616) : wsign (neg x) + x % 9223372036854775808 = x := by
  unfold wsign neg
  by_cases c : 9223372036854775808 ≤ x
  · rw [decide_eq_true c, if_pos rfl]; omega
  · rw [decide_eq_false c, if_neg (by decide)]; omega
theorem read_print {x : Nat} (hx : x < 18446744073709551616) (h : kind x < 3) : readS (wprint x) = (x, 0) := by
  obtain ⟨k1, k2, k3, k4, k5, -⟩ := wdec_fine x h
  rw [print_fin h, readS, Dc.print_parse _ _ _ k3, if_pos rfl]
  show (wsign (wdec x).n + bits (wdec x).l (wdec x).x, (0 : Int)) = _
  rw [k5, k2, neg_mod hx]
theorem bad_names : (readS nanS).2 ≠ 0 ∧ (readS infS).2 ≠ 0 ∧ (readS ninfS).2 ≠ 0 := by decide +kernel
theorem parse_print {x : Nat} (hx : x < 18446744073709551616) : wparse (wprint x) = (if kind x = 4 then 9221120237041090560 else x, 0) := by
  have hk := kind_le x
  by_cases h4 : kind x = 4
  · have e : wprint x = nanS := by
      have : wname x = nanS := by rw [wname, if_pos h4]
      rw [wprint, this, if_pos (by decide)]
    rw [e, wparse, if_pos rfl, if_pos h4]
  · rw [if_neg h4]
    by_cases h3 : kind x = 3
    · rcases inf_kind hx h3 with rfl | rfl <;> decide +kernel
    · have h : kind x < 3 := by omega
      have hr := read_print hx h
      obtain ⟨b1, b2, b3⟩ := bad_names
      have n1 : wprint x ≠ nanS := fun e => b1 (by rw [← e, hr])
      have n2 : wprint x ≠ infS := fun e => b2 (by rw [← e, hr])
      have n3 : wprint x ≠ ninfS := fun e => b3 (by rw [← e, hr])
      rw [wparse, if_neg n1, if_neg n2, if_neg n3, hr, if_neg (by simp), if_neg (by simp)]
theorem name_back : wprint 9221120237041090560 = nanS ∧ wprint 9218868437227405312 = infS ∧ wprint 18442240474082181120 = ninfS := by decide +kernel
theorem print_parse10 (s : Dc.Bs) (h : (wparse s).2 = 0) : wprint (wparse s).1 = s := by
  obtain ⟨b1, b2, b3⟩ := name_back
  unfold wparse at h ⊢
  by_cases h1 : s = nanS
  · rw [if_pos h1]; rw [h1]; exact b1
  rw [if_neg h1] at h ⊢
  by_cases h2 : s = infS
  · rw [if_pos h2]; rw [h2]; exact b2
  rw [if_neg h2] at h ⊢
  by_cases h3 : s = ninfS
  · rw [if_pos h3]; rw [h3]; exact b3
  rw [if_neg h3] at h ⊢
  by_cases h4 : (readS s).2 ≠ 0
  · rw [if_pos h4] at h; exact absurd h h4
  rw [if_neg h4] at h ⊢
  by_cases h5 : wprint (readS s).1 ≠ s
  · rw [if_pos h5] at h; cases h
  rw [if_neg h5]
  exact Decidable.not_not.1 h5
theorem readS_lt (s : Dc.Bs) : (readS s).1 < 18446744073709551616 := by
  unfold readS
  split
  · rename_i h
    have hf := Dc.parse_fine s
    rcases hf with ⟨_, hr⟩ | ⟨e, he, hf⟩
    · have := bits_le hr
      show wsign _ + _ < _
      unfold wsign; split <;> omega
    · rw [hf] at h; exfalso; simp at h; omega
  · show 0 < _; decide
theorem wparse_lt (s : Dc.Bs) : (wparse s).1 < 18446744073709551616 := by
  have := readS_lt s
  unfold wparse
  split
  · decide
  · split
    · decide
    · split
      · decide
      · split
        · show 0 < _; decide
        · split
          · show 0 < _; decide
          · exact this
def n15 : Nat := 15
def n289 : Nat := 289
def n290 : Nat := 290
def n304 : Nat := 304
theorem fif_parts (c : Nat) : (10 : Nat) ^ n15 * 10 ^ (c + n289) = 10 ^ c * 10 ^ n304 := ten_parts (by unfold n15 n289 n304; omega)
theorem fif_low : 4503599627370496 * 10 ^ n290 ≤ 2 ^ low := by decide +kernel
theorem fif_high : 10 ^ n304 * 2 ^ low ≤ V 9218868437227405311 := by decide +kernel
theorem fif_normal {v : Nat} {n : Int} {l : Dc.Bs} {X : Int} (h0 : 0 < v) (hv : v < 1000000000000000) (hn : -290 < n ∧ n < 290) (hr : Dc.right l X = true) (hw : Dc.vv l X = v * 10 ^ (n + Dc.lift).toNat) : 4503599627370496 ≤ bits l X ∧ bits l X < 9218868437227405312 := by
  have hlift : Dc.lift = 200000 := rfl
  have hp : 0 < 10 ^ Dc.lift := Nat.pow_pos (by decide)
  have hnear := bits_near l X (Dc.right_exp hr).1
  obtain ⟨c, hc⟩ : ∃ c : Nat, (n + (Dc.lift : Int)).toNat = c + 1 ∧ Dc.lift ≤ c + n290 ∧ c + 1 ≤ Dc.lift + n289 := ⟨(n + (Dc.lift : Int)).toNat - 1, by unfold n290 n289; omega⟩
  obtain ⟨hc1, hc2, hc3⟩ := hc
  constructor
  · refine near_mono hp hp ?_ (near_self (b := 4503599627370496) (by decide) hp) hnear
    refine Nat.mul_le_mul_right _ ?_
    rw [hw, hc1, show V 4503599627370496 = 4503599627370496 by decide +kernel]
    have h1 : 10 ^ Dc.lift ≤ 10 ^ c * 10 ^ n290 := by rw [← Nat.pow_add]; exact Nat.pow_le_pow_right (by decide) hc2
    have h2 : 1 * 10 ^ c ≤ v * 10 ^ (c + 1) := Nat.mul_le_mul h0 (Nat.pow_le_pow_right (by decide) (by omega))
    rw [Nat.one_mul] at h2
    calc 4503599627370496 * 10 ^ Dc.lift ≤ 4503599627370496 * (10 ^ c * 10 ^ n290) := Nat.mul_le_mul_left _ h1
      _ = 10 ^ c * (4503599627370496 * 10 ^ n290) := Nat.mul_left_comm _ _ _
      _ ≤ 10 ^ c * 2 ^ low := Nat.mul_le_mul_left _ fif_low
      _ ≤ v * 10 ^ (c + 1) * 2 ^ low := Nat.mul_le_mul_right _ h2
  · refine Nat.lt_of_le_of_lt (near_mono hp hp ?_ hnear (near_self (b := 9218868437227405311) (by decide) hp)) (by decide)
    refine Nat.mul_le_mul_right _ ?_
    rw [hw, hc1]
    have h15 : v ≤ 10 ^ n15 := Nat.le_of_lt hv
    have h1 : v * 10 ^ (c + 1) ≤ 10 ^ n15 * 10 ^ (Dc.lift + n289) := Nat.mul_le_mul h15 (Nat.pow_le_pow_right (by decide) hc3)
    have h3 := fif_parts Dc.lift
    calc v * 10 ^ (c + 1) * 2 ^ low ≤ 10 ^ n15 * 10 ^ (Dc.lift + n289) * 2 ^ low := Nat.mul_le_mul_right _ h1
      _ = 10 ^ Dc.lift * (10 ^ n304 * 2 ^ low) := by rw [h3, Nat.mul_assoc]
      _ ≤ 10 ^ Dc.lift * V 9218868437227405311 := Nat.mul_le_mul_left _ fif_high
      _ = V 9218868437227405311 * 10 ^ Dc.lift := Nat.mul_comm _ _
theorem kind_of_normal {b : Nat} (h1 : 4503599627370496 ≤ b) (h2 : b < 9218868437227405312) : kind b = 2 ∧ neg b = false ∧ b % 9223372036854775808 = b := by
  refine ⟨?_, decide_eq_false (by omega), by omega⟩
  unfold kind expo
  rw [if_neg (by omega), if_pos (by omega)]
theorem fif_law {v : Nat} {n : Int} (hv : v < 1000000000000000) (hn : -290 < n ∧ n < 290) : ∃ (l : Dc.Bs) (X : Int) (b : Nat), Dc.mk false (Lib.decDigits v) n = ⟨false, l, X, 0⟩ ∧ Dc.right l X = true ∧ bits l X = b ∧ b < 9218868437227405312 ∧ sig b 15 1 = ⟨false, l, X, 0⟩ ∧ wdec b = ⟨false, l, X, 0⟩ := by
  have hlift : Dc.lift = 200000 := rfl
  by_cases h0 : v = 0
  · subst h0
    refine ⟨[], 0, 0, ?_, by decide, bits_nil, by decide, res_eq (by decide +kernel), res_eq (by decide +kernel)⟩
    exact Dc.mk_zero (by decide +kernel) (by decide +kernel)
  · have hd := dig_dec v
    have hl : (Lib.decDigits v).length ≤ 15 := len_dec (k := 14) hv
    obtain ⟨k1, k2⟩ := mk_fine false (Lib.decDigits v) n hd (by omega) (by omega)
    obtain ⟨m1, m2, m3⟩ := Dc.mk_vv false (Lib.decDigits v) n hd (by omega) k1
    rw [nv_dec] at m3
    obtain ⟨b1, b2⟩ := fif_normal (Nat.pos_of_ne_zero h0) hv hn m2 m3
    rcases hq : Dc.mk false (Lib.decDigits v) n with ⟨a, l, X, e⟩
    rw [hq] at k1 k2 m1 m2 m3 b1 b2
    simp only at k1 k2 m1 m2 m3 b1 b2
    obtain ⟨b, hb⟩ : ∃ b, bits l X = b := ⟨_, rfl⟩
    rw [hb] at b1 b2
    obtain ⟨q1, q2, q3⟩ := kind_of_normal b1 b2
    have hk : kind b < 3 := by omega
    obtain ⟨d1, d2, d3, d4, d5, d6, d7⟩ := decx_fine b hk
    rw [q3] at d6 d7
    have hne : (dec b).l ≠ [] := fun h => by
      rw [h, Dc.vv_zero, Nat.zero_mul] at d6
      have h1 : V 0 < V b := V_lt (by omega)
      have h2 := Nat.mul_pos (show 0 < V b by omega) (Nat.pow_pos (n := Dc.lift) (show 0 < 10 by decide))
      omega
    subst m1; subst k1
    refine ⟨l, X, b, rfl, m2, hb, b2, ?_, ?_⟩
    · rw [sig, if_neg (by omega), d2, q2]
      exact fifteen (s := false) (way := 1) b1 b2 d3 hne (by omega) d6 m2 (by omega) hb (Or.inr rfl)
    · rw [wdec, if_neg (by omega), if_neg hne, q2, q3]
      exact short_fifteen (s := false) b1 b2 d3 hne (by omega) d6 m2 (by omega) hb
end Go.Proofs.YtiglekomfgfilaaGreatDoor.Fl
