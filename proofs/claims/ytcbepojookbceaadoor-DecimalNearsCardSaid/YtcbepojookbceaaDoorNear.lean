/- Plain Lean: what is rounded to places is one of two neighbours, stays as it is when it is rounded again, and lies on the side that the way says. -/
import Derived.Test.YtcbepojookbceaaDoorRnd
namespace Go.Proofs.YtcbepojookbceaaDoor.Dc
set_option linter.all false

theorem core_le (l : Bs) : (core l).length ≤ l.length := Nat.le_trans (core_len l) (lead_len l)

/-- Made of at most 1101 digits, whose core is short: no exponent near the bound goes over. -/
theorem mk_near (n : Bool) (ds : Bs) (y : Int) (hd : allDig ds = true) (hl : ds.length ≤ 1101) (hc : (core ds).length ≤ 1100) (hy : -90000 ≤ y ∧ y ≤ 90000) :
    (mk n ds y).e = 0 ∧ (mk n ds y).n = n ∧ right (mk n ds y).l (mk n ds y).x = true ∧ ((mk n ds y).l = [] ∨ y ≤ (mk n ds y).x) := by
  by_cases h1 : core ds = []
  · rw [mk_zero hd h1]
    exact ⟨rfl, rfl, by simp [right], .inl rfl⟩
  · have ht := tz_le ds
    have h2 : right (core ds) (y + tz ds) = true := (right_core _ hd h1).2 ⟨hc, by omega, by omega⟩
    rw [mk_ok hd h1 h2]
    exact ⟨rfl, rfl, h2, .inr (by show y ≤ y + tz ds; omega)⟩

theorem core_more (K : Bs) (hd : allDig K = true) : (core (more K)).length ≤ max 1 K.length := by
  by_cases h9 : ∀ c ∈ K, c = 57
  · rw [more_nines K h9]
    have := (core_split (49 :: List.replicate K.length 48) [] [49] (List.replicate K.length 48) rfl (by simp) (fun c hc => List.eq_of_mem_replicate hc) (by simp) (by intro c hc; simp at hc; subst hc; decide) (by intro c hc; simp at hc; subst hc; decide)).2
    rw [this]; simp; omega
  · have : (more K).length ≤ K.length := by
      have hne : no9 K ≠ [] := by
        intro e
        apply h9
        intro c hc
        rw [no9, Lib.trimRightB] at e
        have e2 : K.reverse.dropWhile (· == 57) = [] := by simpa using e
        have hs := List.takeWhile_append_dropWhile (p := (· == 57)) (l := K.reverse)
        rw [e2, List.append_nil] at hs
        have := List.all_eq_true.1 (List.all_takeWhile (l := K.reverse) (p := (· == 57))) c (by rw [hs]; simpa using hc)
        simpa using this
      cases hc : (no9 K).getLast? with
      | none => exact absurd (by simpa using hc) hne
      | some c =>
        have hp : 0 < (no9 K).length := List.length_pos_iff.2 hne
        have hl := no9_len K
        rw [more_cons hc, List.length_append, List.length_append, List.length_dropLast, Lib.repeatL_length]
        simp; omega
    have := core_le (more K)
    omega

/-- Is anything taken away? -/
def cutp (l : Bs) (x k : Int) : Prop := l ≠ [] ∧ (l.length : Int) + x + k < l.length

theorem place_same' (n : Bool) (l : Bs) (x k way : Int) (h : right l x = true) (hw : 0 ≤ way ∧ way ≤ 5) (hk : -100000 ≤ k ∧ k ≤ 100000) (hc : ¬ cutp l x k) : place n l x k way = ⟨n, l, x, 0⟩ := by
  rw [place, if_pos ⟨h, hw.1, hw.2, hk.1, hk.2⟩, if_neg]
  intro e
  have hpt : point l x = l.length + x := by rw [point, if_pos h]
  rw [hpt] at e
  exact hc e

theorem place_two (n : Bool) (l : Bs) (x k : Int) (h : right l x = true) (hk : -90000 ≤ k ∧ k ≤ 90000) (hc : cutp l x k) :
    ∃ A B : Res, (∀ way, 0 ≤ way → way ≤ 5 → place n l x k way = A ∨ place n l x k way = B) ∧ place n l x k 4 = (if n then B else A) ∧ place n l x k 5 = (if n then A else B) ∧
      (A.e = 0 ∧ A.n = n ∧ right A.l A.x = true ∧ (A.l = [] ∨ -k ≤ A.x)) ∧ (B.e = 0 ∧ B.n = n ∧ right B.l B.x = true ∧ (B.l = [] ∨ -k ≤ B.x)) := by
  have hpt : point l x = l.length + x := by rw [point, if_pos h]
  have hd := right_dig h
  have hl := right_len h
  obtain ⟨K, hK⟩ : ∃ K, K = l.take ((l.length : Int) + x + k).toNat := ⟨_, rfl⟩
  obtain ⟨R, hR⟩ : ∃ R, R = if (l.length : Int) + x + k < 0 then 48 :: l else l.drop ((l.length : Int) + x + k).toNat := ⟨_, rfl⟩
  have hRne : R ≠ [] := by
    rw [hR]; split
    · simp
    · intro e
      have := congrArg List.length e
      rw [List.length_drop, List.length_nil] at this
      have := hc.2; omega
  have hKd : allDig K = true := by rw [hK]; exact dig_take hd _
  have hKl : K.length ≤ 1100 := by rw [hK, List.length_take]; omega
  have hp : ∀ way, 0 ≤ way → way ≤ 5 → place n l x k way = mk n (if up n K R way then more K else K) (-k) := by
    intro way h1 h2
    rw [place, if_pos ⟨h, h1, h2, by omega, by omega⟩, hpt, if_pos (show l ≠ [] ∧ (l.length : Int) + x + k < l.length from hc), cut, ← hK, ← hR]
    congr 1; omega
  refine ⟨mk n K (-k), mk n (more K) (-k), ?_, ?_, ?_, ?_, ?_⟩
  · intro way h1 h2
    rw [hp way h1 h2]
    cases up n K R way
    · exact .inl rfl
    · exact .inr rfl
  · rw [hp 4 (by omega) (by omega)]
    have : up n K R 4 = n := by rw [up, if_neg hRne]; rfl
    rw [this]; cases n <;> rfl
  · rw [hp 5 (by omega) (by omega)]
    have : up n K R 5 = !n := by rw [up, if_neg hRne]; simp
    rw [this]; cases n <;> rfl
  · exact mk_near n K (-k) hKd (by omega) (Nat.le_trans (core_le K) hKl) (by omega)
  · have h1 := core_more K hKd
    have h2 := more_len K
    exact mk_near n (more K) (-k) (nv_more K hKd).2 (by omega) (by omega) (by omega)

/-- Rounded again, it stays. -/
theorem place_again (r : Res) (k way : Int) (h : right r.l r.x = true) (he : r.e = 0) (hw : 0 ≤ way ∧ way ≤ 5) (hk : -100000 ≤ k ∧ k ≤ 100000) (hx : r.l = [] ∨ -k ≤ r.x) : place r.n r.l r.x k way = r := by
  rw [place_same' _ _ _ _ _ h hw hk (by
    rintro ⟨h1, h2⟩
    rcases hx with e | e
    · exact h1 e
    · omega)]
  rw [← he]

theorem rnd_le (n : Bool) (way : Int) (V U : Nat) (hU : 0 < U) (h : ups n way (V / U) (V % U) U = false) : rnd n way V U * U ≤ V := by
  rw [rnd, h]; simp; exact Nat.div_mul_le_self V U
theorem rnd_ge (n : Bool) (way : Int) (V U : Nat) (hU : 0 < U) (h : ups n way (V / U) (V % U) U = true ∨ V % U = 0) : V ≤ rnd n way V U * U := by
  have h1 := Nat.div_add_mod V U
  have h2 := Nat.mod_lt V hU
  rw [rnd, Nat.add_mul, Nat.mul_comm]
  rcases h with h | h
  · rw [if_pos h]; omega
  · omega

/-- Low and high lie where their names say. -/
theorem place_sides (n : Bool) (l : Bs) (x k : Int) (h : right l x = true) (hk : -90000 ≤ k ∧ k ≤ 90000) (e4 : (place n l x k 4).e = 0) (e5 : (place n l x k 5).e = 0) :
    cmpC (place n l x k 4).n (place n l x k 4).l (place n l x k 4).x n l x ≤ 0 ∧ cmpC n l x (place n l x k 5).n (place n l x k 5).l (place n l x k 5).x ≤ 0 := by
  obtain ⟨a1, a2, a3⟩ := place_rnd n l x k 4 h (by omega) (by omega) e4
  obtain ⟨b1, b2, b3⟩ := place_rnd n l x k 5 h (by omega) (by omega) e5
  rw [cmpC_sv a2 h, cmpC_sv h b2, a1, b1]
  have hp := unit_pos k
  have u4 : ups n 4 (vv l x / unit k) (vv l x % unit k) (unit k) = (decide (vv l x % unit k ≠ 0) && n) := by unfold ups; simp
  have u5 : ups n 5 (vv l x / unit k) (vv l x % unit k) (unit k) = (decide (vv l x % unit k ≠ 0) && !n) := by unfold ups; simp
  have k4 : sv n (place n l x k 4).l (place n l x k 4).x ≤ sv n l x := by
    unfold sv; rw [a3]
    cases n
    · simp only [Bool.false_eq_true, if_false]
      exact Int.ofNat_le.2 (rnd_le _ _ _ _ hp (by rw [u4]; simp))
    · simp only [if_true]
      have := rnd_ge true 4 (vv l x) (unit k) hp (by rw [u4]; by_cases e : vv l x % unit k = 0; exact .inr e; exact .inl (by simp [e]))
      omega
  have k5 : sv n l x ≤ sv n (place n l x k 5).l (place n l x k 5).x := by
    unfold sv; rw [b3]
    cases n
    · simp only [Bool.false_eq_true, if_false]
      exact Int.ofNat_le.2 (rnd_ge false 5 (vv l x) (unit k) hp (by rw [u5]; by_cases e : vv l x % unit k = 0; exact .inr e; exact .inl (by simp [e])))
    · simp only [if_true]
      have := rnd_le true 5 (vv l x) (unit k) hp (by rw [u5]; simp)
      omega
  unfold sgz
  constructor
  · split
    · omega
    · split <;> omega
  · split
    · omega
    · split <;> omega

theorem sig_half (n : Bool) (l : Bs) (x : Int) (h : right l x = true) (he : (sig n l x (1 + (l.length : Int) / 2) 0).e = 0) :
    ((sig n l x (1 + (l.length : Int) / 2) 0).l.length : Int) ≤ 1 + (l.length : Int) / 2 ∧ (sig n l x (1 + (l.length : Int) / 2) 0).n = n := by
  rw [sig, if_pos ⟨h, by omega, by omega, by omega⟩] at he ⊢
  split
  · rename_i hle; exact ⟨hle, rfl⟩
  · rename_i hle
    rw [if_neg hle] at he
    obtain ⟨m, hm⟩ : ∃ m : Nat, 1 + (l.length : Int) / 2 = m := ⟨(1 + (l.length : Int) / 2).toNat, by omega⟩
    rw [hm] at he hle ⊢
    have hd := right_dig h
    have hKd : allDig (l.take m) = true := dig_take hd m
    have hc : cut n l x m 0 = mk n (if up n (l.take m) (l.drop m) 0 then more (l.take m) else l.take m) (x + l.length - m) := by
      unfold cut
      simp only [if_neg (show ¬ ((m : Int) < 0) by omega), Int.toNat_natCast]
    rw [hc] at he ⊢
    have hlen : (core (if up n (l.take m) (l.drop m) 0 then more (l.take m) else l.take m)).length ≤ m := by
      split
      · have := core_more (l.take m) hKd
        rw [List.length_take] at this; omega
      · have := core_le (l.take m)
        rw [List.length_take] at this; omega
    have hdd : allDig (if up n (l.take m) (l.drop m) 0 then more (l.take m) else l.take m) = true := by split; exact (nv_more _ hKd).2; exact hKd
    generalize (if up n (l.take m) (l.drop m) 0 then more (l.take m) else l.take m) = ds at he hlen hdd ⊢
    by_cases h1 : core ds = []
    · rw [mk_zero hdd h1]; exact ⟨by simp, rfl⟩
    · by_cases h2 : right (core ds) (x + l.length - m + tz ds) = true
      · rw [mk_ok hdd h1 h2]; exact ⟨by show ((core ds).length : Int) ≤ m; omega, rfl⟩
      · rw [mk_over hdd h1 h2] at he; cases he

theorem cmp_self' (n : Bool) (l : Bs) (x : Int) (h : right l x = true) : cmpC n l x n l x = 0 := by
  rw [cmpC_sv h h]; unfold sgz; simp
end Go.Proofs.YtcbepojookbceaaDoor.Dc
