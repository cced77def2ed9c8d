/- Plain Lean: n times 2^e (and perhaps a little more), rounded to the nearest binary64. -/
import Derived.Test.YtiglekomfgfilaaGreatDoorZ6
import Derived.Lib.AtoiAll
import Derived.Lib.IndexBytes
import Derived.Lib.ItoaNum
namespace Go.Proofs.YtiglekomfgfilaaGreatDoor.Fl
set_option linter.all false
open Go
def ulp (n : Nat) (e : Int) : Int := max (e + (Na.bitLen n : Int) - 53) (-1074)
def upw (n k : Nat) (more : Bool) : Bool := decide (n / 2 ^ (k - 1) % 2 = 1) && (decide (n % 2 ^ (k - 1) ≠ 0) || more || decide (n / 2 ^ k % 2 = 1))
def rdm (n : Nat) (k : Int) (more : Bool) : Nat := if k ≤ 0 then n * 2 ^ (-k).toNat else n / 2 ^ k.toNat + (upw n k.toNat more).toNat
def rd (n : Nat) (e : Int) (more : Bool) : Nat := if n = 0 then 0 else min ((ulp n e + 1074).toNat * 4503599627370496 + rdm n (ulp n e - e) more) 9218868437227405312
theorem bitLen_ge {n : Nat} (h : n ≠ 0) : 2 ^ (Na.bitLen n - 1) ≤ n ∧ n < 2 ^ Na.bitLen n ∧ 0 < Na.bitLen n := by
  rw [Na.bitLen, if_neg h]
  exact ⟨by rw [Nat.add_sub_cancel]; exact Nat.log2_self_le h, Nat.lt_log2_self, Nat.succ_pos _⟩
theorem cancel_le {a b c : Nat} (hc : 0 < c) (h : a * c ≤ b * c) : a ≤ b := Nat.le_of_mul_le_mul_right h hc
theorem cancel_lt {a b c : Nat} (h : a * c < b * c) : a < b := Nat.lt_of_mul_lt_mul_right h
theorem mid_cmp {M n W Y : Nat} {more : Bool} (hW : 0 < W) (h0 : more = false → Y = n * W) (h1 : more = true → n * W < Y ∧ Y < (n + 1) * W) :
    (M * W < Y ↔ (if more then M ≤ n else M < n)) ∧ (M * W = Y ↔ more = false ∧ M = n) := by
  cases more with
  | false =>
    have e := h0 rfl
    subst e
    refine ⟨?_, ?_⟩
    · show M * W < n * W ↔ M < n
      exact ⟨fun h => Nat.lt_of_mul_lt_mul_right h, fun h => Nat.mul_lt_mul_of_pos_right h hW⟩
    · exact ⟨fun h => ⟨rfl, Nat.eq_of_mul_eq_mul_right hW h⟩, fun h => by rw [h.2]⟩
  | true =>
    obtain ⟨e1, e2⟩ := h1 rfl
    refine ⟨?_, ?_⟩
    · show M * W < Y ↔ M ≤ n
      constructor
      · intro h
        have := Nat.lt_of_mul_lt_mul_right (Nat.lt_trans h e2)
        omega
      · intro h
        exact Nat.lt_of_le_of_lt (Nat.mul_le_mul_right W h) e1
    · constructor
      · intro h
        exfalso
        rw [← h] at e1 e2
        have k1 := Nat.lt_of_mul_lt_mul_right e1
        have k2 := Nat.lt_of_mul_lt_mul_right e2
        omega
      · rintro ⟨h, _⟩; cases h
theorem upw_spec (n k m0 M : Nat) (more : Bool) (hk : 0 < k) (hm : m0 = n / 2 ^ k) (hM : M = (2 * m0 + 1) * 2 ^ (k - 1)) :
    upw n k more = decide ((if more then M ≤ n else M < n) ∨ (more = false ∧ M = n) ∧ m0 % 2 = 1) := by
  obtain ⟨c, rfl⟩ : ∃ c, k = c + 1 := ⟨k - 1, by omega⟩
  rw [Nat.add_sub_cancel] at hM
  unfold upw
  rw [Nat.add_sub_cancel, ← hm]
  have hp : 0 < 2 ^ c := Nat.pow_pos (by decide)
  have hm' : m0 = n / 2 ^ c / 2 := by rw [hm, Nat.pow_succ, Nat.div_div_eq_div_mul]
  have h1 := Nat.div_add_mod n (2 ^ c)
  have h2 := Nat.div_add_mod (n / 2 ^ c) 2
  have h3 := Nat.mod_lt n hp
  obtain ⟨t, ht⟩ : ∃ t, t = n / 2 ^ c := ⟨_, rfl⟩
  obtain ⟨r, hr⟩ : ∃ t, t = n % 2 ^ c := ⟨_, rfl⟩
  rw [← ht] at hm' h1 h2
  rw [← hr] at h1 h3
  rw [← ht, ← hr]
  by_cases hb : t % 2 = 1
  · have ht2 : t = 2 * m0 + 1 := by omega
    have hMn : M + r = n := by rw [hM, ← ht2, Nat.mul_comm]; exact h1
    rw [decide_eq_true hb, Bool.true_and]
    cases more with
    | true => simp; omega
    | false =>
      rw [Bool.or_false]
      by_cases hr0 : r = 0
      · have e1 : ¬ M < n := by omega
        have e2 : M = n := by omega
        simp [hr0, e1, e2]
      · have e1 : M < n := by omega
        simp [hr0, e1]
  · have ht2 : t = 2 * m0 := by omega
    have hMn : n < M := by
      rw [hM, Nat.add_mul, Nat.one_mul, ← ht2, Nat.mul_comm t]
      omega
    rw [decide_eq_false hb, Bool.false_and]
    symm
    apply decide_eq_false
    rintro (h | h)
    · cases more <;> simp at h <;> omega
    · omega
theorem rd_near {n : Nat} {e : Int} {more : Bool} {X D p q : Nat} (hD : 0 < D) (hpq : (p : Int) - q = e + 1074) (hmore : more = true → 54 ≤ Na.bitLen n)
    (h0 : more = false → X * 2 ^ q = n * 2 ^ p * D) (h1 : more = true → n * 2 ^ p * D < X * 2 ^ q ∧ X * 2 ^ q < (n + 1) * 2 ^ p * D) : Near X D (rd n e more) := by
  by_cases hn : n = 0
  · subst hn
    have hm : more = false := by
      cases more with
      | false => rfl
      | true => have := hmore rfl; simp [Na.bitLen] at this
    have hx := h0 hm
    rw [Nat.zero_mul, Nat.zero_mul] at hx
    have hX : X = 0 := (Nat.mul_eq_zero.1 hx).resolve_right (Nat.ne_of_gt (Nat.pow_pos (by decide)))
    rw [rd, if_pos rfl, hX]
    have := near_self (b := 0) (Nat.zero_le _) hD
    rwa [V_zero, Nat.zero_mul] at this
  · rw [rd, if_neg hn]
    obtain ⟨b1, b2, b3⟩ := bitLen_ge hn
    obtain ⟨L, hL⟩ : ∃ L, L = Na.bitLen n := ⟨_, rfl⟩
    rw [← hL] at b1 b2 b3 hmore
    obtain ⟨u, hu⟩ : ∃ u, u = ulp n e := ⟨_, rfl⟩
    have hu2 : u = max (e + (L : Int) - 53) (-1074) := by rw [hu, ulp, hL]
    rw [← hu]
    obtain ⟨j, hj⟩ : ∃ j : Nat, j = (u + 1074).toNat := ⟨_, rfl⟩
    rw [← hj]
    have hju : (j : Int) = u + 1074 := by omega
    have hq0 : 0 < 2 ^ q := Nat.pow_pos (by decide)
    have hp0 : 0 < 2 ^ p := Nat.pow_pos (by decide)
    have hW : 0 < 2 ^ p * D := Nat.mul_pos hp0 hD
    by_cases hk : u - e ≤ 0
    · have hm : more = false := by
        cases more with
        | false => rfl
        | true => have := hmore rfl; omega
      have hx := h0 hm
      obtain ⟨t, ht⟩ : ∃ t : Nat, t = (-(u - e)).toNat := ⟨_, rfl⟩
      rw [rdm, if_pos hk, ← ht]
      have hv : V (j * 4503599627370496 + n * 2 ^ t) = n * 2 ^ t * 2 ^ j := V_form _ _ (by
        have hlt : n * 2 ^ t < 2 ^ 53 := by
          have : n * 2 ^ t < 2 ^ L * 2 ^ t := Nat.mul_lt_mul_of_pos_right b2 (Nat.pow_pos (by decide))
          rw [← Nat.pow_add] at this
          exact Nat.lt_of_lt_of_le this (Nat.pow_le_pow_right (by decide) (by omega))
        by_cases hj0 : j = 0
        · exact Or.inl ⟨hj0, by omega⟩
        · right
          have hge : 2 ^ 52 ≤ n * 2 ^ t := by
            have : 2 ^ (L - 1) * 2 ^ t ≤ n * 2 ^ t := Nat.mul_le_mul_right _ b1
            rw [← Nat.pow_add] at this
            exact Nat.le_trans (Nat.pow_le_pow_right (by decide) (by omega)) this
          omega)
      obtain ⟨b, hb⟩ : ∃ b, b = j * 4503599627370496 + n * 2 ^ t := ⟨_, rfl⟩
      rw [← hb] at hv ⊢
      have hX : X = V b * D := by
        refine Nat.eq_of_mul_eq_mul_right hq0 ?_
        rw [hx, hv, Nat.mul_right_comm (n * 2 ^ t * 2 ^ j) D, Nat.mul_assoc n (2 ^ t), ← Nat.pow_add, Nat.mul_assoc n (2 ^ (t + j)), ← Nat.pow_add, show t + j + q = p by omega]
      have hs := V_succ b
      have hlt : V b * D < V (b + 1) * D := Nat.mul_lt_mul_of_pos_right hs hD
      have := near_of (X := X) hD (b := b) (by rw [hX]; exact Nat.le_refl _) (by rw [hX]; exact hlt) false (by
        symm; apply decide_eq_false
        rw [hX, Nat.add_mul]
        rintro (h | h)
        · omega
        · omega)
      exact this
    · obtain ⟨k, hk2⟩ : ∃ k : Nat, k = (u - e).toNat := ⟨_, rfl⟩
      rw [rdm, if_neg hk, ← hk2]
      have hk0 : 0 < k := by omega
      obtain ⟨m0, hm0⟩ : ∃ m, m = n / 2 ^ k := ⟨_, rfl⟩
      rw [← hm0]
      have hkp : 0 < 2 ^ k := Nat.pow_pos (by decide)
      have hform : j = 0 ∧ m0 < 4503599627370496 * 2 ∨ 4503599627370496 ≤ m0 ∧ m0 < 4503599627370496 * 2 := by
        have hlt : m0 < 2 ^ 53 := by
          rw [hm0, Nat.div_lt_iff_lt_mul hkp, ← Nat.pow_add]
          exact Nat.lt_of_lt_of_le b2 (Nat.pow_le_pow_right (by decide) (by omega))
        by_cases hj0 : j = 0
        · exact Or.inl ⟨hj0, by omega⟩
        · right
          have hge : 2 ^ 52 ≤ m0 := by
            rw [hm0, Nat.le_div_iff_mul_le hkp, ← Nat.pow_add]
            exact Nat.le_trans (Nat.pow_le_pow_right (by decide) (by omega)) b1
          omega
      have hv : V (j * 4503599627370496 + m0) = m0 * 2 ^ j := V_form _ _ (by omega)
      have hv1 : V (j * 4503599627370496 + m0 + 1) = (m0 + 1) * 2 ^ j := by rw [Nat.add_assoc]; exact V_form _ _ (by omega)
      have hjq : 2 ^ j * 2 ^ q = 2 ^ k * 2 ^ p := by rw [← Nat.pow_add, ← Nat.pow_add]; congr 1; omega
      obtain ⟨b, hb⟩ : ∃ b, b = j * 4503599627370496 + m0 := ⟨_, rfl⟩
      have hbo : b % 2 = m0 % 2 := by rw [hb]; omega
      rw [← hb] at hv hv1
      rw [← Nat.add_assoc, ← hb]
      have hle : m0 * 2 ^ k ≤ n := by rw [hm0]; exact Nat.div_mul_le_self _ _
      have hgt : n + 1 ≤ (m0 + 1) * 2 ^ k := by
        have := Nat.lt_div_mul_add (a := n) hkp
        rw [← hm0] at this
        rw [Nat.add_mul, Nat.one_mul]; omega
      have hY0 : n * (2 ^ p * D) ≤ X * 2 ^ q := by
        cases more with
        | false => rw [h0 rfl, Nat.mul_assoc]; exact Nat.le_refl _
        | true => have := (h1 rfl).1; rw [Nat.mul_assoc] at this; omega
      have hY1 : X * 2 ^ q < (n + 1) * (2 ^ p * D) := by
        cases more with
        | false => rw [h0 rfl, Nat.mul_assoc]; exact Nat.mul_lt_mul_of_pos_right (by omega) hW
        | true => have := (h1 rfl).2; rw [Nat.mul_assoc (n + 1)] at this; exact this
      have sc : ∀ z : Nat, z * 2 ^ j * D * 2 ^ q = z * 2 ^ k * (2 ^ p * D) := fun z => by
        rw [Nat.mul_right_comm _ D, Nat.mul_assoc z, hjq, ← Nat.mul_assoc, Nat.mul_assoc (z * 2 ^ k)]
      refine near_of hD ?_ ?_ _ ?_
      · rw [hv]
        refine cancel_le hq0 ?_
        rw [sc]
        exact Nat.le_trans (Nat.mul_le_mul_right _ hle) hY0
      · rw [hv1]
        refine cancel_lt (c := 2 ^ q) ?_
        rw [sc]
        exact Nat.lt_of_lt_of_le hY1 (Nat.mul_le_mul_right _ hgt)
      · obtain ⟨M, hM⟩ : ∃ M, M = (2 * m0 + 1) * 2 ^ (k - 1) := ⟨_, rfl⟩
        rw [upw_spec n k m0 M more hk0 hm0 hM]
        have hmid := mid_cmp (M := M) (n := n) (W := 2 ^ p * D) (Y := X * 2 ^ q) (more := more) hW (fun h => by rw [h0 h, Nat.mul_assoc]) (fun h => by
          have := h1 h; rwa [Nat.mul_assoc, Nat.mul_assoc] at this)
        have hVM : (V b + V (b + 1)) * D * 2 ^ q = 2 * (M * (2 ^ p * D)) := by
          rw [hv, hv1, ← Nat.add_mul, sc, hM, show m0 + (m0 + 1) = 2 * m0 + 1 by omega]
          rw [← Nat.mul_assoc 2, Nat.mul_comm 2 ((2 * m0 + 1) * 2 ^ (k - 1)), Nat.mul_assoc (2 * m0 + 1) (2 ^ (k - 1)), show 2 ^ (k - 1) * 2 = 2 ^ k by rw [← Nat.pow_succ]; congr 1; omega]
        apply decide_eq_decide.2
        rw [← hmid.1, ← hmid.2, ← hbo]
        have c1 : M * (2 ^ p * D) < X * 2 ^ q ↔ (V b + V (b + 1)) * D < 2 * X := by
          constructor
          · intro h
            refine cancel_lt (c := 2 ^ q) ?_
            rw [hVM, Nat.mul_assoc]; omega
          · intro h
            have := Nat.mul_lt_mul_of_pos_right h hq0
            rw [hVM, Nat.mul_assoc] at this; omega
        have c2 : M * (2 ^ p * D) = X * 2 ^ q ↔ (V b + V (b + 1)) * D = 2 * X := by
          constructor
          · intro h
            refine Nat.eq_of_mul_eq_mul_right hq0 ?_
            rw [hVM, Nat.mul_assoc, h]
          · intro h
            have := congrArg (· * 2 ^ q) h
            simp only [hVM, Nat.mul_assoc] at this
            rw [Nat.mul_assoc] at hVM
            omega
        rw [c1, c2]
end Go.Proofs.YtiglekomfgfilaaGreatDoor.Fl

/- Plain Lean: the number that a decimal is; which of two is greater. -/
namespace Go.Proofs.YtiglekomfgfilaaGreatDoor.Dc
set_option linter.all false
def nv (l : Bs) : Nat := l.foldl (fun a c => 10 * a + (c.toNat - 48)) 0
theorem nv_foldl (l : Bs) : ∀ a : Nat, l.foldl (fun a c => 10 * a + (c.toNat - 48)) a = a * 10 ^ l.length + nv l := by
  induction l with
  | nil => intro a; simp [nv]
  | cons c l ih =>
    intro a
    have e : nv (c :: l) = (10 * 0 + (c.toNat - 48)) * 10 ^ l.length + nv l := by rw [nv, List.foldl_cons, ih]
    rw [List.foldl_cons, ih, e, List.length_cons, Nat.pow_succ, Nat.mul_zero, Nat.zero_add, Nat.add_mul, Nat.add_assoc]
    congr 1
    rw [Nat.mul_comm 10 a, Nat.mul_assoc, Nat.mul_comm 10]
theorem nv_nil : nv [] = 0 := rfl
theorem nv_cons (c : UInt8) (l : Bs) : nv (c :: l) = (c.toNat - 48) * 10 ^ l.length + nv l := by
  rw [nv, List.foldl_cons, nv_foldl]; simp
theorem nv_app (a b : Bs) : nv (a ++ b) = nv a * 10 ^ b.length + nv b := by
  rw [nv, List.foldl_append, nv_foldl]; rfl
theorem dig_cons {c : UInt8} {l : Bs} (h : allDig (c :: l) = true) : (48 ≤ c.toNat ∧ c.toNat ≤ 57) ∧ allDig l = true := by
  refine ⟨dig_mem h (List.mem_cons_self ..), ?_⟩
  rw [allDig, List.all_cons, Bool.and_eq_true] at h; exact h.2
theorem nv_lt {l : Bs} (h : allDig l = true) : nv l < 10 ^ l.length := by
  induction l with
  | nil => simp [nv]
  | cons c l ih =>
    obtain ⟨hc, hl⟩ := dig_cons h
    have := ih hl
    rw [nv_cons, List.length_cons, Nat.pow_succ]
    have : (c.toNat - 48) * 10 ^ l.length ≤ 9 * 10 ^ l.length := Nat.mul_le_mul_right _ (by omega)
    omega
theorem nv_first {l : Bs} (h : allDig l = true) (hne : l ≠ []) (h0 : l[0]? ≠ some 48) : 10 ^ (l.length - 1) ≤ nv l := by
  cases l with
  | nil => exact absurd rfl hne
  | cons c l =>
    obtain ⟨hc, hl⟩ := dig_cons h
    have : c.toNat ≠ 48 := by intro e; apply h0; simp; exact UInt8.toNat_inj.1 (by simpa using e)
    rw [nv_cons, List.length_cons, Nat.add_sub_cancel]
    have : 1 * 10 ^ l.length ≤ (c.toNat - 48) * 10 ^ l.length := Nat.mul_le_mul_right _ (by omega)
    omega
theorem nv_last {l : Bs} (h : allDig l = true) (hne : l ≠ []) (h0 : l[l.length - 1]? ≠ some 48) : 0 < nv l := by
  have hs := List.dropLast_concat_getLast hne
  have hg : l[l.length - 1]? = some (l.getLast hne) := by
    rw [← List.getLast?_eq_getElem?, List.getLast?_eq_some_getLast hne]
  have hd := dig_mem h (List.getLast_mem hne)
  have : (l.getLast hne).toNat ≠ 48 := by intro e; apply h0; rw [hg]; exact congrArg some (UInt8.toNat_inj.1 (by simpa using e))
  rw [← hs, nv_app, nv_cons, nv_nil]
  simp; omega
def sg (a b : Nat) : Int := if a < b then -1 else if b < a then 1 else 0
theorem sg_lt {a b : Nat} (h : a < b) : sg a b = -1 := by rw [sg, if_pos h]
theorem sg_gt {a b : Nat} (h : b < a) : sg a b = 1 := by rw [sg, if_neg (by omega), if_pos h]
theorem sg_eq {a b : Nat} (h : a = b) : sg a b = 0 := by rw [sg, if_neg (by omega), if_neg (by omega)]
theorem sg_congr {a b c d : Nat} (h1 : a < b ↔ c < d) (h2 : b < a ↔ d < c) : sg a b = sg c d := by
  unfold sg; simp only [h1, h2]
def endOk (l : Bs) : Prop := l ≠ [] → l[l.length - 1]? ≠ some 48
theorem endOk_tail {c : UInt8} {l : Bs} (h : endOk (c :: l)) : endOk l := by
  intro hne
  have := h (by simp)
  cases l with
  | nil => exact absurd rfl hne
  | cons d l => simpa using this
theorem compare_nv (a : Bs) : ∀ (b : Bs) (N : Nat), allDig a = true → allDig b = true → endOk a → endOk b → a.length ≤ N → b.length ≤ N →
    Lib.compareBytes a b = sg (nv a * 10 ^ (N - a.length)) (nv b * 10 ^ (N - b.length)) := by
  induction a with
  | nil =>
    intro b N _ hb _ eb _ hlb
    cases b with
    | nil => rw [sg_eq rfl]; rfl
    | cons d b =>
      have := nv_last hb (by simp) (eb (by simp))
      rw [sg_lt]; rfl
      rw [nv_nil, Nat.zero_mul]
      exact Nat.mul_pos this (Nat.pos_of_ne_zero (by simp))
  | cons c a ih =>
    intro b N ha hb ea eb hla hlb
    cases b with
    | nil =>
      have := nv_last ha (by simp) (ea (by simp))
      rw [sg_gt]; rfl
      rw [nv_nil, Nat.zero_mul]
      exact Nat.mul_pos this (Nat.pos_of_ne_zero (by simp))
    | cons d b =>
      obtain ⟨hc, ha'⟩ := dig_cons ha
      obtain ⟨hd, hb'⟩ := dig_cons hb
      rw [List.length_cons] at hla hlb
      have key : ∀ (c : UInt8) (l : Bs), allDig l = true → l.length + 1 ≤ N → nv (c :: l) * 10 ^ (N - (l.length + 1)) = (c.toNat - 48) * 10 ^ (N - 1) + nv l * 10 ^ (N - 1 - l.length) ∧ nv l * 10 ^ (N - 1 - l.length) < 10 ^ (N - 1) := by
        intro c l hl hN
        have e : 10 ^ (N - 1) = 10 ^ l.length * 10 ^ (N - 1 - l.length) := by rw [← Nat.pow_add]; congr 1; omega
        refine ⟨?_, ?_⟩
        · rw [nv_cons, Nat.add_mul, show N - (l.length + 1) = N - 1 - l.length by omega, e, Nat.mul_assoc]
        · rw [e]; exact Nat.mul_lt_mul_of_pos_right (nv_lt hl) (Nat.pos_of_ne_zero (by simp))
      obtain ⟨k1, k2⟩ := key c a ha' hla
      obtain ⟨k3, k4⟩ := key d b hb' hlb
      rw [List.length_cons, List.length_cons, k1, k3, Lib.compareBytes]
      have hlt : ∀ x y : Nat, x < y → x * 10 ^ (N - 1) + 10 ^ (N - 1) ≤ y * 10 ^ (N - 1) := fun x y h => by
        have : (x + 1) * 10 ^ (N - 1) ≤ y * 10 ^ (N - 1) := Nat.mul_le_mul_right _ h
        rw [Nat.add_mul] at this; omega
      by_cases h1 : c < d
      · rw [if_pos h1, sg_lt]
        have h1' : c.toNat < d.toNat := h1
        have := hlt (c.toNat - 48) (d.toNat - 48) (by omega)
        omega
      · rw [if_neg h1]
        by_cases h2 : d < c
        · rw [if_pos h2, sg_gt]
          have h2' : d.toNat < c.toNat := h2
          have := hlt (d.toNat - 48) (c.toNat - 48) (by omega)
          omega
        · rw [if_neg h2]
          have : c.toNat = d.toNat := by
            have h1' : ¬ c.toNat < d.toNat := h1
            have h2' : ¬ d.toNat < c.toNat := h2
            omega
          rw [ih b (N - 1) ha' hb' (endOk_tail ea) (endOk_tail eb) (by omega) (by omega), this]
          exact sg_congr (by omega) (by omega)
def lift : Nat := 200000
def vv (l : Bs) (x : Int) : Nat := nv l * 10 ^ (x + lift).toNat
def sizeC (la : Bs) (xa : Int) (lb : Bs) (xb : Int) : Int :=
  if la = [] ∨ lb = [] then sg la.length lb.length
  else if (la.length : Int) + xa < lb.length + xb then -1
  else if (lb.length : Int) + xb < la.length + xa then 1
  else Lib.compareBytes la lb
theorem right_endOk {l : Bs} {x : Int} (h : right l x = true) : endOk l := by
  intro hne
  rw [right, if_neg hne] at h
  simp only [Bool.and_eq_true, bne_iff_ne] at h
  exact h.2.2.2.2.2
theorem right_head {l : Bs} {x : Int} (h : right l x = true) (hne : l ≠ []) : l[0]? ≠ some 48 := by
  rw [right, if_neg hne] at h
  simp only [Bool.and_eq_true, bne_iff_ne] at h
  exact h.2.2.2.2.1
theorem vv_bounds {l : Bs} {x : Int} (h : right l x = true) (hne : l ≠ []) : 10 ^ ((l.length : Int) + x - 1 + lift).toNat ≤ vv l x ∧ vv l x < 10 ^ ((l.length : Int) + x + lift).toNat := by
  have hx := right_exp h
  have hp : 0 < l.length := List.length_pos_iff.2 hne
  have h1 := nv_first (right_dig h) hne (right_head h hne)
  have h2 := nv_lt (right_dig h)
  unfold vv lift
  constructor
  · rw [show ((l.length : Int) + x - 1 + (200000 : Nat)).toNat = (l.length - 1) + (x + (200000 : Nat)).toNat by omega, Nat.pow_add]
    exact Nat.mul_le_mul_right _ h1
  · rw [show ((l.length : Int) + x + (200000 : Nat)).toNat = l.length + (x + (200000 : Nat)).toNat by omega, Nat.pow_add]
    exact Nat.mul_lt_mul_of_pos_right h2 (Nat.pos_of_ne_zero (by simp))
theorem vv_zero {x : Int} : vv [] x = 0 := by simp [vv, nv_nil]
theorem vv_pos {l : Bs} {x : Int} (h : right l x = true) (hne : l ≠ []) : 0 < vv l x :=
  Nat.lt_of_lt_of_le (Nat.pos_of_ne_zero (by simp)) (vv_bounds h hne).1
theorem sizeC_vv {la lb : Bs} {xa xb : Int} (ha : right la xa = true) (hb : right lb xb = true) : sizeC la xa lb xb = sg (vv la xa) (vv lb xb) := by
  have hxa := right_exp ha
  have hxb := right_exp hb
  unfold sizeC
  by_cases ea : la = []
  · rw [if_pos (.inl ea), ea, vv_zero]
    by_cases eb : lb = []
    · rw [eb, vv_zero]; rfl
    · rw [sg_lt (vv_pos hb eb), sg_lt (by simpa using List.length_pos_iff.2 eb)]
  · by_cases eb : lb = []
    · rw [if_pos (.inr eb), eb, vv_zero, sg_gt (vv_pos ha ea), sg_gt (by simpa using List.length_pos_iff.2 ea)]
    · rw [if_neg (by rintro (e | e); exact ea e; exact eb e)]
      have b1 := vv_bounds ha ea
      have b2 := vv_bounds hb eb
      have hpa : 0 < la.length := List.length_pos_iff.2 ea
      have hpb : 0 < lb.length := List.length_pos_iff.2 eb
      by_cases h1 : (la.length : Int) + xa < lb.length + xb
      · rw [if_pos h1, sg_lt]
        refine Nat.lt_of_lt_of_le b1.2 (Nat.le_trans (Nat.pow_le_pow_right (by decide) ?_) b2.1)
        unfold lift; omega
      · rw [if_neg h1]
        by_cases h2 : (lb.length : Int) + xb < la.length + xa
        · rw [if_pos h2, sg_gt]
          refine Nat.lt_of_lt_of_le b2.2 (Nat.le_trans (Nat.pow_le_pow_right (by decide) ?_) b1.1)
          unfold lift; omega
        · rw [if_neg h2]
          obtain ⟨P, hP⟩ : ∃ P : Nat, P = ((la.length : Int) + xa + lift).toNat := ⟨_, rfl⟩
          have e1 : (xa + lift).toNat = P - la.length := by rw [hP]; unfold lift; omega
          have e2 : (xb + lift).toNat = P - lb.length := by rw [hP]; unfold lift; omega
          unfold vv
          rw [e1, e2]
          exact compare_nv la lb P (right_dig ha) (right_dig hb) (right_endOk ha) (right_endOk hb) (by rw [hP]; unfold lift; omega) (by rw [hP]; unfold lift; omega)
theorem compareBytes_zero : ∀ {a b : Bs}, Lib.compareBytes a b = 0 → a = b
  | [], [], _ => rfl
  | [], _ :: _, h => by simp [Lib.compareBytes] at h
  | _ :: _, [], h => by simp [Lib.compareBytes] at h
  | a :: xs, b :: ys, h => by
    rw [Lib.compareBytes] at h
    split at h
    · cases h
    · split at h
      · cases h
      · rename_i h1 h2
        have : a = b := UInt8.toNat_inj.1 (by
          have h1' : ¬ a.toNat < b.toNat := h1
          have h2' : ¬ b.toNat < a.toNat := h2
          omega)
        rw [this, compareBytes_zero h]
theorem sg_zero {a b : Nat} (h : sg a b = 0) : a = b := by
  unfold sg at h
  split at h
  · cases h
  · split at h
    · cases h
    · omega
theorem vv_inj {la lb : Bs} {xa xb : Int} (ha : right la xa = true) (hb : right lb xb = true) (h : vv la xa = vv lb xb) : la = lb ∧ xa = xb := by
  have h1 := sizeC_vv ha hb
  rw [sg_eq h] at h1
  unfold sizeC at h1
  split at h1
  · rename_i e
    have h2 := sg_zero h1
    have e1 : la = [] := by
      rcases e with e | e
      · exact e
      · rw [e] at h2; simpa using h2
    have e2 : lb = [] := by rw [e1] at h2; exact List.length_eq_zero_iff.1 h2.symm
    subst e1 e2
    have a0 : xa = 0 := by simpa [right] using ha
    have b0 : xb = 0 := by simpa [right] using hb
    exact ⟨rfl, by omega⟩
  · split at h1
    · cases h1
    · split at h1
      · cases h1
      · have := compareBytes_zero h1
        subst this
        exact ⟨rfl, by omega⟩
def sv (n : Bool) (l : Bs) (x : Int) : Int := if n then -(vv l x : Int) else vv l x
end Go.Proofs.YtiglekomfgfilaaGreatDoor.Dc

/- Plain Lean: digits and one, place for place from behind. -/
namespace Go.Proofs.YtiglekomfgfilaaGreatDoor.Dc
set_option linter.all false
theorem rep_replicate (m : Nat) : Lib.repeatL [48] m = List.replicate m 48 := by
  induction m with
  | zero => rfl
  | succ m ih => rw [Lib.repeatL, ih, List.replicate_succ]; rfl
def rowAt (K : Bs) (j : Nat) : Bs := K.take j ++ List.replicate (K.length - j) 48
theorem rowAt_len (K : Bs) (j : Nat) (h : j ≤ K.length) : (rowAt K j).length = K.length := by simp [rowAt]; omega
theorem rowAt_all (K : Bs) : rowAt K K.length = K := by simp [rowAt]
theorem rowAt_get (K : Bs) (j i : Nat) (h : j ≤ K.length) (hi : i < j) : (rowAt K j)[i]? = K[i]? := by
  rw [rowAt, List.getElem?_append_left (by rw [List.length_take]; omega), List.getElem?_take_of_lt hi]
theorem rowAt_inc (K : Bs) (j : Nat) (h : 0 < j) (hj : j ≤ K.length) (c : UInt8) : (rowAt K j).set (j - 1) c = K.take (j - 1) ++ [c] ++ List.replicate (K.length - j) 48 := by
  have hs : K.take j = K.take (j - 1) ++ [K[j - 1]'(by omega)] := by
    conv => lhs; rw [show j = j - 1 + 1 by omega]
    rw [List.take_succ_eq_append_getElem (by omega)]
  have hl : (K.take (j - 1)).length = j - 1 := by rw [List.length_take]; omega
  rw [rowAt, hs, List.append_assoc, List.set_append_right _ _ (by omega), hl, Nat.sub_self]
  simp
theorem rowAt_set (K : Bs) (j : Nat) (h : 0 < j) (hj : j ≤ K.length) : (rowAt K j).set (j - 1) 48 = rowAt K (j - 1) := by
  rw [rowAt_inc K j h hj, rowAt, List.append_assoc, show K.length - (j - 1) = K.length - j + 1 by omega, List.replicate_succ]
  rfl
theorem no9_at (K : Bs) (j : Nat) (h : ∀ c ∈ K.drop j, c = 57) (h2 : ∀ c, (K.take j).getLast? = some c → c ≠ 57) : no9 K = K.take j := by
  rw [no9, Lib.trimRightB]
  conv => lhs; rw [← List.take_append_drop j K]
  rw [List.reverse_append, List.dropWhile_append_of_pos (fun c hc => by rw [h c (List.mem_reverse.1 hc)]; rfl)]
  cases hr : (K.take j).reverse with
  | nil => rw [List.dropWhile_nil]; have := List.reverse_eq_nil_iff.1 hr; rw [this]; rfl
  | cons c r =>
    have hh : (K.take j).getLast? = some c := by rw [List.getLast?_eq_head?_reverse, hr]; rfl
    rw [List.dropWhile_cons_of_neg (by simpa using h2 c hh), ← hr, List.reverse_reverse]
theorem more_nines (K : Bs) (h : ∀ c ∈ K, c = 57) : more K = 49 :: List.replicate K.length 48 := by
  have h1 := no9_at K 0 h (by simp)
  rw [List.take_zero] at h1
  rw [more_nil h1, h1, rep_replicate]; rfl
theorem more_at (K : Bs) (j : Nat) (h0 : 0 < j) (hj : j ≤ K.length) (h : ∀ c ∈ K.drop j, c = 57) (c : UInt8) (hc : K[j - 1]? = some c) (hne : c ≠ 57) : more K = (rowAt K j).set (j - 1) (c + 1) := by
  have hlast : (K.take j).getLast? = some c := by
    rw [List.getLast?_eq_getElem?, List.length_take, Nat.min_eq_left hj, List.getElem?_take_of_lt (by omega), hc]
  have h1 := no9_at K j h (fun d hd => by rw [hlast] at hd; rw [← Option.some.inj hd]; exact hne)
  have h2 : (no9 K).getLast? = some c := by rw [h1]; exact hlast
  rw [more_cons h2, h1, rowAt_inc K j h0 hj, rep_replicate, List.length_take, Nat.min_eq_left hj, List.dropLast_eq_take, List.length_take, Nat.min_eq_left hj, List.take_take, Nat.min_eq_left (by omega)]
theorem half_cases (c : UInt8) (t : Bs) : half (c :: t) = if 53 < c.toNat then 1 else if c.toNat = 53 then (if t = [] then 0 else 1) else -1 := by
  have e : ∀ a b : UInt8, (a < b) = (a.toNat < b.toNat) := fun a b => rfl
  simp only [half, Lib.compareBytes, e]
  have h53 : (53 : UInt8).toNat = 53 := rfl
  rw [h53]
  by_cases h1 : 53 < c.toNat
  · rw [if_pos h1, if_neg (by omega), if_pos h1]
  · rw [if_neg h1]
    by_cases h2 : c.toNat = 53
    · rw [if_pos h2, if_neg (by omega), if_neg (by omega)]
      cases t with
      | nil => rfl
      | cons d t => rfl
    · rw [if_neg h2, if_pos (by omega), if_neg h1]
end Go.Proofs.YtiglekomfgfilaaGreatDoor.Dc

/- Plain Lean: a text that is read as a decimal. -/
namespace Go.Proofs.YtiglekomfgfilaaGreatDoor.Dc
set_option linter.all false
def numOf (l : Bs) : Int := l.foldl (fun a c => 10 * a + ((c.toNat : Int) - 48)) 0
def tail (neg : Bool) (ds : Bs) (places : Nat) (r : Bs) : Res :=
  match r with
  | [] => mk neg ds (-places)
  | c :: t =>
    if c = 101 ∨ c = 69 then
      let t1 := match t with | d :: t' => if d = 43 ∨ d = 45 then t' else t | [] => []
      let n := t1.takeWhile isDig
      if n = [] ∨ 9 < n.length ∨ t1.dropWhile isDig ≠ [] then ⟨false, [], 0, 3⟩
      else mk neg ds ((if t[0]? = some 45 then - numOf n else numOf n) - places)
    else ⟨false, [], 0, 3⟩
def parse (l : Bs) : Res :=
  let s1 := Lib.trimPrefix l [45]
  let f := s1.takeWhile isDig
  let s2 := s1.dropWhile isDig
  let g := if Lib.hasPrefix s2 [46] then (Lib.trimPrefix s2 [46]).takeWhile isDig else []
  let s4 := if Lib.hasPrefix s2 [46] then (Lib.trimPrefix s2 [46]).dropWhile isDig else s2
  if f ++ g = [] then ⟨false, [], 0, 3⟩ else tail (Lib.hasPrefix l [45]) (f ++ g) g.length s4
theorem parseUint_digs (l : Bs) : ∀ (a : Nat), allDig l = true → a * 10 ^ l.length + 10 ^ l.length ≤ 1000000000000000000 → ∃ u : Nat, Lib.parseUint10 a l = .ok u ∧ (u : Int) = l.foldl (fun (a : Int) c => 10 * a + ((c.toNat : Int) - 48)) (a : Int) ∧ u < a * 10 ^ l.length + 10 ^ l.length := by
  induction l with
  | nil => intro a _ _; exact ⟨a, rfl, rfl, by simp⟩
  | cons c l ih =>
    intro a hd hb
    have hc := dig_mem hd (List.mem_cons_self (a := c) (l := l))
    have hd' : allDig l = true := by rw [allDig, List.all_cons, Bool.and_eq_true] at hd; exact hd.2
    have hp : 1 ≤ 10 ^ l.length := Nat.one_le_pow _ _ (by decide)
    rw [List.length_cons, Nat.pow_succ] at hb
    have hb2 : a * (10 ^ l.length * 10) = (a * 10) * 10 ^ l.length := by rw [Nat.mul_comm (10 ^ l.length) 10, Nat.mul_assoc]
    have hstep : (a * 10 + (c.toNat - 48)) * 10 ^ l.length + 10 ^ l.length ≤ a * (10 ^ l.length * 10) + 10 ^ l.length * 10 := by
      rw [hb2, Nat.add_mul]
      have : (c.toNat - 48) * 10 ^ l.length ≤ 9 * 10 ^ l.length := Nat.mul_le_mul_right _ (by omega)
      omega
    obtain ⟨u, h1, h2, h3⟩ := ih (a * 10 + (c.toNat - 48)) hd' (by omega)
    have ha : a ≤ 100000000000000000 := by
      have : a * 10 ≤ a * 10 * 10 ^ l.length := Nat.le_mul_of_pos_right _ hp
      omega
    refine ⟨u, ?_, ?_, by rw [List.length_cons, Nat.pow_succ]; omega⟩
    · rw [Lib.parseUint10, if_pos ⟨hc.1, hc.2⟩, if_neg (by omega), if_neg (by omega), h1]
    · rw [List.foldl_cons, h2]
      congr 1
      omega
theorem atoi_digs (l : Bs) (hd : allDig l = true) (hne : l ≠ []) (hl : l.length ≤ 9) : Lib.atoiAll l = .ok (numOf l) ∧ 0 ≤ numOf l ∧ numOf l < 1000000000 := by
  obtain ⟨u, h1, h2, h3⟩ := parseUint_digs l 0 hd (by
    have : 10 ^ l.length ≤ 10 ^ 9 := Nat.pow_le_pow_right (by decide) hl
    omega)
  have h4 : 10 ^ l.length ≤ 10 ^ 9 := Nat.pow_le_pow_right (by decide) hl
  have hn : numOf l = u := h2.symm
  rw [hn]
  refine ⟨?_, by omega, by omega⟩
  cases l with
  | nil => exact absurd rfl hne
  | cons c r =>
    have hc := dig_mem hd (List.mem_cons_self (a := c) (l := r))
    have h43 : ¬ (c.toNat = 43 ∨ c.toNat = 45) := by omega
    have h45 : ¬ c.toNat = 45 := by omega
    have h5 : Lib.parseMag (if c.toNat = 43 ∨ c.toNat = 45 then r else c :: r) = .ok u := by
      rw [if_neg h43, Lib.parseMag, if_neg (by simp), h1]
    unfold Lib.atoiAll
    simp only []
    rw [h5]
    simp [h45]; omega
def bad : Res := ⟨false, [], 0, 3⟩
theorem cons_of_bytes (s : ByteArray) (h : 0 < s.size) : s.data.toList = s[0] :: (s.extract 1 s.size).data.toList := by
  rw [Lib.extract_to_end]
  have h1 := get?_bytes s 0 h
  cases e : s.data.toList with
  | nil => rw [e] at h1; cases h1
  | cons a l => rw [e] at h1; simp at h1; rw [← h1]; rfl
theorem nil_of_bytes (s : ByteArray) (h : s.size = 0) : s.data.toList = [] := List.length_eq_zero_iff.1 (by simpa using h)
theorem ne_nil_of_bytes (s : ByteArray) (h : 0 < s.size) : s.data.toList ≠ [] := by rw [cons_of_bytes s h]; simp
theorem tail_nil (neg : Bool) (ds : Bs) (k : Nat) (s : ByteArray) (h : s.size = 0) : tail neg ds k s.data.toList = mk neg ds (-k) := by rw [nil_of_bytes s h]; rfl
theorem tail_bad (neg : Bool) (ds : Bs) (k : Nat) (s : ByteArray) (h : 0 < s.size) (h1 : ¬ (s[0].toNat : Int) = 101) (h2 : ¬ (s[0].toNat : Int) = 69) : tail neg ds k s.data.toList = bad := by
  rw [cons_of_bytes s h]
  unfold tail
  simp only []
  rw [if_neg]; · rfl
  rintro (e | e) <;> rw [e] at h1 h2 <;> simp at h1 h2
def unsign (t : Bs) : Bs := match t with | d :: t' => if d = 43 ∨ d = 45 then t' else t | [] => []
theorem unsign_sign (t : ByteArray) (h : 0 < t.size) (h1 : (t[0].toNat : Int) = 43 ∨ (t[0].toNat : Int) = 45) : unsign t.data.toList = (t.extract 1 t.size).data.toList := by
  rw [cons_of_bytes t h]
  unfold unsign
  simp only []
  rw [if_pos]
  rcases h1 with e | e
  · exact .inl (u8_of_int (by simpa using e))
  · exact .inr (u8_of_int (by simpa using e))
theorem unsign_none (t : ByteArray) (h1 : ∀ h : 0 < t.size, ¬ ((t[0].toNat : Int) = 43 ∨ (t[0].toNat : Int) = 45)) : unsign t.data.toList = t.data.toList := by
  by_cases h : 0 < t.size
  · have h2 := h1 h
    rw [cons_of_bytes t h]
    unfold unsign
    simp only []
    rw [if_neg]
    rintro (e | e) <;> rw [e] at h2 <;> simp at h2
  · rw [nil_of_bytes t (by omega)]; rfl
theorem tail_exp (neg : Bool) (ds : Bs) (k : Nat) (s t : ByteArray) (h : 0 < s.size) (h1 : (s[0].toNat : Int) = 101 ∨ (s[0].toNat : Int) = 69) (ht : t = s.extract 1 s.size) :
    tail neg ds k s.data.toList = if (unsign t.data.toList).takeWhile isDig = [] ∨ 9 < ((unsign t.data.toList).takeWhile isDig).length ∨ (unsign t.data.toList).dropWhile isDig ≠ [] then bad
      else mk neg ds ((if t.data.toList[0]? = some 45 then - numOf ((unsign t.data.toList).takeWhile isDig) else numOf ((unsign t.data.toList).takeWhile isDig)) - k) := by
  rw [cons_of_bytes s h, ← ht]
  have hc : s[0] = 101 ∨ s[0] = 69 := by
    rcases h1 with e | e
    · exact .inl (u8_of_int (by simpa using e))
    · exact .inr (u8_of_int (by simpa using e))
  show (if s[0] = 101 ∨ s[0] = 69 then _ else _) = _
  rw [if_pos hc]
  rfl
theorem tail_exp_bad (neg : Bool) (ds : Bs) (k : Nat) (s t t1 n q : ByteArray) (h : 0 < s.size) (h1 : (s[0].toNat : Int) = 101 ∨ (s[0].toNat : Int) = 69) (ht : t = s.extract 1 s.size)
    (hu : unsign t.data.toList = t1.data.toList) (hn : n.data.toList = t1.data.toList.takeWhile isDig) (hq : q.data.toList = t1.data.toList.dropWhile isDig) (hb : n.size = 0 ∨ 9 < n.size ∨ 0 < q.size) :
    tail neg ds k s.data.toList = bad := by
  rw [tail_exp neg ds k s t h h1 ht, hu, ← hn, ← hq, if_pos]
  rcases hb with e | e | e
  · exact .inl (nil_of_bytes n e)
  · exact .inr (.inl (by simpa using e))
  · exact .inr (.inr (ne_nil_of_bytes q e))
theorem tail_exp_ok (neg : Bool) (ds : Bs) (k : Nat) (s t t1 n q : ByteArray) (h : 0 < s.size) (h1 : (s[0].toNat : Int) = 101 ∨ (s[0].toNat : Int) = 69) (ht : t = s.extract 1 s.size)
    (hu : unsign t.data.toList = t1.data.toList) (hn : n.data.toList = t1.data.toList.takeWhile isDig) (hq : q.data.toList = t1.data.toList.dropWhile isDig) (hb : 0 < n.size ∧ n.size ≤ 9 ∧ q.size = 0) (hts : 1 < s.size) :
    tail neg ds k s.data.toList = mk neg ds ((if (s[1].toNat : Int) = 45 then - numOf n.data.toList else numOf n.data.toList) - k) := by
  have hlen : n.data.toList.length = n.size := by simp
  have h0 : t.data.toList[0]? = some s[1] := by
    rw [ht, Lib.extract_to_end, List.getElem?_drop, get?_bytes s 1 hts]
  have h45 : (s[1] = 45) = ((s[1].toNat : Int) = 45) := by
    apply propext
    exact ⟨fun e => by rw [e]; rfl, fun e => u8_of_int (by simpa using e)⟩
  rw [tail_exp neg ds k s t h h1 ht, hu, ← hn, ← hq, if_neg, h0]
  · simp only [Option.some.injEq, h45]
  · rintro (e | e | e)
    · exact ne_nil_of_bytes n hb.1 e
    · omega
    · exact e (nil_of_bytes q hb.2.2)
theorem trimPrefix_len (l p : Bs) : (Lib.trimPrefix l p).length ≤ l.length := by
  rw [Lib.trimPrefix]
  split
  · rw [List.length_drop]; omega
  · exact Nat.le_refl _
theorem ite_val (f g : Bs) (a b : Res) : (if f ++ g = [] then a else b).val = if f.length + g.length = 0 then a.val else b.val := by
  have h : (f ++ g = []) ↔ (f.length + g.length = 0) := by
    rw [← List.length_append, List.length_eq_zero_iff]
  by_cases e : f ++ g = []
  · rw [if_pos e, if_pos (h.1 e)]
  · rw [if_neg e, if_neg (fun x => e (h.2 x))]
theorem parse_dot (l : Bs) (h : Lib.hasPrefix ((Lib.trimPrefix l [45]).dropWhile isDig) [46] = true) : (parse l).val =
    if ((Lib.trimPrefix l [45]).takeWhile isDig).length + ((Lib.trimPrefix ((Lib.trimPrefix l [45]).dropWhile isDig) [46]).takeWhile isDig).length = 0 then (⟨false, [], 0, 3⟩ : Res).val
    else (tail (Lib.hasPrefix l [45]) ((Lib.trimPrefix l [45]).takeWhile isDig ++ (Lib.trimPrefix ((Lib.trimPrefix l [45]).dropWhile isDig) [46]).takeWhile isDig) ((Lib.trimPrefix ((Lib.trimPrefix l [45]).dropWhile isDig) [46]).takeWhile isDig).length ((Lib.trimPrefix ((Lib.trimPrefix l [45]).dropWhile isDig) [46]).dropWhile isDig)).val := by
  unfold parse
  simp only [h, if_true]
  exact ite_val _ _ _ _
theorem parse_plain (l : Bs) (h : Lib.hasPrefix ((Lib.trimPrefix l [45]).dropWhile isDig) [46] = false) : (parse l).val =
    if ((Lib.trimPrefix l [45]).takeWhile isDig).length + ([] : Bs).length = 0 then (⟨false, [], 0, 3⟩ : Res).val
    else (tail (Lib.hasPrefix l [45]) ((Lib.trimPrefix l [45]).takeWhile isDig ++ []) 0 ((Lib.trimPrefix l [45]).dropWhile isDig)).val := by
  unfold parse
  simp only [h]
  exact ite_val _ _ _ _
end Go.Proofs.YtiglekomfgfilaaGreatDoor.Dc

/- Plain Lean: a decimal that is written. -/
namespace Go.Proofs.YtiglekomfgfilaaGreatDoor.Dc
set_option linter.all false
def body (s l : Bs) (p : Int) : Bs :=
  if l = [] then s ++ [48]
  else if 1 ≤ p ∧ p ≤ 21 ∧ (l.length : Int) ≤ p then s ++ l ++ Lib.repeatL [48] (p - l.length).toNat
  else if 1 ≤ p ∧ p ≤ 21 then s ++ l.take p.toNat ++ [46] ++ l.drop p.toNat
  else if -5 ≤ p ∧ p ≤ 0 then s ++ [48, 46] ++ Lib.repeatL [48] (-p).toNat ++ l
  else
    let t := if 1 < l.length then s ++ l.take 1 ++ ([46] ++ l.drop 1) else s ++ l.take 1
    if p < 1 then t ++ [101, 45] ++ Lib.itoa (1 - p) else t ++ [101, 43] ++ Lib.itoa (p - 1)
def print (n : Bool) (l : Bs) (x : Int) : Bs :=
  if right l x = true then body (if n then [45] else []) l (l.length + x) else []
theorem ba_eq (s : ByteArray) (l : Bs) (h : s.data.toList = l) : s = ⟨l.toArray⟩ := by rw [← h]
theorem ba_app (a b : ByteArray) : (a ++ b).data.toList = a.data.toList ++ b.data.toList := by simp
theorem itoa_len (n : Int) (h : -1000000 ≤ n ∧ n ≤ 1000000) : (Lib.itoa n).length ≤ 30 := by
  have hd : ∀ u : Nat, u ≤ 1000000 → (Lib.decDigits u).length ≤ 29 := fun u hu => by
    rw [Lib.decDigits_length]
    have : ∀ k u : Nat, u < 10 ^ k → Lib.nDigits u ≤ k + 1 := by
      intro k
      induction k with
      | zero => intro u hu; rw [Lib.nDigits_small (by simp at hu; omega)]; omega
      | succ k ih =>
        intro u hu
        by_cases h : u < 10
        · rw [Lib.nDigits_small h]; omega
        · rw [Lib.nDigits_big h]
          have := ih (u / 10) (by rw [Nat.pow_succ] at hu; omega)
          omega
    have := this 7 u (by omega)
    omega
  unfold Lib.itoa
  split
  · rw [List.length_cons]; have := hd n.natAbs (by omega); omega
  · have := hd n.toNat (by omega); omega
end Go.Proofs.YtiglekomfgfilaaGreatDoor.Dc
