/- Plain Lean: rounding to places, as a number: what is rounded is the quotient by the unit, or one more. -/
import Derived.Test.YtcbepojookbceaaDoorNum
import Derived.Test.YtcbepojookbceaaDoorDec7
import Derived.Test.YtcbepojookbceaaDoorDec6
namespace Go.Proofs.YtcbepojookbceaaDoor.Dc
set_option linter.all false

theorem nv_rep (k : Nat) : nv (List.replicate k 48) = 0 := by
  induction k with
  | zero => rfl
  | succ k ih => rw [List.replicate_succ, nv_cons, ih]; simp
theorem nv_zeros {a : Bs} (h : ∀ c ∈ a, c = 48) : nv a = 0 := by
  have : a = List.replicate a.length 48 := List.eq_replicate_iff.2 ⟨rfl, h⟩
  rw [this, nv_rep]
theorem nv_front {a : Bs} (h : ∀ c ∈ a, c = 48) (l : Bs) : nv (a ++ l) = nv l := by rw [nv_app, nv_zeros h]; simp
theorem nv_back {z : Bs} (h : ∀ c ∈ z, c = 48) (l : Bs) : nv (l ++ z) = nv l * 10 ^ z.length := by rw [nv_app, nv_zeros h]; simp

theorem lead_split (l : Bs) : ∃ a, l = a ++ lead l ∧ ∀ c ∈ a, c = 48 := by
  refine ⟨l.takeWhile (· == 48), ?_, ?_⟩
  · rw [lead, Lib.trimLeftB, List.takeWhile_append_dropWhile]
  · intro c hc
    have := List.all_eq_true.1 (List.all_takeWhile (l := l) (p := (· == 48))) c hc
    simpa using this
theorem lead_core' (l : Bs) : ∃ z, lead l = core l ++ z ∧ ∀ c ∈ z, c = 48 := by
  by_cases h : core l = []
  · refine ⟨lead l, by rw [h]; rfl, ?_⟩
    have hs := List.takeWhile_append_dropWhile (p := (· == 48)) (l := (lead l).reverse)
    have h2 : (lead l).reverse.dropWhile (· == 48) = [] := by
      have := h; rw [core, Lib.trimRightB] at this; simpa using this
    rw [h2, List.append_nil] at hs
    intro c hc
    have := List.all_eq_true.1 (List.all_takeWhile (l := (lead l).reverse) (p := (· == 48))) c (by rw [hs]; simpa using hc)
    simpa using this
  · exact lead_core l h

/-- What is made of digits is their number. -/
theorem nv_core (l : Bs) : nv l = nv (core l) * 10 ^ tz l := by
  obtain ⟨a, h1, h2⟩ := lead_split l
  obtain ⟨z, h3, h4⟩ := lead_core' l
  have ht : tz l = z.length := by unfold tz; rw [h3, List.length_append]; omega
  conv => lhs; rw [h1, nv_front h2, h3, nv_back h4]
  rw [ht]

theorem mk_vv (n : Bool) (ds : Bs) (y : Int) (hd : allDig ds = true) (hy : -200000 ≤ y) (he : (mk n ds y).e = 0) :
    (mk n ds y).n = n ∧ right (mk n ds y).l (mk n ds y).x = true ∧ vv (mk n ds y).l (mk n ds y).x = nv ds * 10 ^ (y + lift).toNat := by
  by_cases h1 : core ds = []
  · rw [mk_zero hd h1]
    refine ⟨rfl, by simp [right], ?_⟩
    rw [nv_core, h1, nv_nil, vv_zero]; simp
  · by_cases h2 : right (core ds) (y + tz ds) = true
    · rw [mk_ok hd h1 h2]
      refine ⟨rfl, h2, ?_⟩
      show nv (core ds) * 10 ^ (y + tz ds + lift).toNat = _
      have e : nv ds * 10 ^ (y + lift).toNat = nv (core ds) * 10 ^ tz ds * 10 ^ (y + lift).toNat := by conv => lhs; rw [nv_core]
      rw [e, Nat.mul_assoc, ← Nat.pow_add]
      congr 2; unfold lift; omega
    · rw [mk_over hd h1 h2] at he; cases he

theorem nv_more (K : Bs) (h : allDig K = true) : nv (more K) = nv K + 1 ∧ allDig (more K) = true := by
  by_cases h9 : ∀ c ∈ K, c = 57
  · have hK : nv K + 1 = 10 ^ K.length := by
      clear h
      induction K with
      | nil => rfl
      | cons c K ih =>
        have := ih (fun d hd => h9 d (List.mem_cons_of_mem _ hd))
        have hc := h9 c (List.mem_cons_self ..)
        rw [nv_cons, hc, List.length_cons, Nat.pow_succ]
        have e : (57 : UInt8).toNat - 48 = 9 := rfl
        rw [e]; omega
    rw [more_nines K h9, hK, nv_cons, nv_rep, List.length_replicate]
    refine ⟨by simp, ?_⟩
    rw [allDig, List.all_cons, Bool.and_eq_true]
    exact ⟨by decide, by rw [← rep_replicate]; exact rep_dig _⟩
  · -- the last digit that is no nine
    have hex : ∃ j, 0 < j ∧ j ≤ K.length ∧ (∀ c ∈ K.drop j, c = 57) ∧ ∃ c, K[j - 1]? = some c ∧ c ≠ 57 := by
      clear h
      induction K with
      | nil => exact absurd (fun c hc => by cases hc) h9
      | cons d K ih =>
        by_cases hK : ∀ c ∈ K, c = 57
        · exact ⟨1, by omega, by simp, by simpa using hK, d, rfl, fun e => h9 (fun c hc => by rcases List.mem_cons.1 hc with e2 | e2; exact e2.trans e; exact hK c e2)⟩
        · obtain ⟨j, h1, h2, h3, c, h4, h5⟩ := ih hK
          refine ⟨j + 1, by omega, by simp; omega, by simpa using h3, c, ?_, h5⟩
          rw [Nat.add_sub_cancel, show j = j - 1 + 1 by omega, List.getElem?_cons_succ]; exact h4
    obtain ⟨j, h1, h2, h3, c, h4, h5⟩ := hex
    have hcd := dig_mem h (List.mem_of_getElem? h4)
    have hc57 : c.toNat ≠ 57 := fun e => h5 (UInt8.toNat_inj.1 (by simpa using e))
    have hc1 : (c + 1).toNat = c.toNat + 1 := by rw [UInt8.toNat_add]; simp; omega
    have hsp : K = K.take (j - 1) ++ ([c] ++ K.drop j) := by
      have e1 := List.take_append_drop (j - 1) K
      have e2 : K.drop (j - 1) = c :: K.drop j := by
        have hj : j - 1 < K.length := by omega
        rw [List.drop_eq_getElem_cons hj]
        rw [List.getElem?_eq_getElem hj] at h4
        rw [Option.some.inj h4, show j - 1 + 1 = j by omega]
      rw [e2] at e1; simpa using e1.symm
    have hd9 : nv (K.drop j) + 1 = 10 ^ (K.length - j) := by
      have : ∀ L : Bs, (∀ c ∈ L, c = 57) → nv L + 1 = 10 ^ L.length := by
        intro L hL
        induction L with
        | nil => rfl
        | cons c L ih =>
          have := ih (fun d hd => hL d (List.mem_cons_of_mem _ hd))
          have hc := hL c (List.mem_cons_self ..)
          rw [nv_cons, hc, List.length_cons, Nat.pow_succ]
          have e : (57 : UInt8).toNat - 48 = 9 := rfl
          rw [e]; omega
      have := this _ h3
      rwa [List.length_drop] at this
    have hm := more_at K j h1 h2 h3 c h4 h5
    rw [rowAt_inc K j h1 h2] at hm
    refine ⟨?_, ?_⟩
    · have e1 : nv K = nv (K.take (j - 1)) * 10 ^ (1 + (K.length - j)) + ((c.toNat - 48) * 10 ^ (K.length - j) + nv (K.drop j)) := by
        conv => lhs; rw [hsp]
        rw [nv_app, nv_app, nv_cons, nv_nil]
        simp only [List.length_append, List.length_cons, List.length_nil, List.length_drop, Nat.zero_add, Nat.pow_zero, Nat.mul_one, Nat.add_zero]
      have e2 : nv (more K) = nv (K.take (j - 1)) * 10 ^ (1 + (K.length - j)) + (c.toNat + 1 - 48) * 10 ^ (K.length - j) := by
        rw [hm, List.append_assoc, nv_app, nv_app, nv_rep, nv_cons, nv_nil, hc1]
        simp only [List.length_append, List.length_cons, List.length_nil, List.length_replicate, Nat.zero_add, Nat.pow_zero, Nat.mul_one, Nat.add_zero]
      rw [e1, e2, show c.toNat + 1 - 48 = (c.toNat - 48) + 1 by omega, Nat.add_mul]
      omega
    · rw [hm]
      refine app_dig (app_dig (dig_take h _) ?_) (by rw [← rep_replicate]; exact rep_dig _)
      simp [allDig, isDig, hc1]; omega

theorem odd_nv (K : Bs) (h : allDig K = true) : odd K = decide (nv K % 2 = 1) := by
  cases hK : K.getLast? with
  | none =>
    have : K = [] := by simpa using hK
    subst this; rfl
  | some c =>
    obtain ⟨L, rfl⟩ : ∃ L, K = L ++ [c] := by
      obtain ⟨L, hL⟩ := List.getLast?_eq_some_iff.1 hK
      exact ⟨L, hL⟩
    have hc := dig_mem h (show c ∈ L ++ [c] by simp)
    rw [odd, hK, nv_app, nv_cons, nv_nil]
    simp only [List.length_cons, List.length_nil, Nat.zero_add, Nat.pow_one, Nat.pow_zero, Nat.mul_one, Nat.add_zero]
    rw [Bool.eq_iff_iff]; simp; omega

/-- Does a number go up? (q: the quotient by the unit U, r: what is left.) -/
def ups (n : Bool) (way : Int) (q r U : Nat) : Bool :=
  decide (r ≠ 0) && (if way = 0 then decide (U < 2 * r) || (decide (2 * r = U) && decide (q % 2 = 1))
    else if way = 1 then decide (U ≤ 2 * r) else if way = 3 then true else if way = 4 then n else decide (way = 5) && !n)
/-- Rounded, in units. -/
def rnd (n : Bool) (way : Int) (V U : Nat) : Nat := V / U + (if ups n way (V / U) (V % U) U = true then 1 else 0)

theorem rnd_mono (n : Bool) (way : Int) (V W U : Nat) (hU : 0 < U) (h : V ≤ W) : rnd n way V U ≤ rnd n way W U := by
  have hq : V / U ≤ W / U := Nat.div_le_div_right h
  unfold rnd
  by_cases e : V / U = W / U
  · have hr : V % U ≤ W % U := by
      have h1 := Nat.div_add_mod V U
      have h2 := Nat.div_add_mod W U
      rw [e] at h1; omega
    rw [e]
    by_cases hu : ups n way (W / U) (V % U) U = true
    · have : ups n way (W / U) (W % U) U = true := by
        unfold ups at hu ⊢
        rw [Bool.and_eq_true, decide_eq_true_eq] at hu ⊢
        obtain ⟨h0, hu⟩ := hu
        refine ⟨by omega, ?_⟩
        split at hu
        · rename_i hw; rw [if_pos hw]
          simp only [Bool.or_eq_true, Bool.and_eq_true, decide_eq_true_eq] at hu ⊢
          omega
        · rename_i hw; rw [if_neg hw]
          split at hu
          · rename_i hw; rw [if_pos hw]
            simp only [decide_eq_true_eq] at hu ⊢; omega
          · rename_i hw; rw [if_neg hw]; exact hu
      rw [if_pos hu, if_pos this]; exact Nat.le_refl _
    · rw [if_neg hu]; omega
  · have : V / U + 1 ≤ W / U := by omega
    split <;> omega

theorem rnd_whole (n : Bool) (way : Int) (q U : Nat) (hU : 0 < U) : rnd n way (q * U) U = q := by
  unfold rnd ups
  rw [Nat.mul_mod_left, Nat.mul_div_cancel _ hU]; simp

/-- The unit of the last place. -/
def unit (k : Int) : Nat := 10 ^ (lift - k).toNat
theorem unit_pos (k : Int) : 0 < unit k := Nat.pos_of_ne_zero (by simp [unit])

theorem up_ups (n : Bool) (way : Int) (K R : Bs) (hK : allDig K = true) (hR : allDig R = true) (hne : R ≠ []) (he : endOk R) (E : Nat) (hE : 0 < E) :
    up n K R way = ups n way (nv K) (nv R * E) (10 ^ R.length * E) := by
  have hp : 0 < R.length := List.length_pos_iff.2 hne
  have h0 : 0 < nv R := nv_last hR hne (he hne)
  have hh : half R = sg (nv R) (5 * 10 ^ (R.length - 1)) := by
    have := compare_nv R [53] R.length hR (by decide) he (by intro _; decide) (Nat.le_refl _) (by simp; omega)
    rw [Nat.sub_self, Nat.pow_zero, Nat.mul_one] at this
    exact this
  have h10 : 10 ^ R.length = 2 * (5 * 10 ^ (R.length - 1)) := by
    conv => lhs; rw [show R.length = R.length - 1 + 1 by omega, Nat.pow_succ]
    omega
  have hne0 : nv R * E ≠ 0 := Nat.ne_of_gt (Nat.mul_pos h0 hE)
  have l1 : (10 ^ R.length * E < 2 * (nv R * E)) ↔ 5 * 10 ^ (R.length - 1) < nv R := by
    rw [h10, Nat.mul_assoc, Nat.mul_lt_mul_left (by decide), Nat.mul_lt_mul_right hE]
  have l2 : (2 * (nv R * E) = 10 ^ R.length * E) ↔ nv R = 5 * 10 ^ (R.length - 1) := by
    rw [h10, Nat.mul_assoc, Nat.mul_right_inj (by decide), Nat.mul_left_inj (by omega)]
  have l3 : (10 ^ R.length * E ≤ 2 * (nv R * E)) ↔ 5 * 10 ^ (R.length - 1) ≤ nv R := by
    rw [h10, Nat.mul_assoc, Nat.mul_le_mul_left_iff (by decide), Nat.mul_le_mul_right_iff hE]
  unfold up ups
  rw [if_neg hne, odd_nv K hK, hh]
  simp only [l1, l2, l3, hne0, ne_eq, not_false_eq_true, decide_true, Bool.true_and]
  have s1 : (0 < sg (nv R) (5 * 10 ^ (R.length - 1))) ↔ 5 * 10 ^ (R.length - 1) < nv R := by unfold sg; split <;> (try split) <;> omega
  have s2 : (sg (nv R) (5 * 10 ^ (R.length - 1)) = 0) ↔ nv R = 5 * 10 ^ (R.length - 1) := by unfold sg; split <;> (try split) <;> omega
  have s3 : (0 ≤ sg (nv R) (5 * 10 ^ (R.length - 1))) ↔ 5 * 10 ^ (R.length - 1) ≤ nv R := by unfold sg; split <;> (try split) <;> omega
  simp only [s1, s2, s3]

/-- A decimal rounded to places: the error apart, its sign stays, it is right, and it is the rounded number. -/
theorem place_rnd (n : Bool) (l : Bs) (x k way : Int) (h : right l x = true) (hw : 0 ≤ way ∧ way ≤ 5) (hk : -100000 ≤ k ∧ k ≤ 100000) (he : (place n l x k way).e = 0) :
    (place n l x k way).n = n ∧ right (place n l x k way).l (place n l x k way).x = true ∧ vv (place n l x k way).l (place n l x k way).x = rnd n way (vv l x) (unit k) * unit k := by
  have hx := right_exp h
  rw [place, if_pos ⟨h, hw.1, hw.2, hk.1, hk.2⟩] at he ⊢
  have hpt : point l x = l.length + x := by rw [point, if_pos h]
  rw [hpt] at he ⊢
  by_cases hc : l ≠ [] ∧ (l.length : Int) + x + k < l.length
  · rw [if_pos hc] at he ⊢
    obtain ⟨hne, hlt⟩ := hc
    have hd := right_dig h
    have heo := right_endOk h
    by_cases hneg : (l.length : Int) + x + k < 0
    · -- all of it is taken away
      have hb := vv_bounds h hne
      have hU : 10 * vv l x < 10 * (unit k / 10) + 10 ∧ 10 * vv l x < unit k := by
        have e : unit k = 10 * 10 ^ (lift - k - 1).toNat := by
          unfold unit
          rw [show (lift - k).toNat = (lift - k - 1).toNat + 1 by unfold lift; omega, Nat.pow_succ, Nat.mul_comm]
        have e2 : 10 ^ ((l.length : Int) + x + lift).toNat ≤ 10 ^ (lift - k - 1).toNat := Nat.pow_le_pow_right (by decide) (by unfold lift; omega)
        omega
      have hV : 0 < vv l x := vv_pos h hne
      have hq : vv l x / unit k = 0 := Nat.div_eq_of_lt (by omega)
      have hr : vv l x % unit k = vv l x := Nat.mod_eq_of_lt (by omega)
      have hup : up n [] (48 :: l) way = ups n way 0 (vv l x) (unit k) := by
        have h1 : half (48 :: l) = -1 := by rw [half_cases]; simp
        unfold up ups
        rw [if_neg (by simp), h1]
        have a1 : ¬ unit k < 2 * vv l x := by omega
        have a2 : ¬ 2 * vv l x = unit k := by omega
        have a3 : ¬ unit k ≤ 2 * vv l x := by omega
        have a4 : vv l x ≠ 0 := by omega
        simp [a1, a2, a3, a4]
      have hcut : cut n l x ((l.length : Int) + x + k) way = mk n (if ups n way 0 (vv l x) (unit k) = true then [49] else []) (-k) := by
        have h2 : more [] = [49] := by decide
        unfold cut
        simp only [if_pos hneg, show ((l.length : Int) + x + k).toNat = 0 by omega, List.take_zero, hup, h2]
        congr 1; omega
      rw [hcut] at he ⊢
      obtain ⟨m1, m2, m3⟩ := mk_vv n _ (-k) (by split <;> decide) (by omega) he
      refine ⟨m1, m2, m3.trans ?_⟩
      rw [rnd, hq, hr, Nat.zero_add]
      have e : 10 ^ (-k + lift).toNat = unit k := by unfold unit; congr 2; omega
      rw [e]
      split
      · have : nv [49] = 1 := by decide
        rw [this]
      · rw [nv_nil]
    · obtain ⟨K, hK⟩ : ∃ K : Nat, (l.length : Int) + x + k = K := ⟨((l.length : Int) + x + k).toNat, by omega⟩
      obtain ⟨m, hm⟩ : ∃ m : Nat, m = l.length - K := ⟨_, rfl⟩
      have hmx : (m : Int) = -(x + k) := by omega
      have hRl : (l.drop K).length = m := by rw [List.length_drop, hm]
      have hRne : l.drop K ≠ [] := fun e => by rw [e] at hRl; simp at hRl; omega
      have hRd : allDig (l.drop K) = true := by rw [allDig, List.all_eq_true] at hd ⊢; exact fun c hc => hd c (List.mem_of_mem_drop hc)
      have hKd : allDig (l.take K) = true := dig_take hd K
      have hRe : endOk (l.drop K) := by
        intro _ e
        refine heo hne ?_
        rw [List.getElem?_drop, hRl] at e
        rw [← e]; congr 1; omega
      have hE : 0 < 10 ^ (x + lift).toNat := Nat.pos_of_ne_zero (by simp)
      have hU : unit k = 10 ^ m * 10 ^ (x + lift).toNat := by unfold unit; rw [← Nat.pow_add]; congr 1; unfold lift; omega
      have hV : vv l x = nv (l.take K) * unit k + nv (l.drop K) * 10 ^ (x + lift).toNat := by
        unfold vv
        conv => lhs; rw [← List.take_append_drop K l]
        rw [nv_app, hRl, Nat.add_mul, hU, Nat.mul_assoc]
      have hrl : nv (l.drop K) * 10 ^ (x + lift).toNat < unit k := by
        rw [hU]
        have := nv_lt hRd
        rw [hRl] at this
        exact Nat.mul_lt_mul_of_pos_right this hE
      have hq : vv l x / unit k = nv (l.take K) := by
        rw [hV, Nat.mul_comm, Nat.mul_add_div (unit_pos k), Nat.div_eq_of_lt hrl, Nat.add_zero]
      have hr : vv l x % unit k = nv (l.drop K) * 10 ^ (x + lift).toNat := by
        rw [hV, Nat.mul_comm, Nat.mul_add_mod, Nat.mod_eq_of_lt hrl]
      have hup : up n (l.take K) (l.drop K) way = ups n way (vv l x / unit k) (vv l x % unit k) (unit k) := by
        rw [hq, hr, hU, ← hRl]
        exact up_ups n way _ _ hKd hRd hRne hRe _ hE
      have hcut : cut n l x ((l.length : Int) + x + k) way = mk n (if ups n way (vv l x / unit k) (vv l x % unit k) (unit k) = true then more (l.take K) else l.take K) (-k) := by
        unfold cut
        rw [hK]
        simp only [if_neg (show ¬ ((K : Int) < 0) by omega), Int.toNat_natCast, hup]
        congr 1; omega
      rw [hcut] at he ⊢
      obtain ⟨m1, m2, m3⟩ := mk_vv n _ (-k) (by split; exact (nv_more _ hKd).2; exact hKd) (by omega) he
      refine ⟨m1, m2, m3.trans ?_⟩
      have e : 10 ^ (-k + lift).toNat = unit k := by unfold unit; congr 2; omega
      rw [e, rnd]
      congr 1
      split
      · rw [(nv_more _ hKd).1, hq]
      · rw [hq, Nat.add_zero]
  · rw [if_neg hc] at he ⊢
    refine ⟨rfl, h, ?_⟩
    show vv l x = _
    by_cases hne : l = []
    · rw [hne, vv_zero]
      have := rnd_whole n way 0 (unit k) (unit_pos k)
      rw [Nat.zero_mul] at this; rw [this, Nat.zero_mul]
    · have hge : 0 ≤ x + k := by
        have : ¬ ((l.length : Int) + x + k < l.length) := fun e => hc ⟨hne, e⟩
        omega
      have e : vv l x = nv l * 10 ^ (x + k).toNat * unit k := by
        unfold vv unit
        rw [Nat.mul_assoc, ← Nat.pow_add]
        congr 2; unfold lift; omega
      conv => lhs; rw [e]
      rw [e, rnd_whole _ _ _ _ (unit_pos k)]

/-- What is greater has no lesser rounding. -/
theorem place_mono (na nb : Bool) (la lb : Bs) (xa xb k way : Int) (ha : right la xa = true) (hb : right lb xb = true) (hw : 0 ≤ way ∧ way ≤ 5) (hk : -100000 ≤ k ∧ k ≤ 100000)
    (ea : (place na la xa k way).e = 0) (eb : (place nb lb xb k way).e = 0) (h : cmpC na la xa nb lb xb ≤ 0) :
    cmpC (place na la xa k way).n (place na la xa k way).l (place na la xa k way).x (place nb lb xb k way).n (place nb lb xb k way).l (place nb lb xb k way).x ≤ 0 := by
  obtain ⟨a1, a2, a3⟩ := place_rnd na la xa k way ha hw hk ea
  obtain ⟨b1, b2, b3⟩ := place_rnd nb lb xb k way hb hw hk eb
  rw [cmpC_sv ha hb] at h
  rw [cmpC_sv a2 b2, a1, b1]
  have hsv : sv na la xa ≤ sv nb lb xb := by
    unfold sgz at h
    split at h
    · omega
    · split at h <;> omega
  have key : sv na (place na la xa k way).l (place na la xa k way).x ≤ sv nb (place nb lb xb k way).l (place nb lb xb k way).x := by
    unfold sv at hsv ⊢
    rw [a3, b3]
    have hp : 0 < unit k := unit_pos k
    cases na <;> cases nb
    · simp only [Bool.false_eq_true, if_false] at hsv ⊢
      exact Int.ofNat_le.2 (Nat.mul_le_mul_right _ (rnd_mono _ _ _ _ _ hp (Int.ofNat_le.1 hsv)))
    · simp only [Bool.false_eq_true, if_false, if_true] at hsv ⊢
      have e1 : vv la xa = 0 := by omega
      have e2 : vv lb xb = 0 := by omega
      have z : ∀ n : Bool, rnd n way 0 (unit k) = 0 := fun n => by have := rnd_whole n way 0 (unit k) hp; rwa [Nat.zero_mul] at this
      rw [e1, e2, z, z]; simp
    · simp only [Bool.false_eq_true, if_false, if_true]
      omega
    · simp only [if_true] at hsv ⊢
      have := Nat.mul_le_mul_right (unit k) (rnd_mono true way (vv lb xb) (vv la xa) (unit k) hp (by omega))
      omega
  unfold sgz
  split
  · omega
  · split <;> omega

end Go.Proofs.YtcbepojookbceaaDoor.Dc
