/- Plain Lean: what is written of a right decimal is read as it. -/
import Derived.Test.YtjnkbifafbjckaaGreatDoorZ19
import Derived.Test.YtjnkbifafbjckaaGreatDoorZ21
namespace Go.Proofs.YtjnkbifafbjckaaGreatDoor.Dc
set_option linter.all false

theorem takeWhile_app (f r : Bs) (hf : allDig f = true) (hr : ∀ c, r[0]? = some c → isDig c = false) : (f ++ r).takeWhile isDig = f := by
  rw [List.takeWhile_append_of_pos (fun c hc => List.all_eq_true.1 hf c hc)]
  cases r with
  | nil => simp
  | cons c r => rw [List.takeWhile_cons_of_neg (by simp [hr c rfl])]; simp
theorem dropWhile_app (f r : Bs) (hf : allDig f = true) (hr : ∀ c, r[0]? = some c → isDig c = false) : (f ++ r).dropWhile isDig = r := by
  rw [List.dropWhile_append_of_pos (fun c hc => List.all_eq_true.1 hf c hc)]
  cases r with
  | nil => rfl
  | cons c r => rw [List.dropWhile_cons_of_neg (by simp [hr c rfl])]

theorem dig_ne {c : UInt8} (h : isDig c = true) (k : UInt8) (hk : k.toNat < 48 ∨ 57 < k.toNat) : c ≠ k := by
  intro e; subst e; simp [isDig] at h; omega

theorem neg_strip (n : Bool) (t : Bs) (ht : ∀ c, t[0]? = some c → c ≠ 45) : Lib.hasPrefix ((if n then [45] else []) ++ t) [45] = n ∧ Lib.trimPrefix ((if n then [45] else []) ++ t) [45] = t := by
  cases n
  · have h : Lib.hasPrefix t [45] = false := by
      cases t with
      | nil => rfl
      | cons c t => have := ht c rfl; simp [Lib.hasPrefix, List.isPrefixOf]; exact fun e => this e.symm
    simp [Lib.trimPrefix, h]
  · simp [Lib.trimPrefix, Lib.hasPrefix, List.isPrefixOf]

theorem first_dig {f t : Bs} (hf : allDig f = true) (hne : f ≠ []) (c : UInt8) (h : (f ++ t)[0]? = some c) : c ≠ 45 := by
  cases f with
  | nil => exact absurd rfl hne
  | cons d f =>
    simp at h; subst h
    rw [allDig, List.all_cons, Bool.and_eq_true] at hf
    exact dig_ne hf.1 _ (by decide)

theorem parse_form (n : Bool) (f r : Bs) (hf : allDig f = true) (hne : f ≠ []) (hr : ∀ c, r[0]? = some c → isDig c = false ∧ c ≠ 46) : parse ((if n then [45] else []) ++ (f ++ r)) = tail n f 0 r := by
  obtain ⟨h1, h2⟩ := neg_strip n (f ++ r) (fun c h => first_dig hf hne c h)
  have h3 : Lib.hasPrefix r [46] = false := by
    cases r with
    | nil => rfl
    | cons c r => have := (hr c rfl).2; simp [Lib.hasPrefix, List.isPrefixOf]; exact fun e => this e.symm
  unfold parse
  simp only [h1, h2, takeWhile_app f r hf (fun c h => (hr c h).1), dropWhile_app f r hf (fun c h => (hr c h).1), h3]
  simp [hne]

theorem parse_form_dot (n : Bool) (f g r : Bs) (hf : allDig f = true) (hg : allDig g = true) (hne : f ≠ []) (hr : ∀ c, r[0]? = some c → isDig c = false) : parse ((if n then [45] else []) ++ (f ++ (46 :: (g ++ r)))) = tail n (f ++ g) g.length r := by
  obtain ⟨h1, h2⟩ := neg_strip n (f ++ (46 :: (g ++ r))) (fun c h => first_dig hf hne c h)
  have hp : ∀ c, (46 :: (g ++ r))[0]? = some c → isDig c = false := by intro c h; simp at h; subst h; decide
  have h3 : Lib.hasPrefix (46 :: (g ++ r)) [46] = true := by simp [Lib.hasPrefix, List.isPrefixOf]
  have h4 : Lib.trimPrefix (46 :: (g ++ r)) [46] = g ++ r := by simp [Lib.trimPrefix, h3]
  unfold parse
  simp only [h1, h2, takeWhile_app f _ hf hp, dropWhile_app f _ hf hp, h3, h4, takeWhile_app g r hg hr, dropWhile_app g r hg hr]
  simp [hne]

theorem rep_mem {k : Nat} {c : UInt8} (h : c ∈ Lib.repeatL [48] k) : c = 48 := by
  induction k with
  | zero => cases h
  | succ k ih => rw [Lib.repeatL] at h; simp at h; rcases h with h | h; exact h; exact ih h
theorem rep_len (k : Nat) : (Lib.repeatL [48] k).length = k := by rw [Lib.repeatL_length]; simp
theorem rep_dig (k : Nat) : allDig (Lib.repeatL [48] k) = true := by
  rw [allDig, List.all_eq_true]; intro c hc; rw [rep_mem hc]; decide

theorem app_dig {a b : Bs} (ha : allDig a = true) (hb : allDig b = true) : allDig (a ++ b) = true := by
  rw [allDig, List.all_append]; unfold allDig at ha hb; rw [ha, hb]; rfl

theorem right_ends {l : Bs} {x : Int} (h : right l x = true) (hne : l ≠ []) : l[0]? ≠ some 48 ∧ l[l.length - 1]? ≠ some 48 := by
  rw [right, if_neg hne] at h
  simp only [Bool.and_eq_true, bne_iff_ne] at h
  exact ⟨h.2.2.2.2.1, h.2.2.2.2.2⟩

/-- Noughts ahead of a right decimal's digits and behind them. -/
theorem mk_pad (n : Bool) (l : Bs) (x : Int) (a b : Nat) (h : right l x = true) (hne : l ≠ []) : mk n (Lib.repeatL [48] a ++ (l ++ Lib.repeatL [48] b)) (x - b) = ⟨n, l, x, 0⟩ := by
  obtain ⟨e1, e2⟩ := right_ends h hne
  obtain ⟨h1, h2⟩ := core_split (Lib.repeatL [48] a ++ (l ++ Lib.repeatL [48] b)) _ l _ rfl (fun c => rep_mem) (fun c => rep_mem) hne (fun c hc e => e1 (by rw [hc, e])) (fun c hc e => e2 (by rw [hc, e]))
  have h3 : (tz (Lib.repeatL [48] a ++ (l ++ Lib.repeatL [48] b)) : Int) = b := by
    rw [tz_int, h1, h2, List.length_append, rep_len]; omega
  have h4 : allDig (Lib.repeatL [48] a ++ (l ++ Lib.repeatL [48] b)) = true := app_dig (rep_dig _) (app_dig (right_dig h) (rep_dig _))
  rw [mk_ok h4 (by rw [h2]; exact hne) (by rw [h2, h3, show x - b + b = x by omega]; exact h), h2, h3, show x - b + b = x by omega]
theorem mk_same (n : Bool) (l : Bs) (x : Int) (h : right l x = true) (hne : l ≠ []) : mk n l x = ⟨n, l, x, 0⟩ := by
  have := mk_pad n l x 0 0 h hne
  simpa [Lib.repeatL] using this
theorem mk_back (n : Bool) (l : Bs) (x : Int) (b : Nat) (h : right l x = true) (hne : l ≠ []) : mk n (l ++ Lib.repeatL [48] b) (x - b) = ⟨n, l, x, 0⟩ := by
  have := mk_pad n l x 0 b h hne
  simpa [Lib.repeatL] using this
theorem mk_front (n : Bool) (l : Bs) (x : Int) (a : Nat) (h : right l x = true) (hne : l ≠ []) : mk n (Lib.repeatL [48] a ++ l) x = ⟨n, l, x, 0⟩ := by
  have := mk_pad n l x a 0 h hne
  simpa [Lib.repeatL] using this

theorem decDigits_dig (u : Nat) : allDig (Lib.decDigits u) = true ∧ numOf (Lib.decDigits u) = u ∧ Lib.decDigits u ≠ [] := by
  induction u using Nat.strongRecOn with
  | _ u ih =>
    have hd : ∀ k : Nat, k < 10 → isDig (UInt8.ofNat (48 + k)) = true ∧ ((UInt8.ofNat (48 + k)).toNat : Int) - 48 = k := by
      have : ∀ k : Fin 10, isDig (UInt8.ofNat (48 + k.val)) = true ∧ ((UInt8.ofNat (48 + k.val)).toNat : Int) - 48 = k.val := by decide
      exact fun k hk => this ⟨k, hk⟩
    by_cases h : u < 10
    · rw [Lib.decDigits, dif_pos h]
      obtain ⟨a, b⟩ := hd u h
      refine ⟨by rw [allDig, List.all_cons, a]; rfl, ?_, by simp⟩
      simp only [numOf, List.foldl_cons, List.foldl_nil]; omega
    · rw [Lib.decDigits, dif_neg h]
      obtain ⟨a, b⟩ := hd (u % 10) (Nat.mod_lt _ (by decide))
      obtain ⟨i1, i2, i3⟩ := ih (u / 10) (by omega)
      refine ⟨app_dig i1 (by rw [allDig, List.all_cons, a]; rfl), ?_, by simp⟩
      have e : numOf (Lib.decDigits (u / 10) ++ [UInt8.ofNat (48 + u % 10)]) = 10 * numOf (Lib.decDigits (u / 10)) + (((UInt8.ofNat (48 + u % 10)).toNat : Int) - 48) := by
        simp [numOf, List.foldl_append]
      rw [e, i2]; omega

theorem nDigits_le9 (u : Nat) (h : u ≤ 1000000) : (Lib.decDigits u).length ≤ 9 := by
  rw [Lib.decDigits_length]
  by_cases h0 : u = 0
  · subst h0; rw [Lib.nDigits_small (by decide)]; decide
  · by_cases hb : Lib.nDigits u ≤ 9
    · exact hb
    · exfalso
      have : ∀ k u : Nat, u < 10 ^ (k + 1) → Lib.nDigits u ≤ k + 1 := by
        intro k
        induction k with
        | zero => intro u hu; rw [Lib.nDigits_small (by simpa using hu)]; omega
        | succ k ih =>
          intro u hu
          by_cases h : u < 10
          · rw [Lib.nDigits_small h]; omega
          · rw [Lib.nDigits_big h]
            have := ih (u / 10) (by rw [Nat.pow_succ] at hu; omega)
            omega
      have := this 6 u (by omega)
      omega

theorem tail_e (n : Bool) (ds : Bs) (k : Nat) (c : UInt8) (u : Nat) (hc : c = 43 ∨ c = 45) (hu : u ≤ 1000000) : tail n ds k (101 :: c :: Lib.decDigits u) = mk n ds ((if c = 45 then -(u : Int) else u) - k) := by
  obtain ⟨h1, h2, h3⟩ := decDigits_dig u
  have h4 := takeWhile_app (Lib.decDigits u) [] h1 (by simp)
  have h5 := dropWhile_app (Lib.decDigits u) [] h1 (by simp)
  rw [List.append_nil] at h4 h5
  have h6 := nDigits_le9 u hu
  unfold tail
  simp only [if_pos hc, h4, h5, h2]
  rw [if_pos (by decide), if_neg (by simp [h3]; omega)]
  simp

theorem print_parse (n : Bool) (l : Bs) (x : Int) (h : right l x = true) : parse (print n l x) = ⟨n, l, x, 0⟩ := by
  have hx := right_exp h
  have hll := right_len h
  have hd := right_dig h
  rw [print, if_pos h]
  have h48 : ∀ c, (46 :: l)[0]? = some c → isDig c = false := by intro c h; simp at h; subst h; decide
  by_cases hne : l = []
  · subst hne
    rw [body, if_pos rfl]
    have hx0 : x = 0 := by simpa [right] using h
    have := parse_form n [48] [] (by decide) (by simp) (by simp)
    rw [List.append_nil] at this
    rw [this, tail, mk_zero (by decide) (by decide), hx0]
  have hlp : 0 < l.length := List.length_pos_iff.2 hne
  rw [body, if_neg hne]
  split
  · rename_i hc
    have := parse_form n (l ++ Lib.repeatL [48] (l.length + x - l.length).toNat) [] (app_dig hd (rep_dig _)) (by simp [hne]) (by simp)
    rw [List.append_nil] at this
    rw [List.append_assoc, this, tail]
    have h2 := mk_back n l x (l.length + x - l.length).toNat h hne
    rw [show x - ((l.length + x - l.length).toNat : Int) = -((0 : Nat) : Int) by omega] at h2
    exact h2
  · rename_i hc1
    split
    · rename_i hc
      have hk : l.take ((l.length : Int) + x).toNat ≠ [] := by
        intro e; have := congrArg List.length e; rw [List.length_take, List.length_nil] at this; omega
      have := parse_form_dot n (l.take ((l.length : Int) + x).toNat) (l.drop ((l.length : Int) + x).toNat) [] (dig_take hd _) (by rw [allDig, List.all_eq_true] at *; exact fun c hc => hd c (List.mem_of_mem_drop hc)) hk (by simp)
      rw [List.append_nil, List.take_append_drop] at this
      rw [show (if n = true then [45] else []) ++ l.take ((l.length : Int) + x).toNat ++ [46] ++ l.drop ((l.length : Int) + x).toNat = (if n = true then [45] else []) ++ (l.take ((l.length : Int) + x).toNat ++ (46 :: l.drop ((l.length : Int) + x).toNat)) by simp, this, tail, List.length_drop]
      have h2 := mk_same n l x h hne
      rw [show -((l.length - ((l.length : Int) + x).toNat : Nat) : Int) = x by omega]
      exact h2
    · split
      · rename_i hc
        have := parse_form_dot n [48] (Lib.repeatL [48] (-((l.length : Int) + x)).toNat ++ l) [] (by decide) (app_dig (rep_dig _) hd) (by simp) (by simp)
        rw [List.append_nil] at this
        rw [show (if n = true then [45] else []) ++ [48, 46] ++ Lib.repeatL [48] (-((l.length : Int) + x)).toNat ++ l = (if n = true then [45] else []) ++ ([48] ++ (46 :: (Lib.repeatL [48] (-((l.length : Int) + x)).toNat ++ l))) by simp, this, tail, List.length_append, rep_len]
        have h2 := mk_front n l x ((-((l.length : Int) + x)).toNat + 1) h hne
        rw [show -(((-((l.length : Int) + x)).toNat + l.length : Nat) : Int) = x by omega]
        rw [Nat.add_comm, Lib.repeatL_add, Lib.repeatL_one, List.append_assoc] at h2
        exact h2
      · rename_i hc2 hc3
        have hgo : (l.length : Int) + x < -5 ∨ 21 < (l.length : Int) + x := by omega
        have key : ∀ (c : UInt8) (u : Nat), (c = 43 ∨ c = 45) → u ≤ 1000000 → (if c = 45 then -(u : Int) else u) = l.length + x - 1 →
            parse ((if 1 < l.length then (if n = true then [45] else []) ++ l.take 1 ++ ([46] ++ l.drop 1) else (if n = true then [45] else []) ++ l.take 1) ++ [101, c] ++ Lib.decDigits u) = ⟨n, l, x, 0⟩ := by
          intro c u hcc hu he
          have hk : l.take 1 ≠ [] := by
            intro e; have := congrArg List.length e; rw [List.length_take, List.length_nil] at this; omega
          split
          · rename_i h1
            have := parse_form_dot n (l.take 1) (l.drop 1) (101 :: c :: Lib.decDigits u) (dig_take hd _) (by rw [allDig, List.all_eq_true] at *; exact fun c hc => hd c (List.mem_of_mem_drop hc)) hk (by intro c h; simp at h; subst h; decide)
            rw [List.take_append_drop] at this
            rw [show (if n = true then [45] else []) ++ l.take 1 ++ ([46] ++ l.drop 1) ++ [101, c] ++ Lib.decDigits u = (if n = true then [45] else []) ++ (l.take 1 ++ (46 :: (l.drop 1 ++ (101 :: c :: Lib.decDigits u)))) by simp, this, tail_e n _ _ c u hcc hu, he, List.length_drop]
            rw [show (l.length : Int) + x - 1 - ((l.length - 1 : Nat) : Int) = x by omega]
            exact mk_same n l x h hne
          · rename_i h1
            have := parse_form n (l.take 1) (101 :: c :: Lib.decDigits u) (dig_take hd _) hk (by intro c h; simp at h; subst h; decide)
            have h1l : l.take 1 = l := List.take_of_length_le (by omega)
            rw [show (if n = true then [45] else []) ++ l.take 1 ++ [101, c] ++ Lib.decDigits u = (if n = true then [45] else []) ++ (l.take 1 ++ (101 :: c :: Lib.decDigits u)) by simp, this, tail_e n _ _ c u hcc hu, he, h1l]
            rw [show (l.length : Int) + x - 1 - ((0 : Nat) : Int) = x by omega]
            exact mk_same n l x h hne
        simp only []
        by_cases hp : (l.length : Int) + x < 1
        · rw [if_pos hp, Lib.itoa, if_neg (show ¬ 1 - ((l.length : Int) + x) < 0 by omega)]
          exact key 45 (1 - ((l.length : Int) + x)).toNat (.inr rfl) (by omega) (by rw [if_pos rfl]; omega)
        · rw [if_neg hp, Lib.itoa, if_neg (show ¬ ((l.length : Int) + x) - 1 < 0 by omega)]
          exact key 43 (((l.length : Int) + x) - 1).toNat (.inl rfl) (by omega) (by rw [if_neg (by decide)]; omega)

end Go.Proofs.YtjnkbifafbjckaaGreatDoor.Dc

/- Plain Lean: rounding to places, as a number: what is rounded is the quotient by the unit, or one more. -/
namespace Go.Proofs.YtjnkbifafbjckaaGreatDoor.Dc
set_option linter.all false

theorem nv_rep (k : Nat) : nv (List.replicate k 48) = 0 := by
  induction k with
  | zero => rfl
  | succ k ih => rw [List.replicate_succ, nv_cons, ih]; simp
theorem nv_zeros {a : Bs} (h : ∀ c ∈ a, c = 48) : nv a = 0 := by
  have : a = List.replicate a.length 48 := List.eq_replicate_iff.2 ⟨rfl, h⟩
  rw [this, nv_rep]
theorem nv_front {a : Bs} (h : ∀ c ∈ a, c = 48) (l : Bs) : nv (a ++ l) = nv l := by rw [nv_app, nv_zeros h]; simp
theorem nv_back {z : Bs} (h : ∀ c ∈ z, c = 48) (l : Bs) : nv (l ++ z) = nv l * 10 ^ z.length := by rw [nv_app, nv_zeros h]; simp

theorem lead_split (l : Bs) : ∃ a, l = a ++ lead l ∧ ∀ c ∈ a, c = 48 := by
  refine ⟨l.takeWhile (· == 48), ?_, ?_⟩
  · rw [lead, Lib.trimLeftB, List.takeWhile_append_dropWhile]
  · intro c hc
    have := List.all_eq_true.1 (List.all_takeWhile (l := l) (p := (· == 48))) c hc
    simpa using this
theorem lead_core' (l : Bs) : ∃ z, lead l = core l ++ z ∧ ∀ c ∈ z, c = 48 := by
  by_cases h : core l = []
  · refine ⟨lead l, by rw [h]; rfl, ?_⟩
    have hs := List.takeWhile_append_dropWhile (p := (· == 48)) (l := (lead l).reverse)
    have h2 : (lead l).reverse.dropWhile (· == 48) = [] := by
      have := h; rw [core, Lib.trimRightB] at this; simpa using this
    rw [h2, List.append_nil] at hs
    intro c hc
    have := List.all_eq_true.1 (List.all_takeWhile (l := (lead l).reverse) (p := (· == 48))) c (by rw [hs]; simpa using hc)
    simpa using this
  · exact lead_core l h

/-- What is made of digits is their number. -/
theorem nv_core (l : Bs) : nv l = nv (core l) * 10 ^ tz l := by
  obtain ⟨a, h1, h2⟩ := lead_split l
  obtain ⟨z, h3, h4⟩ := lead_core' l
  have ht : tz l = z.length := by unfold tz; rw [h3, List.length_append]; omega
  conv => lhs; rw [h1, nv_front h2, h3, nv_back h4]
  rw [ht]

theorem mk_vv (n : Bool) (ds : Bs) (y : Int) (hd : allDig ds = true) (hy : -200000 ≤ y) (he : (mk n ds y).e = 0) :
    (mk n ds y).n = n ∧ right (mk n ds y).l (mk n ds y).x = true ∧ vv (mk n ds y).l (mk n ds y).x = nv ds * 10 ^ (y + lift).toNat := by
  by_cases h1 : core ds = []
  · rw [mk_zero hd h1]
    refine ⟨rfl, by simp [right], ?_⟩
    rw [nv_core, h1, nv_nil, vv_zero]; simp
  · by_cases h2 : right (core ds) (y + tz ds) = true
    · rw [mk_ok hd h1 h2]
      refine ⟨rfl, h2, ?_⟩
      show nv (core ds) * 10 ^ (y + tz ds + lift).toNat = _
      have e : nv ds * 10 ^ (y + lift).toNat = nv (core ds) * 10 ^ tz ds * 10 ^ (y + lift).toNat := by conv => lhs; rw [nv_core]
      rw [e, Nat.mul_assoc, ← Nat.pow_add]
      congr 2; unfold lift; omega
    · rw [mk_over hd h1 h2] at he; cases he

theorem nv_more (K : Bs) (h : allDig K = true) : nv (more K) = nv K + 1 ∧ allDig (more K) = true := by
  by_cases h9 : ∀ c ∈ K, c = 57
  · have hK : nv K + 1 = 10 ^ K.length := by
      clear h
      induction K with
      | nil => rfl
      | cons c K ih =>
        have := ih (fun d hd => h9 d (List.mem_cons_of_mem _ hd))
        have hc := h9 c (List.mem_cons_self ..)
        rw [nv_cons, hc, List.length_cons, Nat.pow_succ]
        have e : (57 : UInt8).toNat - 48 = 9 := rfl
        rw [e]; omega
    rw [more_nines K h9, hK, nv_cons, nv_rep, List.length_replicate]
    refine ⟨by simp, ?_⟩
    rw [allDig, List.all_cons, Bool.and_eq_true]
    exact ⟨by decide, by rw [← rep_replicate]; exact rep_dig _⟩
  · -- the last digit that is no nine
    have hex : ∃ j, 0 < j ∧ j ≤ K.length ∧ (∀ c ∈ K.drop j, c = 57) ∧ ∃ c, K[j - 1]? = some c ∧ c ≠ 57 := by
      clear h
      induction K with
      | nil => exact absurd (fun c hc => by cases hc) h9
      | cons d K ih =>
        by_cases hK : ∀ c ∈ K, c = 57
        · exact ⟨1, by omega, by simp, by simpa using hK, d, rfl, fun e => h9 (fun c hc => by rcases List.mem_cons.1 hc with e2 | e2; exact e2.trans e; exact hK c e2)⟩
        · obtain ⟨j, h1, h2, h3, c, h4, h5⟩ := ih hK
          refine ⟨j + 1, by omega, by simp; omega, by simpa using h3, c, ?_, h5⟩
          rw [Nat.add_sub_cancel, show j = j - 1 + 1 by omega, List.getElem?_cons_succ]; exact h4
    obtain ⟨j, h1, h2, h3, c, h4, h5⟩ := hex
    have hcd := dig_mem h (List.mem_of_getElem? h4)
    have hc57 : c.toNat ≠ 57 := fun e => h5 (UInt8.toNat_inj.1 (by simpa using e))
    have hc1 : (c + 1).toNat = c.toNat + 1 := by rw [UInt8.toNat_add]; simp; omega
    have hsp : K = K.take (j - 1) ++ ([c] ++ K.drop j) := by
      have e1 := List.take_append_drop (j - 1) K
      have e2 : K.drop (j - 1) = c :: K.drop j := by
        have hj : j - 1 < K.length := by omega
        rw [List.drop_eq_getElem_cons hj]
        rw [List.getElem?_eq_getElem hj] at h4
        rw [Option.some.inj h4, show j - 1 + 1 = j by omega]
      rw [e2] at e1; simpa using e1.symm
    have hd9 : nv (K.drop j) + 1 = 10 ^ (K.length - j) := by
      have : ∀ L : Bs, (∀ c ∈ L, c = 57) → nv L + 1 = 10 ^ L.length := by
        intro L hL
        induction L with
        | nil => rfl
        | cons c L ih =>
          have := ih (fun d hd => hL d (List.mem_cons_of_mem _ hd))
          have hc := hL c (List.mem_cons_self ..)
          rw [nv_cons, hc, List.length_cons, Nat.pow_succ]
          have e : (57 : UInt8).toNat - 48 = 9 := rfl
          rw [e]; omega
      have := this _ h3
      rwa [List.length_drop] at this
    have hm := more_at K j h1 h2 h3 c h4 h5
    rw [rowAt_inc K j h1 h2] at hm
    refine ⟨?_, ?_⟩
    · have e1 : nv K = nv (K.take (j - 1)) * 10 ^ (1 + (K.length - j)) + ((c.toNat - 48) * 10 ^ (K.length - j) + nv (K.drop j)) := by
        conv => lhs; rw [hsp]
        rw [nv_app, nv_app, nv_cons, nv_nil]
        simp only [List.length_append, List.length_cons, List.length_nil, List.length_drop, Nat.zero_add, Nat.pow_zero, Nat.mul_one, Nat.add_zero]
      have e2 : nv (more K) = nv (K.take (j - 1)) * 10 ^ (1 + (K.length - j)) + (c.toNat + 1 - 48) * 10 ^ (K.length - j) := by
        rw [hm, List.append_assoc, nv_app, nv_app, nv_rep, nv_cons, nv_nil, hc1]
        simp only [List.length_append, List.length_cons, List.length_nil, List.length_replicate, Nat.zero_add, Nat.pow_zero, Nat.mul_one, Nat.add_zero]
      rw [e1, e2, show c.toNat + 1 - 48 = (c.toNat - 48) + 1 by omega, Nat.add_mul]
      omega
    · rw [hm]
      refine app_dig (app_dig (dig_take h _) ?_) (by rw [← rep_replicate]; exact rep_dig _)
      simp [allDig, isDig, hc1]; omega

theorem odd_nv (K : Bs) (h : allDig K = true) : odd K = decide (nv K % 2 = 1) := by
  cases hK : K.getLast? with
  | none =>
    have : K = [] := by simpa using hK
    subst this; rfl
  | some c =>
    obtain ⟨L, rfl⟩ : ∃ L, K = L ++ [c] := by
      obtain ⟨L, hL⟩ := List.getLast?_eq_some_iff.1 hK
      exact ⟨L, hL⟩
    have hc := dig_mem h (show c ∈ L ++ [c] by simp)
    rw [odd, hK, nv_app, nv_cons, nv_nil]
    simp only [List.length_cons, List.length_nil, Nat.zero_add, Nat.pow_one, Nat.pow_zero, Nat.mul_one, Nat.add_zero]
    rw [Bool.eq_iff_iff]; simp; omega

/-- Does a number go up? (q: the quotient by the unit U, r: what is left.) -/
def ups (n : Bool) (way : Int) (q r U : Nat) : Bool :=
  decide (r ≠ 0) && (if way = 0 then decide (U < 2 * r) || (decide (2 * r = U) && decide (q % 2 = 1))
    else if way = 1 then decide (U ≤ 2 * r) else if way = 3 then true else if way = 4 then n else decide (way = 5) && !n)
/-- Rounded, in units. -/
def rnd (n : Bool) (way : Int) (V U : Nat) : Nat := V / U + (if ups n way (V / U) (V % U) U = true then 1 else 0)

theorem rnd_mono (n : Bool) (way : Int) (V W U : Nat) (hU : 0 < U) (h : V ≤ W) : rnd n way V U ≤ rnd n way W U := by
  have hq : V / U ≤ W / U := Nat.div_le_div_right h
  unfold rnd
  by_cases e : V / U = W / U
  · have hr : V % U ≤ W % U := by
      have h1 := Nat.div_add_mod V U
      have h2 := Nat.div_add_mod W U
      rw [e] at h1; omega
    rw [e]
    by_cases hu : ups n way (W / U) (V % U) U = true
    · have : ups n way (W / U) (W % U) U = true := by
        unfold ups at hu ⊢
        rw [Bool.and_eq_true, decide_eq_true_eq] at hu ⊢
        obtain ⟨h0, hu⟩ := hu
        refine ⟨by omega, ?_⟩
        split at hu
        · rename_i hw; rw [if_pos hw]
          simp only [Bool.or_eq_true, Bool.and_eq_true, decide_eq_true_eq] at hu ⊢
          omega
        · rename_i hw; rw [if_neg hw]
          split at hu
          · rename_i hw; rw [if_pos hw]
            simp only [decide_eq_true_eq] at hu ⊢; omega
          · rename_i hw; rw [if_neg hw]; exact hu
      rw [if_pos hu, if_pos this]; exact Nat.le_refl _
    · rw [if_neg hu]; omega
  · have : V / U + 1 ≤ W / U := by omega
    split <;> omega

theorem rnd_whole (n : Bool) (way : Int) (q U : Nat) (hU : 0 < U) : rnd n way (q * U) U = q := by
  unfold rnd ups
  rw [Nat.mul_mod_left, Nat.mul_div_cancel _ hU]; simp

/-- The unit of the last place. -/
def unit (k : Int) : Nat := 10 ^ (lift - k).toNat
theorem unit_pos (k : Int) : 0 < unit k := Nat.pos_of_ne_zero (by simp [unit])

theorem up_ups (n : Bool) (way : Int) (K R : Bs) (hK : allDig K = true) (hR : allDig R = true) (hne : R ≠ []) (he : endOk R) (E : Nat) (hE : 0 < E) :
    up n K R way = ups n way (nv K) (nv R * E) (10 ^ R.length * E) := by
  have hp : 0 < R.length := List.length_pos_iff.2 hne
  have h0 : 0 < nv R := nv_last hR hne (he hne)
  have hh : half R = sg (nv R) (5 * 10 ^ (R.length - 1)) := by
    have := compare_nv R [53] R.length hR (by decide) he (by intro _; decide) (Nat.le_refl _) (by simp; omega)
    rw [Nat.sub_self, Nat.pow_zero, Nat.mul_one] at this
    exact this
  have h10 : 10 ^ R.length = 2 * (5 * 10 ^ (R.length - 1)) := by
    conv => lhs; rw [show R.length = R.length - 1 + 1 by omega, Nat.pow_succ]
    omega
  have hne0 : nv R * E ≠ 0 := Nat.ne_of_gt (Nat.mul_pos h0 hE)
  have l1 : (10 ^ R.length * E < 2 * (nv R * E)) ↔ 5 * 10 ^ (R.length - 1) < nv R := by
    rw [h10, Nat.mul_assoc, Nat.mul_lt_mul_left (by decide), Nat.mul_lt_mul_right hE]
  have l2 : (2 * (nv R * E) = 10 ^ R.length * E) ↔ nv R = 5 * 10 ^ (R.length - 1) := by
    rw [h10, Nat.mul_assoc, Nat.mul_right_inj (by decide), Nat.mul_left_inj (by omega)]
  have l3 : (10 ^ R.length * E ≤ 2 * (nv R * E)) ↔ 5 * 10 ^ (R.length - 1) ≤ nv R := by
    rw [h10, Nat.mul_assoc, Nat.mul_le_mul_left_iff (by decide), Nat.mul_le_mul_right_iff hE]
  unfold up ups
  rw [if_neg hne, odd_nv K hK, hh]
  simp only [l1, l2, l3, hne0, ne_eq, not_false_eq_true, decide_true, Bool.true_and]
  have s1 : (0 < sg (nv R) (5 * 10 ^ (R.length - 1))) ↔ 5 * 10 ^ (R.length - 1) < nv R := by unfold sg; split <;> (try split) <;> omega
  have s2 : (sg (nv R) (5 * 10 ^ (R.length - 1)) = 0) ↔ nv R = 5 * 10 ^ (R.length - 1) := by unfold sg; split <;> (try split) <;> omega
  have s3 : (0 ≤ sg (nv R) (5 * 10 ^ (R.length - 1))) ↔ 5 * 10 ^ (R.length - 1) ≤ nv R := by unfold sg; split <;> (try split) <;> omega
  simp only [s1, s2, s3]

/-- A decimal rounded to places: the error apart, its sign stays, it is right, and it is the rounded number. -/
theorem place_rnd (n : Bool) (l : Bs) (x k way : Int) (h : right l x = true) (hw : 0 ≤ way ∧ way ≤ 5) (hk : -100000 ≤ k ∧ k ≤ 100000) (he : (place n l x k way).e = 0) :
    (place n l x k way).n = n ∧ right (place n l x k way).l (place n l x k way).x = true ∧ vv (place n l x k way).l (place n l x k way).x = rnd n way (vv l x) (unit k) * unit k := by
  have hx := right_exp h
  rw [place, if_pos ⟨h, hw.1, hw.2, hk.1, hk.2⟩] at he ⊢
  have hpt : point l x = l.length + x := by rw [point, if_pos h]
  rw [hpt] at he ⊢
  by_cases hc : l ≠ [] ∧ (l.length : Int) + x + k < l.length
  · rw [if_pos hc] at he ⊢
    obtain ⟨hne, hlt⟩ := hc
    have hd := right_dig h
    have heo := right_endOk h
    by_cases hneg : (l.length : Int) + x + k < 0
    · -- all of it is taken away
      have hb := vv_bounds h hne
      have hU : 10 * vv l x < 10 * (unit k / 10) + 10 ∧ 10 * vv l x < unit k := by
        have e : unit k = 10 * 10 ^ (lift - k - 1).toNat := by
          unfold unit
          rw [show (lift - k).toNat = (lift - k - 1).toNat + 1 by unfold lift; omega, Nat.pow_succ, Nat.mul_comm]
        have e2 : 10 ^ ((l.length : Int) + x + lift).toNat ≤ 10 ^ (lift - k - 1).toNat := Nat.pow_le_pow_right (by decide) (by unfold lift; omega)
        omega
      have hV : 0 < vv l x := vv_pos h hne
      have hq : vv l x / unit k = 0 := Nat.div_eq_of_lt (by omega)
      have hr : vv l x % unit k = vv l x := Nat.mod_eq_of_lt (by omega)
      have hup : up n [] (48 :: l) way = ups n way 0 (vv l x) (unit k) := by
        have h1 : half (48 :: l) = -1 := by rw [half_cases]; simp
        unfold up ups
        rw [if_neg (by simp), h1]
        have a1 : ¬ unit k < 2 * vv l x := by omega
        have a2 : ¬ 2 * vv l x = unit k := by omega
        have a3 : ¬ unit k ≤ 2 * vv l x := by omega
        have a4 : vv l x ≠ 0 := by omega
        simp [a1, a2, a3, a4]
      have hcut : cut n l x ((l.length : Int) + x + k) way = mk n (if ups n way 0 (vv l x) (unit k) = true then [49] else []) (-k) := by
        have h2 : more [] = [49] := by decide
        unfold cut
        simp only [if_pos hneg, show ((l.length : Int) + x + k).toNat = 0 by omega, List.take_zero, hup, h2]
        congr 1; omega
      rw [hcut] at he ⊢
      obtain ⟨m1, m2, m3⟩ := mk_vv n _ (-k) (by split <;> decide) (by omega) he
      refine ⟨m1, m2, m3.trans ?_⟩
      rw [rnd, hq, hr, Nat.zero_add]
      have e : 10 ^ (-k + lift).toNat = unit k := by unfold unit; congr 2; omega
      rw [e]
      split
      · have : nv [49] = 1 := by decide
        rw [this]
      · rw [nv_nil]
    · obtain ⟨K, hK⟩ : ∃ K : Nat, (l.length : Int) + x + k = K := ⟨((l.length : Int) + x + k).toNat, by omega⟩
      obtain ⟨m, hm⟩ : ∃ m : Nat, m = l.length - K := ⟨_, rfl⟩
      have hmx : (m : Int) = -(x + k) := by omega
      have hRl : (l.drop K).length = m := by rw [List.length_drop, hm]
      have hRne : l.drop K ≠ [] := fun e => by rw [e] at hRl; simp at hRl; omega
      have hRd : allDig (l.drop K) = true := by rw [allDig, List.all_eq_true] at hd ⊢; exact fun c hc => hd c (List.mem_of_mem_drop hc)
      have hKd : allDig (l.take K) = true := dig_take hd K
      have hRe : endOk (l.drop K) := by
        intro _ e
        refine heo hne ?_
        rw [List.getElem?_drop, hRl] at e
        rw [← e]; congr 1; omega
      have hE : 0 < 10 ^ (x + lift).toNat := Nat.pos_of_ne_zero (by simp)
      have hU : unit k = 10 ^ m * 10 ^ (x + lift).toNat := by unfold unit; rw [← Nat.pow_add]; congr 1; unfold lift; omega
      have hV : vv l x = nv (l.take K) * unit k + nv (l.drop K) * 10 ^ (x + lift).toNat := by
        unfold vv
        conv => lhs; rw [← List.take_append_drop K l]
        rw [nv_app, hRl, Nat.add_mul, hU, Nat.mul_assoc]
      have hrl : nv (l.drop K) * 10 ^ (x + lift).toNat < unit k := by
        rw [hU]
        have := nv_lt hRd
        rw [hRl] at this
        exact Nat.mul_lt_mul_of_pos_right this hE
      have hq : vv l x / unit k = nv (l.take K) := by
        rw [hV, Nat.mul_comm, Nat.mul_add_div (unit_pos k), Nat.div_eq_of_lt hrl, Nat.add_zero]
      have hr : vv l x % unit k = nv (l.drop K) * 10 ^ (x + lift).toNat := by
        rw [hV, Nat.mul_comm, Nat.mul_add_mod, Nat.mod_eq_of_lt hrl]
      have hup : up n (l.take K) (l.drop K) way = ups n way (vv l x / unit k) (vv l x % unit k) (unit k) := by
        rw [hq, hr, hU, ← hRl]
        exact up_ups n way _ _ hKd hRd hRne hRe _ hE
      have hcut : cut n l x ((l.length : Int) + x + k) way = mk n (if ups n way (vv l x / unit k) (vv l x % unit k) (unit k) = true then more (l.take K) else l.take K) (-k) := by
        unfold cut
        rw [hK]
        simp only [if_neg (show ¬ ((K : Int) < 0) by omega), Int.toNat_natCast, hup]
        congr 1; omega
      rw [hcut] at he ⊢
      obtain ⟨m1, m2, m3⟩ := mk_vv n _ (-k) (by split; exact (nv_more _ hKd).2; exact hKd) (by omega) he
      refine ⟨m1, m2, m3.trans ?_⟩
      have e : 10 ^ (-k + lift).toNat = unit k := by unfold unit; congr 2; omega
      rw [e, rnd]
      congr 1
      split
      · rw [(nv_more _ hKd).1, hq]
      · rw [hq, Nat.add_zero]
  · rw [if_neg hc] at he ⊢
    refine ⟨rfl, h, ?_⟩
    show vv l x = _
    by_cases hne : l = []
    · rw [hne, vv_zero]
      have := rnd_whole n way 0 (unit k) (unit_pos k)
      rw [Nat.zero_mul] at this; rw [this, Nat.zero_mul]
    · have hge : 0 ≤ x + k := by
        have : ¬ ((l.length : Int) + x + k < l.length) := fun e => hc ⟨hne, e⟩
        omega
      have e : vv l x = nv l * 10 ^ (x + k).toNat * unit k := by
        unfold vv unit
        rw [Nat.mul_assoc, ← Nat.pow_add]
        congr 2; unfold lift; omega
      conv => lhs; rw [e]
      rw [e, rnd_whole _ _ _ _ (unit_pos k)]

/-- What is greater has no lesser rounding. -/
theorem place_mono (na nb : Bool) (la lb : Bs) (xa xb k way : Int) (ha : right la xa = true) (hb : right lb xb = true) (hw : 0 ≤ way ∧ way ≤ 5) (hk : -100000 ≤ k ∧ k ≤ 100000)
    (ea : (place na la xa k way).e = 0) (eb : (place nb lb xb k way).e = 0) (h : cmpC na la xa nb lb xb ≤ 0) :
    cmpC (place na la xa k way).n (place na la xa k way).l (place na la xa k way).x (place nb lb xb k way).n (place nb lb xb k way).l (place nb lb xb k way).x ≤ 0 := by
  obtain ⟨a1, a2, a3⟩ := place_rnd na la xa k way ha hw hk ea
  obtain ⟨b1, b2, b3⟩ := place_rnd nb lb xb k way hb hw hk eb
  rw [cmpC_sv ha hb] at h
  rw [cmpC_sv a2 b2, a1, b1]
  have hsv : sv na la xa ≤ sv nb lb xb := by
    unfold sgz at h
    split at h
    · omega
    · split at h <;> omega
  have key : sv na (place na la xa k way).l (place na la xa k way).x ≤ sv nb (place nb lb xb k way).l (place nb lb xb k way).x := by
    unfold sv at hsv ⊢
    rw [a3, b3]
    have hp : 0 < unit k := unit_pos k
    cases na <;> cases nb
    · simp only [Bool.false_eq_true, if_false] at hsv ⊢
      exact Int.ofNat_le.2 (Nat.mul_le_mul_right _ (rnd_mono _ _ _ _ _ hp (Int.ofNat_le.1 hsv)))
    · simp only [Bool.false_eq_true, if_false, if_true] at hsv ⊢
      have e1 : vv la xa = 0 := by omega
      have e2 : vv lb xb = 0 := by omega
      have z : ∀ n : Bool, rnd n way 0 (unit k) = 0 := fun n => by have := rnd_whole n way 0 (unit k) hp; rwa [Nat.zero_mul] at this
      rw [e1, e2, z, z]; simp
    · simp only [Bool.false_eq_true, if_false, if_true]
      omega
    · simp only [if_true] at hsv ⊢
      have := Nat.mul_le_mul_right (unit k) (rnd_mono true way (vv lb xb) (vv la xa) (unit k) hp (by omega))
      omega
  unfold sgz
  split
  · omega
  · split <;> omega

end Go.Proofs.YtjnkbifafbjckaaGreatDoor.Dc
