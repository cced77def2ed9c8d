/- Plain Lean: what is written of a right decimal is read as it. -/
import Derived.Test.YtiglekomfgfilaaGreatDoorZ7
import Derived.Test.YtiglekomfgfilaaGreatDoorZ6
namespace Go.Proofs.YtiglekomfgfilaaGreatDoor.Dc
set_option linter.all false
theorem takeWhile_app (f r : Bs) (hf : allDig f = true) (hr : ∀ c, r[0]? = some c → isDig c = false) : (f ++ r).takeWhile isDig = f := by
  rw [List.takeWhile_append_of_pos (fun c hc => List.all_eq_true.1 hf c hc)]
  cases r with
  | nil => simp
  | cons c r => rw [List.takeWhile_cons_of_neg (by simp [hr c rfl])]; simp
theorem dropWhile_app (f r : Bs) (hf : allDig f = true) (hr : ∀ c, r[0]? = some c → isDig c = false) : (f ++ r).dropWhile isDig = r := by
  rw [List.dropWhile_append_of_pos (fun c hc => List.all_eq_true.1 hf c hc)]
  cases r with
  | nil => rfl
  | cons c r => rw [List.dropWhile_cons_of_neg (by simp [hr c rfl])]
theorem dig_ne {c : UInt8} (h : isDig c = true) (k : UInt8) (hk : k.toNat < 48 ∨ 57 < k.toNat) : c ≠ k := by
  intro e; subst e; simp [isDig] at h; omega
theorem neg_strip (n : Bool) (t : Bs) (ht : ∀ c, t[0]? = some c → c ≠ 45) : Lib.hasPrefix ((if n then [45] else []) ++ t) [45] = n ∧ Lib.trimPrefix ((if n then [45] else []) ++ t) [45] = t := by
  cases n
  · have h : Lib.hasPrefix t [45] = false := by
      cases t with
      | nil => rfl
      | cons c t => have := ht c rfl; simp [Lib.hasPrefix, List.isPrefixOf]; exact fun e => this e.symm
    simp [Lib.trimPrefix, h]
  · simp [Lib.trimPrefix, Lib.hasPrefix, List.isPrefixOf]
theorem first_dig {f t : Bs} (hf : allDig f = true) (hne : f ≠ []) (c : UInt8) (h : (f ++ t)[0]? = some c) : c ≠ 45 := by
  cases f with
  | nil => exact absurd rfl hne
  | cons d f =>
    simp at h; subst h
    rw [allDig, List.all_cons, Bool.and_eq_true] at hf
    exact dig_ne hf.1 _ (by decide)
theorem parse_form (n : Bool) (f r : Bs) (hf : allDig f = true) (hne : f ≠ []) (hr : ∀ c, r[0]? = some c → isDig c = false ∧ c ≠ 46) : parse ((if n then [45] else []) ++ (f ++ r)) = tail n f 0 r := by
  obtain ⟨h1, h2⟩ := neg_strip n (f ++ r) (fun c h => first_dig hf hne c h)
  have h3 : Lib.hasPrefix r [46] = false := by
    cases r with
    | nil => rfl
    | cons c r => have := (hr c rfl).2; simp [Lib.hasPrefix, List.isPrefixOf]; exact fun e => this e.symm
  unfold parse
  simp only [h1, h2, takeWhile_app f r hf (fun c h => (hr c h).1), dropWhile_app f r hf (fun c h => (hr c h).1), h3]
  simp [hne]
theorem parse_form_dot (n : Bool) (f g r : Bs) (hf : allDig f = true) (hg : allDig g = true) (hne : f ≠ []) (hr : ∀ c, r[0]? = some c → isDig c = false) : parse ((if n then [45] else []) ++ (f ++ (46 :: (g ++ r)))) = tail n (f ++ g) g.length r := by
  obtain ⟨h1, h2⟩ := neg_strip n (f ++ (46 :: (g ++ r))) (fun c h => first_dig hf hne c h)
  have hp : ∀ c, (46 :: (g ++ r))[0]? = some c → isDig c = false := by intro c h; simp at h; subst h; decide
  have h3 : Lib.hasPrefix (46 :: (g ++ r)) [46] = true := by simp [Lib.hasPrefix, List.isPrefixOf]
  have h4 : Lib.trimPrefix (46 :: (g ++ r)) [46] = g ++ r := by simp [Lib.trimPrefix, h3]
  unfold parse
  simp only [h1, h2, takeWhile_app f _ hf hp, dropWhile_app f _ hf hp, h3, h4, takeWhile_app g r hg hr, dropWhile_app g r hg hr]
  simp [hne]
theorem rep_mem {k : Nat} {c : UInt8} (h : c ∈ Lib.repeatL [48] k) : c = 48 := by
  induction k with
  | zero => cases h
  | succ k ih => rw [Lib.repeatL] at h; simp at h; rcases h with h | h; exact h; exact ih h
theorem rep_len (k : Nat) : (Lib.repeatL [48] k).length = k := by rw [Lib.repeatL_length]; simp
theorem rep_dig (k : Nat) : allDig (Lib.repeatL [48] k) = true := by
  rw [allDig, List.all_eq_true]; intro c hc; rw [rep_mem hc]; decide
theorem app_dig {a b : Bs} (ha : allDig a = true) (hb : allDig b = true) : allDig (a ++ b) = true := by
  rw [allDig, List.all_append]; unfold allDig at ha hb; rw [ha, hb]; rfl
theorem right_ends {l : Bs} {x : Int} (h : right l x = true) (hne : l ≠ []) : l[0]? ≠ some 48 ∧ l[l.length - 1]? ≠ some 48 := by
  rw [right, if_neg hne] at h
  simp only [Bool.and_eq_true, bne_iff_ne] at h
  exact ⟨h.2.2.2.2.1, h.2.2.2.2.2⟩
theorem mk_pad (n : Bool) (l : Bs) (x : Int) (a b : Nat) (h : right l x = true) (hne : l ≠ []) : mk n (Lib.repeatL [48] a ++ (l ++ Lib.repeatL [48] b)) (x - b) = ⟨n, l, x, 0⟩ := by
  obtain ⟨e1, e2⟩ := right_ends h hne
  obtain ⟨h1, h2⟩ := core_split (Lib.repeatL [48] a ++ (l ++ Lib.repeatL [48] b)) _ l _ rfl (fun c => rep_mem) (fun c => rep_mem) hne (fun c hc e => e1 (by rw [hc, e])) (fun c hc e => e2 (by rw [hc, e]))
  have h3 : (tz (Lib.repeatL [48] a ++ (l ++ Lib.repeatL [48] b)) : Int) = b := by
    rw [tz_int, h1, h2, List.length_append, rep_len]; omega
  have h4 : allDig (Lib.repeatL [48] a ++ (l ++ Lib.repeatL [48] b)) = true := app_dig (rep_dig _) (app_dig (right_dig h) (rep_dig _))
  rw [mk_ok h4 (by rw [h2]; exact hne) (by rw [h2, h3, show x - b + b = x by omega]; exact h), h2, h3, show x - b + b = x by omega]
theorem mk_same (n : Bool) (l : Bs) (x : Int) (h : right l x = true) (hne : l ≠ []) : mk n l x = ⟨n, l, x, 0⟩ := by
  have := mk_pad n l x 0 0 h hne
  simpa [Lib.repeatL] using this
theorem mk_back (n : Bool) (l : Bs) (x : Int) (b : Nat) (h : right l x = true) (hne : l ≠ []) : mk n (l ++ Lib.repeatL [48] b) (x - b) = ⟨n, l, x, 0⟩ := by
  have := mk_pad n l x 0 b h hne
  simpa [Lib.repeatL] using this
theorem mk_front (n : Bool) (l : Bs) (x : Int) (a : Nat) (h : right l x = true) (hne : l ≠ []) : mk n (Lib.repeatL [48] a ++ l) x = ⟨n, l, x, 0⟩ := by
  have := mk_pad n l x a 0 h hne
  simpa [Lib.repeatL] using this
theorem decDigits_dig (u : Nat) : allDig (Lib.decDigits u) = true ∧ numOf (Lib.decDigits u) = u ∧ Lib.decDigits u ≠ [] := by
  induction u using Nat.strongRecOn with
  | _ u ih =>
    have hd : ∀ k : Nat, k < 10 → isDig (UInt8.ofNat (48 + k)) = true ∧ ((UInt8.ofNat (48 + k)).toNat : Int) - 48 = k := by
      have : ∀ k : Fin 10, isDig (UInt8.ofNat (48 + k.val)) = true ∧ ((UInt8.ofNat (48 + k.val)).toNat : Int) - 48 = k.val := by decide
      exact fun k hk => this ⟨k, hk⟩
    by_cases h : u < 10
    · rw [Lib.decDigits, dif_pos h]
      obtain ⟨a, b⟩ := hd u h
      refine ⟨by rw [allDig, List.all_cons, a]; rfl, ?_, by simp⟩
      simp only [numOf, List.foldl_cons, List.foldl_nil]; omega
    · rw [Lib.decDigits, dif_neg h]
      obtain ⟨a, b⟩ := hd (u % 10) (Nat.mod_lt _ (by decide))
      obtain ⟨i1, i2, i3⟩ := ih (u / 10) (by omega)
      refine ⟨app_dig i1 (by rw [allDig, List.all_cons, a]; rfl), ?_, by simp⟩
      have e : numOf (Lib.decDigits (u / 10) ++ [UInt8.ofNat (48 + u % 10)]) = 10 * numOf (Lib.decDigits (u / 10)) + (((UInt8.ofNat (48 + u % 10)).toNat : Int) - 48) := by
        simp [numOf, List.foldl_append]
      rw [e, i2]; omega
theorem nDigits_le9 (u : Nat) (h : u ≤ 1000000) : (Lib.decDigits u).length ≤ 9 := by
  rw [Lib.decDigits_length]
  by_cases h0 : u = 0
  · subst h0; rw [Lib.nDigits_small (by decide)]; decide
  · by_cases hb : Lib.nDigits u ≤ 9
    · exact hb
    · exfalso
      have : ∀ k u : Nat, u < 10 ^ (k + 1) → Lib.nDigits u ≤ k + 1 := by
        intro k
        induction k with
        | zero => intro u hu; rw [Lib.nDigits_small (by simpa using hu)]; omega
        | succ k ih =>
          intro u hu
          by_cases h : u < 10
          · rw [Lib.nDigits_small h]; omega
          · rw [Lib.nDigits_big h]
            have := ih (u / 10) (by rw [Nat.pow_succ] at hu; omega)
            omega
      have := this 6 u (by omega)
      omega
theorem tail_e (n : Bool) (ds : Bs) (k : Nat) (c : UInt8) (u : Nat) (hc : c = 43 ∨ c = 45) (hu : u ≤ 1000000) : tail n ds k (101 :: c :: Lib.decDigits u) = mk n ds ((if c = 45 then -(u : Int) else u) - k) := by
  obtain ⟨h1, h2, h3⟩ := decDigits_dig u
  have h4 := takeWhile_app (Lib.decDigits u) [] h1 (by simp)
  have h5 := dropWhile_app (Lib.decDigits u) [] h1 (by simp)
  rw [List.append_nil] at h4 h5
  have h6 := nDigits_le9 u hu
  unfold tail
  simp only [if_pos hc, h4, h5, h2]
  rw [if_pos (by decide), if_neg (by simp [h3]; omega)]
  simp
theorem print_parse (n : Bool) (l : Bs) (x : Int) (h : right l x = true) : parse (print n l x) = ⟨n, l, x, 0⟩ := by
  have hx := right_exp h
  have hll := right_len h
  have hd := right_dig h
  rw [print, if_pos h]
  have h48 : ∀ c, (46 :: l)[0]? = some c → isDig c = false := by intro c h; simp at h; subst h; decide
  by_cases hne : l = []
  · subst hne
    rw [body, if_pos rfl]
    have hx0 : x = 0 := by simpa [right] using h
    have := parse_form n [48] [] (by decide) (by simp) (by simp)
    rw [List.append_nil] at this
    rw [this, tail, mk_zero (by decide) (by decide), hx0]
  have hlp : 0 < l.length := List.length_pos_iff.2 hne
  rw [body, if_neg hne]
  split
  · rename_i hc
    have := parse_form n (l ++ Lib.repeatL [48] (l.length + x - l.length).toNat) [] (app_dig hd (rep_dig _)) (by simp [hne]) (by simp)
    rw [List.append_nil] at this
    rw [List.append_assoc, this, tail]
    have h2 := mk_back n l x (l.length + x - l.length).toNat h hne
    rw [show x - ((l.length + x - l.length).toNat : Int) = -((0 : Nat) : Int) by omega] at h2
    exact h2
  · rename_i hc1
    split
    · rename_i hc
      have hk : l.take ((l.length : Int) + x).toNat ≠ [] := by
        intro e; have := congrArg List.length e; rw [List.length_take, List.length_nil] at this; omega
      have := parse_form_dot n (l.take ((l.length : Int) + x).toNat) (l.drop ((l.length : Int) + x).toNat) [] (dig_take hd _) (by rw [allDig, List.all_eq_true] at *; exact fun c hc => hd c (List.mem_of_mem_drop hc)) hk (by simp)
      rw [List.append_nil, List.take_append_drop] at this
      rw [show (if n = true then [45] else []) ++ l.take ((l.length : Int) + x).toNat ++ [46] ++ l.drop ((l.length : Int) + x).toNat = (if n = true then [45] else []) ++ (l.take ((l.length : Int) + x).toNat ++ (46 :: l.drop ((l.length : Int) + x).toNat)) by simp, this, tail, List.length_drop]
      have h2 := mk_same n l x h hne
      rw [show -((l.length - ((l.length : Int) + x).toNat : Nat) : Int) = x by omega]
      exact h2
    · split
      · rename_i hc
        have := parse_form_dot n [48] (Lib.repeatL [48] (-((l.length : Int) + x)).toNat ++ l) [] (by decide) (app_dig (rep_dig _) hd) (by simp) (by simp)
        rw [List.append_nil] at this
        rw [show (if n = true then [45] else []) ++ [48, 46] ++ Lib.repeatL [48] (-((l.length : Int) + x)).toNat ++ l = (if n = true then [45] else []) ++ ([48] ++ (46 :: (Lib.repeatL [48] (-((l.length : Int) + x)).toNat ++ l))) by simp, this, tail, List.length_append, rep_len]
        have h2 := mk_front n l x ((-((l.length : Int) + x)).toNat + 1) h hne
        rw [show -(((-((l.length : Int) + x)).toNat + l.length : Nat) : Int) = x by omega]
        rw [Nat.add_comm, Lib.repeatL_add, Lib.repeatL_one, List.append_assoc] at h2
        exact h2
      · rename_i hc2 hc3
        have hgo : (l.length : Int) + x < -5 ∨ 21 < (l.length : Int) + x := by omega
        have key : ∀ (c : UInt8) (u : Nat), (c = 43 ∨ c = 45) → u ≤ 1000000 → (if c = 45 then -(u : Int) else u) = l.length + x - 1 →
            parse ((if 1 < l.length then (if n = true then [45] else []) ++ l.take 1 ++ ([46] ++ l.drop 1) else (if n = true then [45] else []) ++ l.take 1) ++ [101, c] ++ Lib.decDigits u) = ⟨n, l, x, 0⟩ := by
          intro c u hcc hu he
          have hk : l.take 1 ≠ [] := by
            intro e; have := congrArg List.length e; rw [List.length_take, List.length_nil] at this; omega
          split
          · rename_i h1
            have := parse_form_dot n (l.take 1) (l.drop 1) (101 :: c :: Lib.decDigits u) (dig_take hd _) (by rw [allDig, List.all_eq_true] at *; exact fun c hc => hd c (List.mem_of_mem_drop hc)) hk (by intro c h; simp at h; subst h; decide)
            rw [List.take_append_drop] at this
            rw [show (if n = true then [45] else []) ++ l.take 1 ++ ([46] ++ l.drop 1) ++ [101, c] ++ Lib.decDigits u = (if n = true then [45] else []) ++ (l.take 1 ++ (46 :: (l.drop 1 ++ (101 :: c :: Lib.decDigits u)))) by simp, this, tail_e n _ _ c u hcc hu, he, List.length_drop]
            rw [show (l.length : Int) + x - 1 - ((l.length - 1 : Nat) : Int) = x by omega]
            exact mk_same n l x h hne
          · rename_i h1
            have := parse_form n (l.take 1) (101 :: c :: Lib.decDigits u) (dig_take hd _) hk (by intro c h; simp at h; subst h; decide)
            have h1l : l.take 1 = l := List.take_of_length_le (by omega)
            rw [show (if n = true then [45] else []) ++ l.take 1 ++ [101, c] ++ Lib.decDigits u = (if n = true then [45] else []) ++ (l.take 1 ++ (101 :: c :: Lib.decDigits u)) by simp, this, tail_e n _ _ c u hcc hu, he, h1l]
            rw [show (l.length : Int) + x - 1 - ((0 : Nat) : Int) = x by omega]
            exact mk_same n l x h hne
        simp only []
        by_cases hp : (l.length : Int) + x < 1
        · rw [if_pos hp, Lib.itoa, if_neg (show ¬ 1 - ((l.length : Int) + x) < 0 by omega)]
          exact key 45 (1 - ((l.length : Int) + x)).toNat (.inr rfl) (by omega) (by rw [if_pos rfl]; omega)
        · rw [if_neg hp, Lib.itoa, if_neg (show ¬ ((l.length : Int) + x) - 1 < 0 by omega)]
          exact key 43 (((l.length : Int) + x) - 1).toNat (.inl rfl) (by omega) (by rw [if_neg (by decide)]; omega)
end Go.Proofs.YtiglekomfgfilaaGreatDoor.Dc

/- Plain Lean: rounding to places, as a number: what is rounded is the quotient by the unit, or one more. -/
namespace Go.Proofs.YtiglekomfgfilaaGreatDoor.Dc
set_option linter.all false
theorem nv_rep (k : Nat) : nv (List.replicate k 48) = 0 := by
  induction k with
  | zero => rfl
  | succ k ih => rw [List.replicate_succ, nv_cons, ih]; simp
theorem nv_zeros {a : Bs} (h : ∀ c ∈ a, c = 48) : nv a = 0 := by
  have : a = List.replicate a.length 48 := List.eq_replicate_iff.2 ⟨rfl, h⟩
  rw [this, nv_rep]
theorem nv_front {a : Bs} (h : ∀ c ∈ a, c = 48) (l : Bs) : nv (a ++ l) = nv l := by rw [nv_app, nv_zeros h]; simp
theorem nv_back {z : Bs} (h : ∀ c ∈ z, c = 48) (l : Bs) : nv (l ++ z) = nv l * 10 ^ z.length := by rw [nv_app, nv_zeros h]; simp
theorem lead_split (l : Bs) : ∃ a, l = a ++ lead l ∧ ∀ c ∈ a, c = 48 := by
  refine ⟨l.takeWhile (· == 48), ?_, ?_⟩
  · rw [lead, Lib.trimLeftB, List.takeWhile_append_dropWhile]
  · intro c hc
    have := List.all_eq_true.1 (List.all_takeWhile (l := l) (p := (· == 48))) c hc
    simpa using this
theorem lead_core' (l : Bs) : ∃ z, lead l = core l ++ z ∧ ∀ c ∈ z, c = 48 := by
  by_cases h : core l = []
  · refine ⟨lead l, by rw [h]; rfl, ?_⟩
    have hs := List.takeWhile_append_dropWhile (p := (· == 48)) (l := (lead l).reverse)
    have h2 : (lead l).reverse.dropWhile (· == 48) = [] := by
      have := h; rw [core, Lib.trimRightB] at this; simpa using this
    rw [h2, List.append_nil] at hs
    intro c hc
    have := List.all_eq_true.1 (List.all_takeWhile (l := (lead l).reverse) (p := (· == 48))) c (by rw [hs]; simpa using hc)
    simpa using this
  · exact lead_core l h
theorem nv_core (l : Bs) : nv l = nv (core l) * 10 ^ tz l := by
  obtain ⟨a, h1, h2⟩ := lead_split l
  obtain ⟨z, h3, h4⟩ := lead_core' l
  have ht : tz l = z.length := by unfold tz; rw [h3, List.length_append]; omega
  conv => lhs; rw [h1, nv_front h2, h3, nv_back h4]
  rw [ht]
theorem mk_vv (n : Bool) (ds : Bs) (y : Int) (hd : allDig ds = true) (hy : -200000 ≤ y) (he : (mk n ds y).e = 0) :
    (mk n ds y).n = n ∧ right (mk n ds y).l (mk n ds y).x = true ∧ vv (mk n ds y).l (mk n ds y).x = nv ds * 10 ^ (y + lift).toNat := by
  by_cases h1 : core ds = []
  · rw [mk_zero hd h1]
    refine ⟨rfl, by simp [right], ?_⟩
    rw [nv_core, h1, nv_nil, vv_zero]; simp
  · by_cases h2 : right (core ds) (y + tz ds) = true
    · rw [mk_ok hd h1 h2]
      refine ⟨rfl, h2, ?_⟩
      show nv (core ds) * 10 ^ (y + tz ds + lift).toNat = _
      have e : nv ds * 10 ^ (y + lift).toNat = nv (core ds) * 10 ^ tz ds * 10 ^ (y + lift).toNat := by conv => lhs; rw [nv_core]
      rw [e, Nat.mul_assoc, ← Nat.pow_add]
      congr 2; unfold lift; omega
    · rw [mk_over hd h1 h2] at he; cases he
theorem nv_more (K : Bs) (h : allDig K = true) : nv (more K) = nv K + 1 ∧ allDig (more K) = true := by
  by_cases h9 : ∀ c ∈ K, c = 57
  · have hK : nv K + 1 = 10 ^ K.length := by
      clear h
      induction K with
      | nil => rfl
      | cons c K ih =>
        have := ih (fun d hd => h9 d (List.mem_cons_of_mem _ hd))
        have hc := h9 c (List.mem_cons_self ..)
        rw [nv_cons, hc, List.length_cons, Nat.pow_succ]
        have e : (57 : UInt8).toNat - 48 = 9 := rfl
        rw [e]; omega
    rw [more_nines K h9, hK, nv_cons, nv_rep, List.length_replicate]
    refine ⟨by simp, ?_⟩
    rw [allDig, List.all_cons, Bool.and_eq_true]
    exact ⟨by decide, by rw [← rep_replicate]; exact rep_dig _⟩
  · -- the last digit that is no nine
    have hex : ∃ j, 0 < j ∧ j ≤ K.length ∧ (∀ c ∈ K.drop j, c = 57) ∧ ∃ c, K[j - 1]? = some c ∧ c ≠ 57 := by
      clear h
      induction K with
      | nil => exact absurd (fun c hc => by cases hc) h9
      | cons d K ih =>
        by_cases hK : ∀ c ∈ K, c = 57
        · exact ⟨1, by omega, by simp, by simpa using hK, d, rfl, fun e => h9 (fun c hc => by rcases List.mem_cons.1 hc with e2 | e2; exact e2.trans e; exact hK c e2)⟩
        · obtain ⟨j, h1, h2, h3, c, h4, h5⟩ := ih hK
          refine ⟨j + 1, by omega, by simp; omega, by simpa using h3, c, ?_, h5⟩
          rw [Nat.add_sub_cancel, show j = j - 1 + 1 by omega, List.getElem?_cons_succ]; exact h4
    obtain ⟨j, h1, h2, h3, c, h4, h5⟩ := hex
    have hcd := dig_mem h (List.mem_of_getElem? h4)
    have hc57 : c.toNat ≠ 57 := fun e => h5 (UInt8.toNat_inj.1 (by simpa using e))
    have hc1 : (c + 1).toNat = c.toNat + 1 := by rw [UInt8.toNat_add]; simp; omega
    have hsp : K = K.take (j - 1) ++ ([c] ++ K.drop j) := by
      have e1 := List.take_append_drop (j - 1) K
      have e2 : K.drop (j - 1) = c :: K.drop j := by
        have hj : j - 1 < K.length := by omega
        rw [List.drop_eq_getElem_cons hj]
        rw [List.getElem?_eq_getElem hj] at h4
        rw [Option.some.inj h4, show j - 1 + 1 = j by omega]
      rw [e2] at e1; simpa using e1.symm
    have hd9 : nv (K.drop j) + 1 = 10 ^ (K.length - j) := by
      have : ∀ L : Bs, (∀ c ∈ L, c = 57) → nv L + 1 = 10 ^ L.length := by
        intro L hL
        induction L with
        | nil => rfl
        | cons c L ih =>
          have := ih (fun d hd => hL d (List.mem_cons_of_mem _ hd))
          have hc := hL c (List.mem_cons_self ..)
          rw [nv_cons, hc, List.length_cons, Nat.pow_succ]
          have e : (57 : UInt8).toNat - 48 = 9 := rfl
          rw [e]; omega
      have := this _ h3
      rwa [List.length_drop] at this
    have hm := more_at K j h1 h2 h3 c h4 h5
    rw [rowAt_inc K j h1 h2] at hm
    refine ⟨?_, ?_⟩
    · have e1 : nv K = nv (K.take (j - 1)) * 10 ^ (1 + (K.length - j)) + ((c.toNat - 48) * 10 ^ (K.length - j) + nv (K.drop j)) := by
        conv => lhs; rw [hsp]
        rw [nv_app, nv_app, nv_cons, nv_nil]
        simp only [List.length_append, List.length_cons, List.length_nil, List.length_drop, Nat.zero_add, Nat.pow_zero, Nat.mul_one, Nat.add_zero]
      have e2 : nv (more K) = nv (K.take (j - 1)) * 10 ^ (1 + (K.length - j)) + (c.toNat + 1 - 48) * 10 ^ (K.length - j) := by
        rw [hm, List.append_assoc, nv_app, nv_app, nv_rep, nv_cons, nv_nil, hc1]
        simp only [List.length_append, List.length_cons, List.length_nil, List.length_replicate, Nat.zero_add, Nat.pow_zero, Nat.mul_one, Nat.add_zero]
      rw [e1, e2, show c.toNat + 1 - 48 = (c.toNat - 48) + 1 by omega, Nat.add_mul]
      omega
    · rw [hm]
      refine app_dig (app_dig (dig_take h _) ?_) (by rw [← rep_replicate]; exact rep_dig _)
      simp [allDig, isDig, hc1]; omega
theorem odd_nv (K : Bs) (h : allDig K = true) : odd K = decide (nv K % 2 = 1) := by
  cases hK : K.getLast? with
  | none =>
    have : K = [] := by simpa using hK
    subst this; rfl
  | some c =>
    obtain ⟨L, rfl⟩ : ∃ L, K = L ++ [c] := by
      obtain ⟨L, hL⟩ := List.getLast?_eq_some_iff.1 hK
      exact ⟨L, hL⟩
    have hc := dig_mem h (show c ∈ L ++ [c] by simp)
    rw [odd, hK, nv_app, nv_cons, nv_nil]
    simp only [List.length_cons, List.length_nil, Nat.zero_add, Nat.pow_one, Nat.pow_zero, Nat.mul_one, Nat.add_zero]
    rw [Bool.eq_iff_iff]; simp; omega
def ups (n : Bool) (way : Int) (q r U : Nat) : Bool :=
  decide (r ≠ 0) && (if way = 0 then decide (U < 2 * r) || (decide (2 * r = U) && decide (q % 2 = 1))
    else if way = 1 then decide (U ≤ 2 * r) else if way = 3 then true else if way = 4 then n else decide (way = 5) && !n)
def rnd (n : Bool) (way : Int) (V U : Nat) : Nat := V / U + (if ups n way (V / U) (V % U) U = true then 1 else 0)
theorem rnd_whole (n : Bool) (way : Int) (q U : Nat) (hU : 0 < U) : rnd n way (q * U) U = q := by
  unfold rnd ups
  rw [Nat.mul_mod_left, Nat.mul_div_cancel _ hU]; simp
def unit (k : Int) : Nat := 10 ^ (lift - k).toNat
theorem unit_pos (k : Int) : 0 < unit k := Nat.pos_of_ne_zero (by simp [unit])
theorem up_ups (n : Bool) (way : Int) (K R : Bs) (hK : allDig K = true) (hR : allDig R = true) (hne : R ≠ []) (he : endOk R) (E : Nat) (hE : 0 < E) :
    up n K R way = ups n way (nv K) (nv R * E) (10 ^ R.length * E) := by
  have hp : 0 < R.length := List.length_pos_iff.2 hne
  have h0 : 0 < nv R := nv_last hR hne (he hne)
  have hh : half R = sg (nv R) (5 * 10 ^ (R.length - 1)) := by
    have := compare_nv R [53] R.length hR (by decide) he (by intro _; decide) (Nat.le_refl _) (by simp; omega)
    rw [Nat.sub_self, Nat.pow_zero, Nat.mul_one] at this
    exact this
  have h10 : 10 ^ R.length = 2 * (5 * 10 ^ (R.length - 1)) := by
    conv => lhs; rw [show R.length = R.length - 1 + 1 by omega, Nat.pow_succ]
    omega
  have hne0 : nv R * E ≠ 0 := Nat.ne_of_gt (Nat.mul_pos h0 hE)
  have l1 : (10 ^ R.length * E < 2 * (nv R * E)) ↔ 5 * 10 ^ (R.length - 1) < nv R := by
    rw [h10, Nat.mul_assoc, Nat.mul_lt_mul_left (by decide), Nat.mul_lt_mul_right hE]
  have l2 : (2 * (nv R * E) = 10 ^ R.length * E) ↔ nv R = 5 * 10 ^ (R.length - 1) := by
    rw [h10, Nat.mul_assoc, Nat.mul_right_inj (by decide), Nat.mul_left_inj (by omega)]
  have l3 : (10 ^ R.length * E ≤ 2 * (nv R * E)) ↔ 5 * 10 ^ (R.length - 1) ≤ nv R := by
    rw [h10, Nat.mul_assoc, Nat.mul_le_mul_left_iff (by decide), Nat.mul_le_mul_right_iff hE]
  unfold up ups
  rw [if_neg hne, odd_nv K hK, hh]
  simp only [l1, l2, l3, hne0, ne_eq, not_false_eq_true, decide_true, Bool.true_and]
  have s1 : (0 < sg (nv R) (5 * 10 ^ (R.length - 1))) ↔ 5 * 10 ^ (R.length - 1) < nv R := by unfold sg; split <;> (try split) <;> omega
  have s2 : (sg (nv R) (5 * 10 ^ (R.length - 1)) = 0) ↔ nv R = 5 * 10 ^ (R.length - 1) := by unfold sg; split <;> (try split) <;> omega
  have s3 : (0 ≤ sg (nv R) (5 * 10 ^ (R.length - 1))) ↔ 5 * 10 ^ (R.length - 1) ≤ nv R := by unfold sg; split <;> (try split) <;> omega
  simp only [s1, s2, s3]
theorem place_rnd (n : Bool) (l : Bs) (x k way : Int) (h : right l x = true) (hw : 0 ≤ way ∧ way ≤ 5) (hk : -100000 ≤ k ∧ k ≤ 100000) (he : (place n l x k way).e = 0) :
    (place n l x k way).n = n ∧ right (place n l x k way).l (place n l x k way).x = true ∧ vv (place n l x k way).l (place n l x k way).x = rnd n way (vv l x) (unit k) * unit k := by
  have hx := right_exp h
  rw [place, if_pos ⟨h, hw.1, hw.2, hk.1, hk.2⟩] at he ⊢
  have hpt : point l x = l.length + x := by rw [point, if_pos h]
  rw [hpt] at he ⊢
  by_cases hc : l ≠ [] ∧ (l.length : Int) + x + k < l.length
  · rw [if_pos hc] at he ⊢
    obtain ⟨hne, hlt⟩ := hc
    have hd := right_dig h
    have heo := right_endOk h
    by_cases hneg : (l.length : Int) + x + k < 0
    · -- all of it is taken away
      have hb := vv_bounds h hne
      have hU : 10 * vv l x < 10 * (unit k / 10) + 10 ∧ 10 * vv l x < unit k := by
        have e : unit k = 10 * 10 ^ (lift - k - 1).toNat := by
          unfold unit
          rw [show (lift - k).toNat = (lift - k - 1).toNat + 1 by unfold lift; omega, Nat.pow_succ, Nat.mul_comm]
        have e2 : 10 ^ ((l.length : Int) + x + lift).toNat ≤ 10 ^ (lift - k - 1).toNat := Nat.pow_le_pow_right (by decide) (by unfold lift; omega)
        omega
      have hV : 0 < vv l x := vv_pos h hne
      have hq : vv l x / unit k = 0 := Nat.div_eq_of_lt (by omega)
      have hr : vv l x % unit k = vv l x := Nat.mod_eq_of_lt (by omega)
      have hup : up n [] (48 :: l) way = ups n way 0 (vv l x) (unit k) := by
        have h1 : half (48 :: l) = -1 := by rw [half_cases]; simp
        unfold up ups
        rw [if_neg (by simp), h1]
        have a1 : ¬ unit k < 2 * vv l x := by omega
        have a2 : ¬ 2 * vv l x = unit k := by omega
        have a3 : ¬ unit k ≤ 2 * vv l x := by omega
        have a4 : vv l x ≠ 0 := by omega
        simp [a1, a2, a3, a4]
      have hcut : cut n l x ((l.length : Int) + x + k) way = mk n (if ups n way 0 (vv l x) (unit k) = true then [49] else []) (-k) := by
        have h2 : more [] = [49] := by decide
        unfold cut
        simp only [if_pos hneg, show ((l.length : Int) + x + k).toNat = 0 by omega, List.take_zero, hup, h2]
        congr 1; omega
      rw [hcut] at he ⊢
      obtain ⟨m1, m2, m3⟩ := mk_vv n _ (-k) (by split <;> decide) (by omega) he
      refine ⟨m1, m2, m3.trans ?_⟩
      rw [rnd, hq, hr, Nat.zero_add]
      have e : 10 ^ (-k + lift).toNat = unit k := by unfold unit; congr 2; omega
      rw [e]
      split
      · have : nv [49] = 1 := by decide
        rw [this]
      · rw [nv_nil]
    · obtain ⟨K, hK⟩ : ∃ K : Nat, (l.length : Int) + x + k = K := ⟨((l.length : Int) + x + k).toNat, by omega⟩
      obtain ⟨m, hm⟩ : ∃ m : Nat, m = l.length - K := ⟨_, rfl⟩
      have hmx : (m : Int) = -(x + k) := by omega
      have hRl : (l.drop K).length = m := by rw [List.length_drop, hm]
      have hRne : l.drop K ≠ [] := fun e => by rw [e] at hRl; simp at hRl; omega
      have hRd : allDig (l.drop K) = true := by rw [allDig, List.all_eq_true] at hd ⊢; exact fun c hc => hd c (List.mem_of_mem_drop hc)
      have hKd : allDig (l.take K) = true := dig_take hd K
      have hRe : endOk (l.drop K) := by
        intro _ e
        refine heo hne ?_
        rw [List.getElem?_drop, hRl] at e
        rw [← e]; congr 1; omega
      have hE : 0 < 10 ^ (x + lift).toNat := Nat.pos_of_ne_zero (by simp)
      have hU : unit k = 10 ^ m * 10 ^ (x + lift).toNat := by unfold unit; rw [← Nat.pow_add]; congr 1; unfold lift; omega
      have hV : vv l x = nv (l.take K) * unit k + nv (l.drop K) * 10 ^ (x + lift).toNat := by
        unfold vv
        conv => lhs; rw [← List.take_append_drop K l]
        rw [nv_app, hRl, Nat.add_mul, hU, Nat.mul_assoc]
      have hrl : nv (l.drop K) * 10 ^ (x + lift).toNat < unit k := by
        rw [hU]
        have := nv_lt hRd
        rw [hRl] at this
        exact Nat.mul_lt_mul_of_pos_right this hE
      have hq : vv l x / unit k = nv (l.take K) := by
        rw [hV, Nat.mul_comm, Nat.mul_add_div (unit_pos k), Nat.div_eq_of_lt hrl, Nat.add_zero]
      have hr : vv l x % unit k = nv (l.drop K) * 10 ^ (x + lift).toNat := by
        rw [hV, Nat.mul_comm, Nat.mul_add_mod, Nat.mod_eq_of_lt hrl]
      have hup : up n (l.take K) (l.drop K) way = ups n way (vv l x / unit k) (vv l x % unit k) (unit k) := by
        rw [hq, hr, hU, ← hRl]
        exact up_ups n way _ _ hKd hRd hRne hRe _ hE
      have hcut : cut n l x ((l.length : Int) + x + k) way = mk n (if ups n way (vv l x / unit k) (vv l x % unit k) (unit k) = true then more (l.take K) else l.take K) (-k) := by
        unfold cut
        rw [hK]
        simp only [if_neg (show ¬ ((K : Int) < 0) by omega), Int.toNat_natCast, hup]
        congr 1; omega
      rw [hcut] at he ⊢
      obtain ⟨m1, m2, m3⟩ := mk_vv n _ (-k) (by split; exact (nv_more _ hKd).2; exact hKd) (by omega) he
      refine ⟨m1, m2, m3.trans ?_⟩
      have e : 10 ^ (-k + lift).toNat = unit k := by unfold unit; congr 2; omega
      rw [e, rnd]
      congr 1
      split
      · rw [(nv_more _ hKd).1, hq]
      · rw [hq, Nat.add_zero]
  · rw [if_neg hc] at he ⊢
    refine ⟨rfl, h, ?_⟩
    show vv l x = _
    by_cases hne : l = []
    · rw [hne, vv_zero]
      have := rnd_whole n way 0 (unit k) (unit_pos k)
      rw [Nat.zero_mul] at this; rw [this, Nat.zero_mul]
    · have hge : 0 ≤ x + k := by
        have : ¬ ((l.length : Int) + x + k < l.length) := fun e => hc ⟨hne, e⟩
        omega
      have e : vv l x = nv l * 10 ^ (x + k).toNat * unit k := by
        unfold vv unit
        rw [Nat.mul_assoc, ← Nat.pow_add]
        congr 2; unfold lift; omega
      conv => lhs; rw [e]
      rw [e, rnd_whole _ _ _ _ (unit_pos k)]
end Go.Proofs.YtiglekomfgfilaaGreatDoor.Dc

/- Plain Lean: the decimal that a number is: it is right, has at most 767 digits, and is worth what the bits are worth. -/
namespace Go.Proofs.YtiglekomfgfilaaGreatDoor.Fl
set_option linter.all false
open Go
theorem nv_dec (N : Nat) : Dc.nv (Lib.decDigits N) = N := (Na.dec_spec N).2.1
theorem dig_dec (N : Nat) : Dc.allDig (Lib.decDigits N) = true := (Dc.decDigits_dig N).1
theorem len_dec {N k : Nat} (h : N < 10 ^ (k + 1)) : (Lib.decDigits N).length ≤ k + 1 := (Na.padk_eq k N h).2
theorem V_parts (x : Nat) (h : kind x < 3) : V (x % 9223372036854775808) = mant x * 2 ^ (expn x + 1074).toNat ∧ x % 9223372036854775808 < 9218868437227405312 := by
  have hE : x % 9223372036854775808 / 4503599627370496 = expo x := by rw [expo]; omega
  have hF : x % 9223372036854775808 % 4503599627370496 = frac x := by rw [frac]; omega
  have hlt := frac_lt x
  have hE2 : expo x ≠ 2047 := by
    intro e; unfold kind at h; rw [if_pos e] at h; split at h <;> omega
  have hdm := Nat.div_add_mod (x % 9223372036854775808) 4503599627370496
  rw [hE, hF] at hdm
  have hE3 := expo_lt x
  refine ⟨?_, by omega⟩
  rw [V, hE, hF]
  by_cases h0 : expo x = 0
  · have hk : kind x < 2 := by unfold kind; rw [if_neg hE2, if_neg (by omega)]; split <;> omega
    rw [if_pos h0, mant, if_neg (by omega), if_pos hk, expn, if_neg (by omega), if_pos hk, h0]; rfl
  · have hk : kind x = 2 := by unfold kind; rw [if_neg hE2, if_pos (by omega)]
    rw [if_neg h0, mant, if_pos hk, expn, if_pos hk]
    congr 2; omega
def n309 : Nat := 309
def n800 : Nat := 800
def n971 : Nat := 971
theorem bound_up : 2 ^ 54 * 2 ^ n971 ≤ 10 ^ n309 := by decide +kernel
theorem bound_mid : 2 ^ 54 * 5 ^ (low + 1) ≤ 10 ^ n800 := by decide +kernel
theorem dec_short {N c k : Nat} (h : N < c) (hc : c ≤ 10 ^ k) (hk : 0 < k) : (Lib.decDigits N).length ≤ k := by
  obtain ⟨d, rfl⟩ : ∃ d, k = d + 1 := ⟨k - 1, by omega⟩
  exact len_dec (Nat.lt_of_lt_of_le h hc)
theorem mid_len {m k K : Nat} (hm : m < 2 ^ 54) (hk : k ≤ K) (hK : K = low + 1) : (Lib.decDigits (m * 5 ^ k)).length ≤ 800 := by
  subst hK
  have h1 : m * 5 ^ k < 2 ^ 54 * 5 ^ (low + 1) := Nat.lt_of_lt_of_le (Nat.mul_lt_mul_of_pos_right hm (Nat.pow_pos (by decide))) (Nat.mul_le_mul_left _ (Nat.pow_le_pow_right (by decide) hk))
  exact dec_short (k := n800) h1 bound_mid (by decide)
theorem up_len {n k : Nat} (hn : n < 2 ^ 54) (hk : k ≤ n971) : (Lib.decDigits (n * 2 ^ k)).length ≤ 309 := by
  have h1 : n * 2 ^ k < 2 ^ 54 * 2 ^ n971 := Nat.lt_of_lt_of_le (Nat.mul_lt_mul_of_pos_right hn (Nat.pow_pos (by decide))) (Nat.mul_le_mul_left _ (Nat.pow_le_pow_right (by decide) hk))
  exact dec_short (k := n309) h1 bound_up (by decide)
theorem mk_fine (s : Bool) (l : Dc.Bs) (y : Int) (hd : Dc.allDig l = true) (hl : l.length ≤ 1000) (hy : -50000 ≤ y ∧ y ≤ 50000) : (Dc.mk s l y).e = 0 ∧ (Dc.mk s l y).l.length ≤ l.length := by
  have h1 := Dc.core_len l
  have h2 := Dc.lead_len l
  have h3 := Dc.tz_le l
  by_cases hc : Dc.core l = []
  · rw [Dc.mk_zero hd hc]; exact ⟨rfl, Nat.zero_le _⟩
  · rw [Dc.mk_ok hd hc ((Dc.right_core (y + Dc.tz l) hd hc).2 ⟨by omega, by omega, by omega⟩)]
    exact ⟨rfl, by show (Dc.core l).length ≤ l.length; omega⟩
structure Is (r : Dc.Res) (s : Bool) (n : Nat) (e : Int) : Prop where
  ok : r.e = 0
  sign : r.n = s
  right : Dc.right r.l r.x = true
  worth : Dc.vv r.l r.x * 2 ^ (low + 1) = n * 2 ^ (e + low + 1).toNat * 10 ^ Dc.lift
theorem of_is (s : Bool) (n : Nat) (e : Int) (hn : n < 2 ^ 54) (he : -1075 ≤ e ∧ e ≤ 971) : Is (of s n e) s n e := by
  by_cases h0 : 0 ≤ e
  · have hof : of s n e = Dc.mk s (Lib.decDigits (n * 2 ^ e.toNat)) 0 := by rw [of, if_pos h0]
    have hl := up_len hn (show e.toNat ≤ n971 by unfold n971; omega)
    obtain ⟨k1, k2⟩ := mk_fine s _ 0 (dig_dec (n * 2 ^ e.toNat)) (by omega) (by omega)
    obtain ⟨m1, m2, m3⟩ := Dc.mk_vv s _ 0 (dig_dec (n * 2 ^ e.toNat)) (by omega) k1
    rw [hof]
    refine ⟨k1, m1, m2, ?_⟩
    rw [m3, nv_dec, show ((0 : Int) + (Dc.lift : Int)).toNat = Dc.lift by omega, show (e + (low : Int) + 1).toNat = e.toNat + (low + 1) by omega, Nat.pow_add 2 e.toNat (low + 1), ← Nat.mul_assoc n, Nat.mul_right_comm]
  · obtain ⟨k0, hk0⟩ : ∃ k0 : Nat, e = -(k0 : Int) := ⟨(-e).toNat, by omega⟩
    subst hk0
    have hof : of s n (-(k0 : Int)) = Dc.mk s (Lib.decDigits ((halve k0 n).1 * 5 ^ (halve k0 n).2)) (-((halve k0 n).2 : Int)) := by
      rw [of, if_neg h0, Int.neg_neg, Int.toNat_natCast]
    obtain ⟨h1, h2⟩ := halve_le k0 n
    have h3 := halve_eq k0 n
    obtain ⟨m, hm⟩ : ∃ m, m = (halve k0 n).1 := ⟨_, rfl⟩
    obtain ⟨k, hk⟩ : ∃ m, m = (halve k0 n).2 := ⟨_, rfl⟩
    rw [← hm, ← hk] at hof h3
    rw [← hm] at h1
    rw [← hk] at h2
    have hlow : low = 1074 := rfl
    have hlift : Dc.lift = 200000 := rfl
    have hl := mid_len (m := m) (k := k) (K := low + 1) (by omega) (by omega) rfl
    obtain ⟨k1, k2⟩ := mk_fine s _ (-(k : Int)) (dig_dec (m * 5 ^ k)) (by omega) (by omega)
    obtain ⟨m1, m2, m3⟩ := Dc.mk_vv s _ (-(k : Int)) (dig_dec (m * 5 ^ k)) (by omega) k1
    rw [hof]
    refine ⟨k1, m1, m2, ?_⟩
    obtain ⟨c, hc⟩ : ∃ c, Dc.lift = k + c := ⟨Dc.lift - k, by omega⟩
    obtain ⟨d, hd⟩ : ∃ d, low + 1 = k0 + d := ⟨low + 1 - k0, by omega⟩
    rw [m3, nv_dec, show (-(k : Int) + (Dc.lift : Int)).toNat = c by omega, show (-(k0 : Int) + (low : Int) + 1).toNat = d by omega, hd, hc, Nat.pow_add, Nat.pow_add]
    have h10 : (10 : Nat) ^ k = 2 ^ k * 5 ^ k := by rw [← Nat.mul_pow]
    rw [h10]
    calc m * 5 ^ k * 10 ^ c * (2 ^ k0 * 2 ^ d) = (m * 2 ^ k0) * 5 ^ k * 10 ^ c * 2 ^ d := by simp only [Nat.mul_assoc, Nat.mul_comm, Nat.mul_left_comm]
      _ = (n * 2 ^ k) * 5 ^ k * 10 ^ c * 2 ^ d := by rw [h3]
      _ = n * 2 ^ d * (2 ^ k * 5 ^ k * 10 ^ c) := by simp only [Nat.mul_assoc, Nat.mul_comm, Nat.mul_left_comm]
theorem dec_worth (x : Nat) (h : kind x < 3) : Is (of (neg x) (mant x) (expn x)) (neg x) (mant x) (expn x) ∧ Dc.vv (of (neg x) (mant x) (expn x)).l (of (neg x) (mant x) (expn x)).x * 2 ^ low = V (x % 9223372036854775808) * 10 ^ Dc.lift := by
  have hm := mant_lt x
  have he := expn_bound x
  have hi := of_is (neg x) (mant x) (expn x) (by omega) (by omega)
  refine ⟨hi, ?_⟩
  have hw := hi.worth
  have hlow : low = 1074 := rfl
  rw [show (expn x + (low : Int) + 1).toNat = (expn x + 1074).toNat + 1 by omega, Nat.pow_add 2 low 1, Nat.pow_add 2 (expn x + 1074).toNat 1, ← Nat.mul_assoc, ← Nat.mul_assoc, Nat.mul_right_comm _ (2 ^ 1) (10 ^ Dc.lift), ← (V_parts x h).1] at hw
  exact Nat.eq_of_mul_eq_mul_right (by decide) hw
def bits (l : Dc.Bs) (x : Int) : Nat :=
  if 0 ≤ x then rd (Dc.nv l * 10 ^ x.toNat) 0 false
  else rd (Dc.nv l * 2 ^ (Na.bitLen (10 ^ (-x).toNat) + 70) / 10 ^ (-x).toNat) (-((Na.bitLen (10 ^ (-x).toNat) + 70 : Nat) : Int)) (decide (Dc.nv l * 2 ^ (Na.bitLen (10 ^ (-x).toNat) + 70) % 10 ^ (-x).toNat ≠ 0))
theorem quot_near {n b k : Nat} (hb : 0 < b) (hlong : n = 0 ∨ 54 ≤ Na.bitLen (n * 2 ^ k / b)) : Near (n * 2 ^ low) b (rd (n * 2 ^ k / b) (-(k : Int)) (decide (n * 2 ^ k % b ≠ 0))) := by
  have hdm := Nat.div_add_mod (n * 2 ^ k) b
  have hml := Nat.mod_lt (n * 2 ^ k) hb
  have hlow : low = 1074 := rfl
  refine rd_near (p := low) (q := k) hb (by omega) (fun h => ?_) (fun h => ?_) (fun h => ?_)
  · rcases hlong with h0 | h0
    · rw [h0, Nat.zero_mul] at h; simp at h
    · exact h0
  · have h0 : n * 2 ^ k % b = 0 := by have := of_decide_eq_false h; simpa using this
    rw [h0, Nat.add_zero] at hdm
    calc n * 2 ^ low * 2 ^ k = n * 2 ^ k * 2 ^ low := Nat.mul_right_comm _ _ _
      _ = b * (n * 2 ^ k / b) * 2 ^ low := by rw [hdm]
      _ = n * 2 ^ k / b * 2 ^ low * b := by rw [Nat.mul_comm b, Nat.mul_right_comm]
  · have h0 : n * 2 ^ k % b ≠ 0 := of_decide_eq_true h
    obtain ⟨t, ht⟩ : ∃ t, t = n * 2 ^ k / b := ⟨_, rfl⟩
    rw [← ht] at hdm ⊢
    have hp : 0 < 2 ^ low := Nat.pow_pos (by decide)
    rw [Nat.mul_right_comm n, Nat.mul_right_comm t, Nat.mul_right_comm (t + 1)]
    constructor
    · exact Nat.mul_lt_mul_of_pos_right (by rw [Nat.mul_comm]; omega) hp
    · refine Nat.mul_lt_mul_of_pos_right ?_ hp
      rw [Nat.add_mul, Nat.one_mul, Nat.mul_comm t]; omega
theorem quot_long {n b k : Nat} (hn : 0 < n) (hb : 0 < b) (hk : Na.bitLen b + 54 ≤ k + Na.bitLen n) : 54 ≤ Na.bitLen (n * 2 ^ k / b) := by
  obtain ⟨b1, b2, b3⟩ := bitLen_ge (n := b) (by omega)
  obtain ⟨n1, n2, n3⟩ := bitLen_ge (n := n) (by omega)
  have hq : 2 ^ 53 ≤ n * 2 ^ k / b := by
    rw [Nat.le_div_iff_mul_le hb]
    have e1 : 2 ^ 53 * b ≤ 2 ^ 53 * 2 ^ Na.bitLen b := Nat.mul_le_mul_left _ (Nat.le_of_lt b2)
    have e2 : 2 ^ (Na.bitLen n - 1) * 2 ^ k ≤ n * 2 ^ k := Nat.mul_le_mul_right _ n1
    rw [← Nat.pow_add] at e1 e2
    exact Nat.le_trans e1 (Nat.le_trans (Nat.pow_le_pow_right (by decide) (by omega)) e2)
  obtain ⟨q1, q2, q3⟩ := bitLen_ge (n := n * 2 ^ k / b) (by have : 0 < 2 ^ 53 := by decide
                                                            omega)
  have := (Nat.pow_lt_pow_iff_right (a := 2) (by decide)).1 (Nat.lt_of_le_of_lt hq q2)
  omega
theorem near_scale {l : Dc.Bs} {x : Int} {b : Nat} (hx : -100000 ≤ x) : Near (Dc.vv l x * 2 ^ low) (10 ^ Dc.lift) b ↔ (if 0 ≤ x then Near (Dc.nv l * 10 ^ x.toNat * 2 ^ low) 1 b else Near (Dc.nv l * 2 ^ low) (10 ^ (-x).toNat) b) := by
  have sc : ∀ X D c : Nat, 0 < c → (Near (X * c) (D * c) b ↔ Near X D b) := fun X D c hc => by
    have e1 : ∀ z : Nat, z * (D * c) < 2 * (X * c) ↔ z * D < 2 * X := fun z => by
      rw [← Nat.mul_assoc, ← Nat.mul_assoc]; exact ⟨fun h => Nat.lt_of_mul_lt_mul_right h, fun h => Nat.mul_lt_mul_of_pos_right h hc⟩
    have e2 : ∀ z : Nat, z * (D * c) = 2 * (X * c) ↔ z * D = 2 * X := fun z => by
      rw [← Nat.mul_assoc, ← Nat.mul_assoc]; exact ⟨fun h => Nat.eq_of_mul_eq_mul_right hc h, fun h => by rw [h]⟩
    have e3 : ∀ z : Nat, 2 * (X * c) < z * (D * c) ↔ 2 * X < z * D := fun z => by
      rw [← Nat.mul_assoc, ← Nat.mul_assoc]; exact ⟨fun h => Nat.lt_of_mul_lt_mul_right h, fun h => Nat.mul_lt_mul_of_pos_right h hc⟩
    have e4 : ∀ z : Nat, 2 * (X * c) = z * (D * c) ↔ 2 * X = z * D := fun z => by
      rw [← Nat.mul_assoc, ← Nat.mul_assoc]; exact ⟨fun h => Nat.eq_of_mul_eq_mul_right hc h, fun h => by rw [h]⟩
    unfold Near
    rw [e1, e2, e3, e4]
  have hlift : Dc.lift = 200000 := rfl
  by_cases h0 : 0 ≤ x
  · rw [if_pos h0, ← sc (Dc.nv l * 10 ^ x.toNat * 2 ^ low) 1 (10 ^ Dc.lift) (Nat.pow_pos (by decide)), Nat.one_mul, Dc.vv, show (x + (Dc.lift : Int)).toNat = x.toNat + Dc.lift by omega, Nat.pow_add, ← Nat.mul_assoc, Nat.mul_right_comm _ (10 ^ Dc.lift)]
  · obtain ⟨k, hk⟩ : ∃ k : Nat, k = (-x).toNat := ⟨_, rfl⟩
    obtain ⟨c, hc⟩ : ∃ c, Dc.lift = k + c := ⟨Dc.lift - k, by omega⟩
    rw [if_neg h0, ← hk, ← sc (Dc.nv l * 2 ^ low) (10 ^ k) (10 ^ c) (Nat.pow_pos (by decide)), ← Nat.pow_add, ← hc, Dc.vv, show (x + (Dc.lift : Int)).toNat = c by omega, Nat.mul_right_comm]
theorem bits_near (l : Dc.Bs) (x : Int) (hx : -100000 ≤ x) : Near (Dc.vv l x * 2 ^ low) (10 ^ Dc.lift) (bits l x) := by
  rw [near_scale hx]
  have hlow : low = 1074 := rfl
  by_cases h0 : 0 ≤ x
  · rw [if_pos h0, bits, if_pos h0]
    exact rd_near (p := low) (q := 0) (by decide) (by omega) (fun h => by cases h) (fun _ => by rw [Nat.pow_zero, Nat.mul_one]) (fun h => by cases h)
  · rw [if_neg h0, bits, if_neg h0]
    refine quot_near (Nat.pow_pos (by decide)) ?_
    by_cases hn : Dc.nv l = 0
    · exact Or.inl hn
    · refine Or.inr (quot_long (by omega) (Nat.pow_pos (by decide)) ?_)
      have := (bitLen_ge hn).2.2
      omega
theorem bits_eq {l : Dc.Bs} {x : Int} {b : Nat} (hx : -100000 ≤ x) (h : Near (Dc.vv l x * 2 ^ low) (10 ^ Dc.lift) b) : b = bits l x :=
  near_eq (Nat.pow_pos (by decide)) (Nat.pow_pos (by decide)) rfl h (bits_near l x hx)
theorem bits_dec (x : Nat) (h : kind x < 3) : bits (of (neg x) (mant x) (expn x)).l (of (neg x) (mant x) (expn x)).x = x % 9223372036854775808 := by
  obtain ⟨hi, hw⟩ := dec_worth x h
  have hb := near_self (b := x % 9223372036854775808) (D := 10 ^ Dc.lift) (Nat.le_of_lt (V_parts x h).2) (Nat.pow_pos (by decide))
  rw [← hw] at hb
  exact (bits_eq (Dc.right_exp hi.right).1 hb).symm
end Go.Proofs.YtiglekomfgfilaaGreatDoor.Fl

/- Plain Lean: how the reference reads a right decimal: the ends, and the quotient to any length. -/
namespace Go.Proofs.YtiglekomfgfilaaGreatDoor.Fl
set_option linter.all false
theorem bits_nil : bits [] 0 = 0 := by
  rw [bits, if_pos (by omega), Dc.nv_nil, Nat.zero_mul, rd, if_pos rfl]
def n400 : Nat := 400
def n401 : Nat := 401
def n2046 : Nat := 2046
theorem bound_small : 2 * 2 ^ low ≤ 10 ^ n401 := by decide +kernel
theorem bound_big : 4503599627370496 * 2 ^ n2046 ≤ 10 ^ n400 * 2 ^ low := by decide +kernel
theorem V_inf : V 9218868437227405312 = 4503599627370496 * 2 ^ n2046 := V_form n2046 4503599627370496 (Or.inr ⟨Nat.le_refl _, by decide⟩)
theorem V_one : V 1 = 1 := by
  have := V_form 0 1 (Or.inl ⟨rfl, by decide⟩)
  simpa using this
theorem bits_small {l : Dc.Bs} {x : Int} (h : Dc.right l x = true) (hne : l ≠ []) (hp : (l.length : Int) + x < -400) : bits l x = 0 := by
  have hx := (Dc.right_exp h).1
  refine (bits_eq hx ⟨by decide, Or.inl rfl, Or.inr (Or.inl ?_)⟩).symm
  have hv := (Dc.vv_bounds h hne).2
  have hl : Dc.lift = 200000 := rfl
  obtain ⟨c, hc⟩ : ∃ c, Dc.lift = c + n401 := ⟨Dc.lift - n401, by unfold n401; omega⟩
  have h4 : n401 = 401 := rfl
  have hv2 : Dc.vv l x < 10 ^ c := Nat.lt_of_lt_of_le hv (Nat.pow_le_pow_right (by decide) (by omega))
  rw [Nat.zero_add, V_zero, V_one, Nat.zero_add, Nat.one_mul, hc, Nat.pow_add]
  have h1 : 2 * (Dc.vv l x * 2 ^ low) = Dc.vv l x * (2 * 2 ^ low) := by rw [Nat.mul_left_comm]
  rw [h1]
  exact Nat.lt_of_le_of_lt (Nat.mul_le_mul_left _ bound_small) (Nat.mul_lt_mul_of_pos_right hv2 (Nat.pow_pos (by decide)))
theorem bits_big {l : Dc.Bs} {x : Int} (h : Dc.right l x = true) (hne : l ≠ []) (hp : 400 < (l.length : Int) + x) : bits l x = 9218868437227405312 := by
  have hx := (Dc.right_exp h).1
  refine (bits_eq hx ⟨Nat.le_refl _, Or.inr (Or.inl ?_), Or.inl rfl⟩).symm
  have hv := (Dc.vv_bounds h hne).1
  have hl : Dc.lift = 200000 := rfl
  have h4 : n400 = 400 := rfl
  have hv2 : 10 ^ n400 * 10 ^ Dc.lift ≤ Dc.vv l x := by
    rw [← Nat.pow_add]
    exact Nat.le_trans (Nat.pow_le_pow_right (by decide) (by omega)) hv
  have hlt : V (9218868437227405312 - 1) < V 9218868437227405312 := V_lt (by decide)
  have hD : 0 < 10 ^ Dc.lift := Nat.pow_pos (by decide)
  have h1 : (V (9218868437227405312 - 1) + V 9218868437227405312) * 10 ^ Dc.lift < 2 * (V 9218868437227405312) * 10 ^ Dc.lift := Nat.mul_lt_mul_of_pos_right (by omega) hD
  refine Nat.lt_of_lt_of_le h1 ?_
  rw [Nat.mul_assoc]
  refine Nat.mul_le_mul_left _ ?_
  rw [V_inf]
  refine Nat.le_trans (Nat.mul_le_mul_right _ bound_big) ?_
  rw [Nat.mul_right_comm]
  exact Nat.mul_le_mul_right _ hv2
theorem bits_quot {l : Dc.Bs} {x : Int} {k : Nat} (hx : -100000 ≤ x) (h0 : x < 0) (hn : 0 < Dc.nv l) (hk : Na.bitLen (10 ^ (-x).toNat) + 54 ≤ k + Na.bitLen (Dc.nv l)) :
    rd (Dc.nv l * 2 ^ k / 10 ^ (-x).toNat) (-(k : Int)) (decide (Dc.nv l * 2 ^ k % 10 ^ (-x).toNat ≠ 0)) = bits l x := by
  refine bits_eq hx ?_
  rw [near_scale hx, if_neg (by omega)]
  exact quot_near (Nat.pow_pos (by decide)) (Or.inr (quot_long hn (Nat.pow_pos (by decide)) hk))
theorem bits_whole {l : Dc.Bs} {x : Int} (h0 : 0 ≤ x) : rd (Dc.nv l * 10 ^ x.toNat) 0 false = bits l x := by
  rw [bits, if_pos h0]
def wsign (s : Bool) : Nat := if s then 9223372036854775808 else 0
end Go.Proofs.YtiglekomfgfilaaGreatDoor.Fl

/- Plain Lean: the other sign of a number. -/
namespace Go.Proofs.YtiglekomfgfilaaGreatDoor.Fl
set_option linter.all false
end Go.Proofs.YtiglekomfgfilaaGreatDoor.Fl

/- Plain Lean: the decimals of numbers, and of middles, by their size. -/
namespace Go.Proofs.YtiglekomfgfilaaGreatDoor.Fl
set_option linter.all false
open Go
end Go.Proofs.YtiglekomfgfilaaGreatDoor.Fl

/- Plain Lean: the nearest fraction of all denominators up to a bound. -/
namespace Go.Proofs.YtiglekomfgfilaaGreatDoor.Fl
set_option linter.all false
open Go
structure Frac where
  d : Dc.Res
  p : Int
  q : Int
  e : Int
end Go.Proofs.YtiglekomfgfilaaGreatDoor.Fl

/- Plain Lean: a number of eighths is told as it is; naturals of 53 bits. -/
namespace Go.Proofs.YtiglekomfgfilaaGreatDoor.Fl
set_option linter.all false
open Go
theorem form_parts (j m : Nat) (hj : j ≤ 2045) (h1 : 4503599627370496 ≤ m) (h2 : m < 9007199254740992) : kind (j * 4503599627370496 + m) = 2 ∧ mant (j * 4503599627370496 + m) = m ∧ expn (j * 4503599627370496 + m) = (j : Int) - 1074 ∧
    neg (j * 4503599627370496 + m) = false ∧ V (j * 4503599627370496 + m) = m * 2 ^ j ∧ j * 4503599627370496 + m < 9218868437227405312 := by
  have hE : expo (j * 4503599627370496 + m) = j + 1 := by unfold expo; omega
  have hF : frac (j * 4503599627370496 + m) = m - 4503599627370496 := by unfold frac; omega
  have hk : kind (j * 4503599627370496 + m) = 2 := by unfold kind; rw [hE, if_neg (by omega), if_pos (by omega)]
  refine ⟨hk, by rw [mant, if_pos hk, hF]; omega, by rw [expn, if_pos hk, hE]; omega, decide_eq_false (by omega), V_form j m (Or.inr ⟨h1, by omega⟩), by omega⟩
theorem nat_full (D : Nat) (h0 : 0 < D) (hD : D < 9007199254740992) : ∃ t : Nat, t ≤ 52 ∧ 4503599627370496 ≤ D * 2 ^ t ∧ D * 2 ^ t < 9007199254740992 := by
  obtain ⟨a1, a2, a3⟩ := bitLen_ge (n := D) (by omega)
  have hl : Na.bitLen D ≤ 53 := by
    rcases Nat.lt_or_ge 53 (Na.bitLen D) with h | h
    · have : 2 ^ 53 ≤ 2 ^ (Na.bitLen D - 1) := Nat.pow_le_pow_right (by decide) (by omega)
      omega
    · exact h
  refine ⟨53 - Na.bitLen D, by omega, ?_, ?_⟩
  · have := Nat.mul_le_mul_right (2 ^ (53 - Na.bitLen D)) a1
    rw [← Nat.pow_add, show Na.bitLen D - 1 + (53 - Na.bitLen D) = 52 by omega] at this
    exact this
  · have := Nat.mul_lt_mul_of_pos_right a2 (show 0 < 2 ^ (53 - Na.bitLen D) from Nat.pow_pos (by decide))
    rw [← Nat.pow_add, show Na.bitLen D + (53 - Na.bitLen D) = 53 by omega] at this
    exact this
end Go.Proofs.YtiglekomfgfilaaGreatDoor.Fl
