/- Plain Lean: what is written of a right decimal is read as it. -/
import Derived.Test.YtbbeeglfgnabmaaDoorDec4
import Derived.Test.YtbbeeglfgnabmaaDoorDec5
namespace Go.Proofs.YtbbeeglfgnabmaaDoor.Dc
set_option linter.all false

theorem takeWhile_app (f r : Bs) (hf : allDig f = true) (hr : ∀ c, r[0]? = some c → isDig c = false) : (f ++ r).takeWhile isDig = f := by
  rw [List.takeWhile_append_of_pos (fun c hc => List.all_eq_true.1 hf c hc)]
  cases r with
  | nil => simp
  | cons c r => rw [List.takeWhile_cons_of_neg (by simp [hr c rfl])]; simp
theorem dropWhile_app (f r : Bs) (hf : allDig f = true) (hr : ∀ c, r[0]? = some c → isDig c = false) : (f ++ r).dropWhile isDig = r := by
  rw [List.dropWhile_append_of_pos (fun c hc => List.all_eq_true.1 hf c hc)]
  cases r with
  | nil => rfl
  | cons c r => rw [List.dropWhile_cons_of_neg (by simp [hr c rfl])]

theorem dig_ne {c : UInt8} (h : isDig c = true) (k : UInt8) (hk : k.toNat < 48 ∨ 57 < k.toNat) : c ≠ k := by
  intro e; subst e; simp [isDig] at h; omega

theorem neg_strip (n : Bool) (t : Bs) (ht : ∀ c, t[0]? = some c → c ≠ 45) : Lib.hasPrefix ((if n then [45] else []) ++ t) [45] = n ∧ Lib.trimPrefix ((if n then [45] else []) ++ t) [45] = t := by
  cases n
  · have h : Lib.hasPrefix t [45] = false := by
      cases t with
      | nil => rfl
      | cons c t => have := ht c rfl; simp [Lib.hasPrefix, List.isPrefixOf]; exact fun e => this e.symm
    simp [Lib.trimPrefix, h]
  · simp [Lib.trimPrefix, Lib.hasPrefix, List.isPrefixOf]

theorem first_dig {f t : Bs} (hf : allDig f = true) (hne : f ≠ []) (c : UInt8) (h : (f ++ t)[0]? = some c) : c ≠ 45 := by
  cases f with
  | nil => exact absurd rfl hne
  | cons d f =>
    simp at h; subst h
    rw [allDig, List.all_cons, Bool.and_eq_true] at hf
    exact dig_ne hf.1 _ (by decide)

theorem parse_form (n : Bool) (f r : Bs) (hf : allDig f = true) (hne : f ≠ []) (hr : ∀ c, r[0]? = some c → isDig c = false ∧ c ≠ 46) : parse ((if n then [45] else []) ++ (f ++ r)) = tail n f 0 r := by
  obtain ⟨h1, h2⟩ := neg_strip n (f ++ r) (fun c h => first_dig hf hne c h)
  have h3 : Lib.hasPrefix r [46] = false := by
    cases r with
    | nil => rfl
    | cons c r => have := (hr c rfl).2; simp [Lib.hasPrefix, List.isPrefixOf]; exact fun e => this e.symm
  unfold parse
  simp only [h1, h2, takeWhile_app f r hf (fun c h => (hr c h).1), dropWhile_app f r hf (fun c h => (hr c h).1), h3]
  simp [hne]

theorem parse_form_dot (n : Bool) (f g r : Bs) (hf : allDig f = true) (hg : allDig g = true) (hne : f ≠ []) (hr : ∀ c, r[0]? = some c → isDig c = false) : parse ((if n then [45] else []) ++ (f ++ (46 :: (g ++ r)))) = tail n (f ++ g) g.length r := by
  obtain ⟨h1, h2⟩ := neg_strip n (f ++ (46 :: (g ++ r))) (fun c h => first_dig hf hne c h)
  have hp : ∀ c, (46 :: (g ++ r))[0]? = some c → isDig c = false := by intro c h; simp at h; subst h; decide
  have h3 : Lib.hasPrefix (46 :: (g ++ r)) [46] = true := by simp [Lib.hasPrefix, List.isPrefixOf]
  have h4 : Lib.trimPrefix (46 :: (g ++ r)) [46] = g ++ r := by simp [Lib.trimPrefix, h3]
  unfold parse
  simp only [h1, h2, takeWhile_app f _ hf hp, dropWhile_app f _ hf hp, h3, h4, takeWhile_app g r hg hr, dropWhile_app g r hg hr]
  simp [hne]

theorem rep_mem {k : Nat} {c : UInt8} (h : c ∈ Lib.repeatL [48] k) : c = 48 := by
  induction k with
  | zero => cases h
  | succ k ih => rw [Lib.repeatL] at h; simp at h; rcases h with h | h; exact h; exact ih h
theorem rep_len (k : Nat) : (Lib.repeatL [48] k).length = k := by rw [Lib.repeatL_length]; simp
theorem rep_dig (k : Nat) : allDig (Lib.repeatL [48] k) = true := by
  rw [allDig, List.all_eq_true]; intro c hc; rw [rep_mem hc]; decide

theorem app_dig {a b : Bs} (ha : allDig a = true) (hb : allDig b = true) : allDig (a ++ b) = true := by
  rw [allDig, List.all_append]; unfold allDig at ha hb; rw [ha, hb]; rfl

theorem right_ends {l : Bs} {x : Int} (h : right l x = true) (hne : l ≠ []) : l[0]? ≠ some 48 ∧ l[l.length - 1]? ≠ some 48 := by
  rw [right, if_neg hne] at h
  simp only [Bool.and_eq_true, bne_iff_ne] at h
  exact ⟨h.2.2.2.2.1, h.2.2.2.2.2⟩

/-- Noughts ahead of a right decimal's digits and behind them. -/
theorem mk_pad (n : Bool) (l : Bs) (x : Int) (a b : Nat) (h : right l x = true) (hne : l ≠ []) : mk n (Lib.repeatL [48] a ++ (l ++ Lib.repeatL [48] b)) (x - b) = ⟨n, l, x, 0⟩ := by
  obtain ⟨e1, e2⟩ := right_ends h hne
  obtain ⟨h1, h2⟩ := core_split (Lib.repeatL [48] a ++ (l ++ Lib.repeatL [48] b)) _ l _ rfl (fun c => rep_mem) (fun c => rep_mem) hne (fun c hc e => e1 (by rw [hc, e])) (fun c hc e => e2 (by rw [hc, e]))
  have h3 : (tz (Lib.repeatL [48] a ++ (l ++ Lib.repeatL [48] b)) : Int) = b := by
    rw [tz_int, h1, h2, List.length_append, rep_len]; omega
  have h4 : allDig (Lib.repeatL [48] a ++ (l ++ Lib.repeatL [48] b)) = true := app_dig (rep_dig _) (app_dig (right_dig h) (rep_dig _))
  rw [mk_ok h4 (by rw [h2]; exact hne) (by rw [h2, h3, show x - b + b = x by omega]; exact h), h2, h3, show x - b + b = x by omega]
theorem mk_same (n : Bool) (l : Bs) (x : Int) (h : right l x = true) (hne : l ≠ []) : mk n l x = ⟨n, l, x, 0⟩ := by
  have := mk_pad n l x 0 0 h hne
  simpa [Lib.repeatL] using this
theorem mk_back (n : Bool) (l : Bs) (x : Int) (b : Nat) (h : right l x = true) (hne : l ≠ []) : mk n (l ++ Lib.repeatL [48] b) (x - b) = ⟨n, l, x, 0⟩ := by
  have := mk_pad n l x 0 b h hne
  simpa [Lib.repeatL] using this
theorem mk_front (n : Bool) (l : Bs) (x : Int) (a : Nat) (h : right l x = true) (hne : l ≠ []) : mk n (Lib.repeatL [48] a ++ l) x = ⟨n, l, x, 0⟩ := by
  have := mk_pad n l x a 0 h hne
  simpa [Lib.repeatL] using this

theorem decDigits_dig (u : Nat) : allDig (Lib.decDigits u) = true ∧ numOf (Lib.decDigits u) = u ∧ Lib.decDigits u ≠ [] := by
  induction u using Nat.strongRecOn with
  | _ u ih =>
    have hd : ∀ k : Nat, k < 10 → isDig (UInt8.ofNat (48 + k)) = true ∧ ((UInt8.ofNat (48 + k)).toNat : Int) - 48 = k := by
      have : ∀ k : Fin 10, isDig (UInt8.ofNat (48 + k.val)) = true ∧ ((UInt8.ofNat (48 + k.val)).toNat : Int) - 48 = k.val := by decide
      exact fun k hk => this ⟨k, hk⟩
    by_cases h : u < 10
    · rw [Lib.decDigits, dif_pos h]
      obtain ⟨a, b⟩ := hd u h
      refine ⟨by rw [allDig, List.all_cons, a]; rfl, ?_, by simp⟩
      simp only [numOf, List.foldl_cons, List.foldl_nil]; omega
    · rw [Lib.decDigits, dif_neg h]
      obtain ⟨a, b⟩ := hd (u % 10) (Nat.mod_lt _ (by decide))
      obtain ⟨i1, i2, i3⟩ := ih (u / 10) (by omega)
      refine ⟨app_dig i1 (by rw [allDig, List.all_cons, a]; rfl), ?_, by simp⟩
      have e : numOf (Lib.decDigits (u / 10) ++ [UInt8.ofNat (48 + u % 10)]) = 10 * numOf (Lib.decDigits (u / 10)) + (((UInt8.ofNat (48 + u % 10)).toNat : Int) - 48) := by
        simp [numOf, List.foldl_append]
      rw [e, i2]; omega

theorem nDigits_le9 (u : Nat) (h : u ≤ 1000000) : (Lib.decDigits u).length ≤ 9 := by
  rw [Lib.decDigits_length]
  by_cases h0 : u = 0
  · subst h0; rw [Lib.nDigits_small (by decide)]; decide
  · by_cases hb : Lib.nDigits u ≤ 9
    · exact hb
    · exfalso
      have : ∀ k u : Nat, u < 10 ^ (k + 1) → Lib.nDigits u ≤ k + 1 := by
        intro k
        induction k with
        | zero => intro u hu; rw [Lib.nDigits_small (by simpa using hu)]; omega
        | succ k ih =>
          intro u hu
          by_cases h : u < 10
          · rw [Lib.nDigits_small h]; omega
          · rw [Lib.nDigits_big h]
            have := ih (u / 10) (by rw [Nat.pow_succ] at hu; omega)
            omega
      have := this 6 u (by omega)
      omega

theorem tail_e (n : Bool) (ds : Bs) (k : Nat) (c : UInt8) (u : Nat) (hc : c = 43 ∨ c = 45) (hu : u ≤ 1000000) : tail n ds k (101 :: c :: Lib.decDigits u) = mk n ds ((if c = 45 then -(u : Int) else u) - k) := by
  obtain ⟨h1, h2, h3⟩ := decDigits_dig u
  have h4 := takeWhile_app (Lib.decDigits u) [] h1 (by simp)
  have h5 := dropWhile_app (Lib.decDigits u) [] h1 (by simp)
  rw [List.append_nil] at h4 h5
  have h6 := nDigits_le9 u hu
  unfold tail
  simp only [if_pos hc, h4, h5, h2]
  rw [if_pos (by decide), if_neg (by simp [h3]; omega)]
  simp

theorem print_parse (n : Bool) (l : Bs) (x : Int) (h : right l x = true) : parse (print n l x) = ⟨n, l, x, 0⟩ := by
  have hx := right_exp h
  have hll := right_len h
  have hd := right_dig h
  rw [print, if_pos h]
  have h48 : ∀ c, (46 :: l)[0]? = some c → isDig c = false := by intro c h; simp at h; subst h; decide
  by_cases hne : l = []
  · subst hne
    rw [body, if_pos rfl]
    have hx0 : x = 0 := by simpa [right] using h
    have := parse_form n [48] [] (by decide) (by simp) (by simp)
    rw [List.append_nil] at this
    rw [this, tail, mk_zero (by decide) (by decide), hx0]
  have hlp : 0 < l.length := List.length_pos_iff.2 hne
  rw [body, if_neg hne]
  split
  · rename_i hc
    have := parse_form n (l ++ Lib.repeatL [48] (l.length + x - l.length).toNat) [] (app_dig hd (rep_dig _)) (by simp [hne]) (by simp)
    rw [List.append_nil] at this
    rw [List.append_assoc, this, tail]
    have h2 := mk_back n l x (l.length + x - l.length).toNat h hne
    rw [show x - ((l.length + x - l.length).toNat : Int) = -((0 : Nat) : Int) by omega] at h2
    exact h2
  · rename_i hc1
    split
    · rename_i hc
      have hk : l.take ((l.length : Int) + x).toNat ≠ [] := by
        intro e; have := congrArg List.length e; rw [List.length_take, List.length_nil] at this; omega
      have := parse_form_dot n (l.take ((l.length : Int) + x).toNat) (l.drop ((l.length : Int) + x).toNat) [] (dig_take hd _) (by rw [allDig, List.all_eq_true] at *; exact fun c hc => hd c (List.mem_of_mem_drop hc)) hk (by simp)
      rw [List.append_nil, List.take_append_drop] at this
      rw [show (if n = true then [45] else []) ++ l.take ((l.length : Int) + x).toNat ++ [46] ++ l.drop ((l.length : Int) + x).toNat = (if n = true then [45] else []) ++ (l.take ((l.length : Int) + x).toNat ++ (46 :: l.drop ((l.length : Int) + x).toNat)) by simp, this, tail, List.length_drop]
      have h2 := mk_same n l x h hne
      rw [show -((l.length - ((l.length : Int) + x).toNat : Nat) : Int) = x by omega]
      exact h2
    · split
      · rename_i hc
        have := parse_form_dot n [48] (Lib.repeatL [48] (-((l.length : Int) + x)).toNat ++ l) [] (by decide) (app_dig (rep_dig _) hd) (by simp) (by simp)
        rw [List.append_nil] at this
        rw [show (if n = true then [45] else []) ++ [48, 46] ++ Lib.repeatL [48] (-((l.length : Int) + x)).toNat ++ l = (if n = true then [45] else []) ++ ([48] ++ (46 :: (Lib.repeatL [48] (-((l.length : Int) + x)).toNat ++ l))) by simp, this, tail, List.length_append, rep_len]
        have h2 := mk_front n l x ((-((l.length : Int) + x)).toNat + 1) h hne
        rw [show -(((-((l.length : Int) + x)).toNat + l.length : Nat) : Int) = x by omega]
        rw [Nat.add_comm, Lib.repeatL_add, Lib.repeatL_one, List.append_assoc] at h2
        exact h2
      · rename_i hc2 hc3
        have hgo : (l.length : Int) + x < -5 ∨ 21 < (l.length : Int) + x := by omega
        have key : ∀ (c : UInt8) (u : Nat), (c = 43 ∨ c = 45) → u ≤ 1000000 → (if c = 45 then -(u : Int) else u) = l.length + x - 1 →
            parse ((if 1 < l.length then (if n = true then [45] else []) ++ l.take 1 ++ ([46] ++ l.drop 1) else (if n = true then [45] else []) ++ l.take 1) ++ [101, c] ++ Lib.decDigits u) = ⟨n, l, x, 0⟩ := by
          intro c u hcc hu he
          have hk : l.take 1 ≠ [] := by
            intro e; have := congrArg List.length e; rw [List.length_take, List.length_nil] at this; omega
          split
          · rename_i h1
            have := parse_form_dot n (l.take 1) (l.drop 1) (101 :: c :: Lib.decDigits u) (dig_take hd _) (by rw [allDig, List.all_eq_true] at *; exact fun c hc => hd c (List.mem_of_mem_drop hc)) hk (by intro c h; simp at h; subst h; decide)
            rw [List.take_append_drop] at this
            rw [show (if n = true then [45] else []) ++ l.take 1 ++ ([46] ++ l.drop 1) ++ [101, c] ++ Lib.decDigits u = (if n = true then [45] else []) ++ (l.take 1 ++ (46 :: (l.drop 1 ++ (101 :: c :: Lib.decDigits u)))) by simp, this, tail_e n _ _ c u hcc hu, he, List.length_drop]
            rw [show (l.length : Int) + x - 1 - ((l.length - 1 : Nat) : Int) = x by omega]
            exact mk_same n l x h hne
          · rename_i h1
            have := parse_form n (l.take 1) (101 :: c :: Lib.decDigits u) (dig_take hd _) hk (by intro c h; simp at h; subst h; decide)
            have h1l : l.take 1 = l := List.take_of_length_le (by omega)
            rw [show (if n = true then [45] else []) ++ l.take 1 ++ [101, c] ++ Lib.decDigits u = (if n = true then [45] else []) ++ (l.take 1 ++ (101 :: c :: Lib.decDigits u)) by simp, this, tail_e n _ _ c u hcc hu, he, h1l]
            rw [show (l.length : Int) + x - 1 - ((0 : Nat) : Int) = x by omega]
            exact mk_same n l x h hne
        simp only []
        by_cases hp : (l.length : Int) + x < 1
        · rw [if_pos hp, Lib.itoa, if_neg (show ¬ 1 - ((l.length : Int) + x) < 0 by omega)]
          exact key 45 (1 - ((l.length : Int) + x)).toNat (.inr rfl) (by omega) (by rw [if_pos rfl]; omega)
        · rw [if_neg hp, Lib.itoa, if_neg (show ¬ ((l.length : Int) + x) - 1 < 0 by omega)]
          exact key 43 (((l.length : Int) + x) - 1).toNat (.inl rfl) (by omega) (by rw [if_neg (by decide)]; omega)

end Go.Proofs.YtbbeeglfgnabmaaDoor.Dc
