/- Plain Lean: references to cells, as they are read and written. -/
import Derived.Test.YtbbeeglfgnabmaaDoorDec6
namespace Go.Proofs.YtbbeeglfgnabmaaDoor.Ce
set_option linter.all false
open Dc (Bs isDig allDig numOf)

/-- A reference: column, row; is each absolute? -/
structure Rf where
  col : Int
  row : Int
  ac : Bool
  ar : Bool
deriving DecidableEq

def zero : Rf := ⟨0, 0, false, false⟩
def right (r : Rf) : Bool := decide (0 ≤ r.col) && (decide (r.col < 64) && (decide (0 ≤ r.row) && decide (r.row < 1000)))
theorem right_iff (r : Rf) : right r = true ↔ 0 ≤ r.col ∧ r.col < 64 ∧ 0 ≤ r.row ∧ r.row < 1000 := by simp [right]

def isLet (c : UInt8) : Bool := (decide (65 ≤ (c.toNat : Int)) && decide ((c.toNat : Int) ≤ 90)) || (decide (97 ≤ (c.toNat : Int)) && decide ((c.toNat : Int) ≤ 122))
def letV (c : UInt8) : Int := if 97 ≤ (c.toNat : Int) then (c.toNat : Int) - 96 else (c.toNat : Int) - 64
def colOf (l : Bs) : Int := l.foldl (fun a c => 26 * a + letV c) 0

def parse (l : Bs) : Rf × Int :=
  let s1 := Lib.trimPrefix l [36]
  let name := s1.takeWhile isLet
  let s2 := s1.dropWhile isLet
  let s3 := Lib.trimPrefix s2 [36]
  let row := s3.takeWhile isDig
  let s4 := s3.dropWhile isDig
  if s4 ≠ [] ∨ name = [] ∨ 3 < name.length ∨ row = [] ∨ 7 < row.length ∨ row[0]? = some 48 then (zero, 3) else
  if right ⟨colOf name - 1, numOf row - 1, Lib.hasPrefix l [36], Lib.hasPrefix s2 [36]⟩ then (⟨colOf name - 1, numOf row - 1, Lib.hasPrefix l [36], Lib.hasPrefix s2 [36]⟩, 0) else (zero, 14)

/-- A column's name. -/
def letters (n : Nat) : Bs := if n < 26 then [UInt8.ofNat (65 + n)] else [UInt8.ofNat (64 + n / 26), UInt8.ofNat (65 + n % 26)]
def mark (b : Bool) : Bs := if b then [36] else []
def print (r : Rf) : Bs := if right r then mark r.ac ++ (letters r.col.toNat ++ (mark r.ar ++ Lib.decDigits (r.row + 1).toNat)) else []

def index (r : Rf) : Int := if right r then 64 * r.row + r.col else -1
def at' (i : Int) : Rf := if i < 0 ∨ 64000 ≤ i then ⟨-1, -1, false, false⟩ else ⟨i % 64, i / 64, false, false⟩

/-- A part is moved; it is below 0, if it goes out of the grid. -/
def mv (x d e : Int) (fixed : Bool) : Int := if fixed then x else if d < -x ∨ e - x ≤ d then -1 else x + d
def moved (r : Rf) (c d : Int) : Rf × Bool :=
  if right r then
    if right ⟨mv r.col c 64 r.ac, mv r.row d 1000 r.ar, r.ac, r.ar⟩ then (⟨mv r.col c 64 r.ac, mv r.row d 1000 r.ar, r.ac, r.ar⟩, true) else (zero, false)
  else (zero, false)

def capital (l : Bs) : Bs := l.map fun c => if 97 ≤ c.toNat ∧ c.toNat ≤ 122 then c - 32 else c

/-! ### What is written is read as it -/

theorem strip (b : Bool) (t : Bs) (ht : ∀ c, t[0]? = some c → c ≠ 36) : Lib.hasPrefix (mark b ++ t) [36] = b ∧ Lib.trimPrefix (mark b ++ t) [36] = t := by
  cases b with
  | true => simp [mark, Lib.hasPrefix, Lib.trimPrefix]
  | false =>
    have h : Lib.hasPrefix t [36] = false := by
      cases t with
      | nil => rfl
      | cons c t =>
        have := ht c rfl
        simp [Lib.hasPrefix, List.isPrefixOf]; exact fun e => this e.symm
    refine ⟨by simpa [mark] using h, ?_⟩
    simp only [mark, Bool.false_eq_true, if_false, List.nil_append]
    unfold Lib.trimPrefix
    simp only [Lib.hasPrefix] at h
    simp [Lib.hasPrefix, h]

theorem tw_let (f r : Bs) (hf : f.all isLet = true) (hr : ∀ c, r[0]? = some c → isLet c = false) : (f ++ r).takeWhile isLet = f ∧ (f ++ r).dropWhile isLet = r := by
  induction f with
  | nil =>
    cases r with
    | nil => exact ⟨rfl, rfl⟩
    | cons c r => have := hr c rfl; simp [this]
  | cons c f ih =>
    rw [List.all_cons, Bool.and_eq_true] at hf
    obtain ⟨h1, h2⟩ := ih hf.2
    simp [hf.1, h1, h2]

theorem letters_ok : ∀ n : Fin 64, (letters n.1).all isLet = true ∧ colOf (letters n.1) = n.1 + 1 ∧ letters n.1 ≠ [] ∧ (letters n.1).length ≤ 3 ∧ (letters n.1)[0]? ≠ some 36 := by decide

theorem dec_len4 (u : Nat) (h : u ≤ 1000) : (Lib.decDigits u).length ≤ 7 := by
  rw [Lib.decDigits]; split
  · simp
  · rw [Lib.decDigits]; split
    · simp
    · rw [Lib.decDigits]; split
      · simp
      · rw [Lib.decDigits]; split
        · simp
        · omega

theorem dec_first (u : Nat) (h : 1 ≤ u) : ∃ c, (Lib.decDigits u)[0]? = some c ∧ c ≠ 48 ∧ isDig c = true := by
  induction u using Nat.strongRecOn with
  | _ u ih =>
    by_cases h1 : u < 10
    · rw [Lib.decDigits, dif_pos h1]
      refine ⟨_, rfl, ?_, ?_⟩
      · intro e
        have := congrArg UInt8.toNat e
        simp at this; omega
      · simp [isDig]; omega
    · obtain ⟨c, h2, h3, h4⟩ := ih (u / 10) (by omega) (by omega)
      rw [Lib.decDigits, dif_neg h1]
      refine ⟨c, ?_, h3, h4⟩
      rw [List.getElem?_append_left]
      · exact h2
      · exact (List.getElem?_eq_some_iff.1 h2).1

theorem tw_dig (l : Bs) (h : allDig l = true) : l.takeWhile isDig = l ∧ l.dropWhile isDig = [] := by
  have h1 := Dc.takeWhile_app l [] h (by simp)
  have h2 := Dc.dropWhile_app l [] h (by simp)
  rw [List.append_nil] at h1 h2
  exact ⟨h1, h2⟩

theorem isLet_dig {c : UInt8} (h : isDig c = true) : isLet c = false := by
  simp [isDig] at h
  simp [isLet]; omega

theorem print_parse (r : Rf) (h : right r = true) : parse (print r) = (r, 0) := by
  have hr := (right_iff r).1 h
  rw [print, if_pos h]
  obtain ⟨n, hn⟩ : ∃ n : Fin 64, n.1 = r.col.toNat := ⟨⟨r.col.toNat, by omega⟩, rfl⟩
  obtain ⟨L1, L2, L3, L4, L5⟩ := letters_ok n
  rw [hn] at L1 L2 L3 L4 L5
  obtain ⟨u, hu⟩ : ∃ u, u = (r.row + 1).toNat := ⟨_, rfl⟩
  obtain ⟨c, d1, d2, d3⟩ := dec_first u (by omega)
  obtain ⟨D1, D2, D3⟩ := Dc.decDigits_dig u
  have D4 := dec_len4 u (by omega)
  rw [← hu]
  obtain ⟨L, hL⟩ : ∃ L, L = letters r.col.toNat := ⟨_, rfl⟩
  rw [← hL] at L1 L2 L3 L4 L5 ⊢
  obtain ⟨D, hD⟩ : ∃ D, D = Lib.decDigits u := ⟨_, rfl⟩
  rw [← hD] at d1 D1 D2 D3 D4 ⊢
  have s1 := strip r.ac (L ++ (mark r.ar ++ D)) (by
    intro x hx
    cases L with
    | nil => exact absurd rfl L3
    | cons y L => intro e; apply L5; rw [← e]; exact hx)
  have s2 := tw_let L (mark r.ar ++ D) L1 (by
    intro x hx
    cases ha : r.ar with
    | true => rw [ha] at hx; simp [mark] at hx; rw [← hx]; decide
    | false => rw [ha] at hx; simp only [mark, Bool.false_eq_true, if_false, List.nil_append] at hx; rw [d1] at hx; rw [← Option.some.inj hx]; exact isLet_dig d3)
  have s3 := strip r.ar D (by
    intro x hx; rw [d1] at hx; rw [← Option.some.inj hx]; intro e; rw [e] at d3; revert d3; decide)
  have s4 := tw_dig D D1
  unfold parse
  simp only [s1.1, s1.2, s2.1, s2.2, s3.1, s3.2, s4.1, s4.2]
  rw [if_neg (by
    rintro (e | e | e | e | e | e)
    · exact e rfl
    · exact L3 e
    · omega
    · exact D3 e
    · omega
    · rw [d1] at e; exact d2 (Option.some.inj e))]
  have e1 : (⟨colOf L - 1, numOf D - 1, r.ac, r.ar⟩ : Rf) = r := by
    rw [L2, D2]
    have a1 : ((r.col.toNat : Int) + 1 - 1) = r.col := by omega
    have a2 : ((u : Int) - 1) = r.row := by omega
    rw [a1, a2]
  rw [e1, if_pos h]

theorem parse_nil : parse [] = (zero, 3) := by decide

theorem print_bad (r : Rf) (h : right r = false) : parse (print r) = (zero, 3) := by
  rw [print, if_neg (by rw [h]; simp)]; exact parse_nil

/-! ### What is read is written as it was, but in capital letters -/

theorem dec_numOf (l : Bs) (h : allDig l = true) (hne : l ≠ []) (h0 : l[0]? ≠ some 48) : 1 ≤ numOf l ∧ Lib.decDigits (numOf l).toNat = l := by
  obtain ⟨n, hn⟩ : ∃ n, n = l.length := ⟨_, rfl⟩
  induction n generalizing l with
  | zero => exact absurd (List.length_eq_zero_iff.1 hn.symm) hne
  | succ n ih =>
    obtain ⟨m, c, rfl⟩ : ∃ m c, l = m ++ [c] := ⟨l.dropLast, l.getLast hne, (List.dropLast_concat_getLast hne).symm⟩
    rw [allDig, List.all_append, Bool.and_eq_true] at h
    have hc : isDig c = true := by simpa using h.2
    simp [isDig] at hc
    rw [Dc.numOf_snoc]
    by_cases hm : m = []
    · subst hm
      have e : numOf [] = 0 := rfl
      rw [e]
      have hc0 : c ≠ 48 := by intro e; apply h0; rw [e]; rfl
      have : c.toNat ≠ 48 := fun e => hc0 (UInt8.toNat_inj.1 e)
      refine ⟨by omega, ?_⟩
      rw [Lib.decDigits, dif_pos (by omega)]
      simp only [List.nil_append, List.cons.injEq, and_true]
      apply UInt8.toNat_inj.1
      simp; omega
    · obtain ⟨h1, h2⟩ := ih m h.1 hm (by
        intro e; apply h0
        rw [List.getElem?_append_left (List.length_pos_iff.2 hm)]; exact e) (by simp at hn; omega)
      refine ⟨by omega, ?_⟩
      rw [Lib.decDigits, dif_neg (by omega)]
      have a1 : (10 * numOf m + ((c.toNat : Int) - 48)).toNat / 10 = (numOf m).toNat := by omega
      have a2 : (10 * numOf m + ((c.toNat : Int) - 48)).toNat % 10 = c.toNat - 48 := by omega
      rw [a1, a2, h2]
      congr 2
      apply UInt8.toNat_inj.1
      simp; omega

theorem letV_bd {c : UInt8} (h : isLet c = true) : 1 ≤ letV c ∧ letV c ≤ 26 := by
  simp [isLet] at h
  unfold letV; split <;> omega
theorem cap_let {c : UInt8} (h : isLet c = true) : (if 97 ≤ c.toNat ∧ c.toNat ≤ 122 then c - 32 else c) = UInt8.ofNat (64 + (letV c).toNat) := by
  simp [isLet] at h
  apply UInt8.toNat_inj.1
  unfold letV
  have := c.toNat_lt
  split
  · rw [if_pos (by omega)]
    rw [UInt8.toNat_sub_of_le _ _ (by simp [UInt8.le_iff_toNat_le]; omega)]
    simp; omega
  · rw [if_neg (by omega)]
    simp; omega

theorem letters_back (l : Bs) (h : l.all isLet = true) (hne : l ≠ []) (hl : l.length ≤ 3) (h64 : colOf l - 1 < 64) : 0 ≤ colOf l - 1 ∧ letters (colOf l - 1).toNat = capital l := by
  match l, h, hne, hl, h64 with
  | [], _, hne, _, _ => exact absurd rfl hne
  | [a], h, _, _, h64 =>
    have ha : isLet a = true := by simpa using h
    have b := letV_bd ha
    simp only [colOf, List.foldl] at h64 ⊢
    refine ⟨by omega, ?_⟩
    rw [letters, if_pos (by omega)]
    simp only [capital, List.map, cap_let ha]
    congr 2; omega
  | [a, b], h, _, _, h64 =>
    have ha : isLet a = true := by simp at h; exact h.1
    have hb : isLet b = true := by simp at h; exact h.2
    have b1 := letV_bd ha
    have b2 := letV_bd hb
    simp only [colOf, List.foldl] at h64 ⊢
    refine ⟨by omega, ?_⟩
    obtain ⟨x, hx⟩ : ∃ x : Nat, (x : Int) = letV a := ⟨(letV a).toNat, by omega⟩
    obtain ⟨y, hy⟩ : ∃ x : Nat, (x : Int) = letV b := ⟨(letV b).toNat, by omega⟩
    rw [letters, if_neg (by omega)]
    simp only [capital, List.map, cap_let ha, cap_let hb]
    have bx : 1 ≤ x ∧ 1 ≤ y ∧ y ≤ 26 := by omega
    rw [← hx, ← hy]
    clear hx hy h64 b1 b2
    have e1 : (26 * (26 * 0 + (x : Int)) + (y : Int) - 1).toNat / 26 = x := by omega
    have e2 : 65 + (26 * (26 * 0 + (x : Int)) + (y : Int) - 1).toNat % 26 = 64 + y := by omega
    rw [e1, e2, Int.toNat_natCast, Int.toNat_natCast]
  | [a, b, c], h, _, _, h64 =>
    have ha : isLet a = true := by simp at h; exact h.1
    have hb : isLet b = true := by simp at h; exact h.2.1
    have hc : isLet c = true := by simp at h; exact h.2.2
    have b1 := letV_bd ha
    have b2 := letV_bd hb
    have b3 := letV_bd hc
    simp only [colOf, List.foldl] at h64
    omega
  | a :: b :: c :: d :: t, _, _, hl, _ => simp at hl

theorem capital_app (a b : Bs) : capital (a ++ b) = capital a ++ capital b := by simp [capital]
theorem capital_dig (l : Bs) (h : allDig l = true) : capital l = l := by
  induction l with
  | nil => rfl
  | cons c l ih =>
    rw [allDig, List.all_cons, Bool.and_eq_true] at h
    have h1 := h.1
    simp [isDig] at h1
    have : capital (c :: l) = (if 97 ≤ c.toNat ∧ c.toNat ≤ 122 then c - 32 else c) :: capital l := rfl
    rw [this, ih h.2, if_neg (by omega)]
theorem capital_mark (b : Bool) : capital (mark b) = mark b := by cases b <;> decide

theorem unstrip (l : Bs) : l = mark (Lib.hasPrefix l [36]) ++ Lib.trimPrefix l [36] := by
  cases l with
  | nil => rfl
  | cons c l =>
    by_cases h : c = 36
    · subst h; simp [Lib.hasPrefix, Lib.trimPrefix, mark]
    · have e : Lib.hasPrefix (c :: l) [36] = false := by simp [Lib.hasPrefix, List.isPrefixOf]; exact fun e => h e.symm
      unfold Lib.trimPrefix
      simp [e, mark]

theorem parse_print (l : Bs) (r : Rf) (h : parse l = (r, 0)) : right r = true ∧ print r = capital l := by
  unfold parse at h
  simp only [] at h
  obtain ⟨s1, e1⟩ : ∃ s, s = Lib.trimPrefix l [36] := ⟨_, rfl⟩
  rw [← e1] at h
  obtain ⟨nm, e2⟩ : ∃ s, s = s1.takeWhile isLet := ⟨_, rfl⟩
  obtain ⟨s2, e3⟩ : ∃ s, s = s1.dropWhile isLet := ⟨_, rfl⟩
  rw [← e2, ← e3] at h
  obtain ⟨s3, e4⟩ : ∃ s, s = Lib.trimPrefix s2 [36] := ⟨_, rfl⟩
  rw [← e4] at h
  obtain ⟨rw', e5⟩ : ∃ s, s = s3.takeWhile isDig := ⟨_, rfl⟩
  obtain ⟨s4, e6⟩ : ∃ s, s = s3.dropWhile isDig := ⟨_, rfl⟩
  rw [← e5, ← e6] at h
  obtain ⟨ac, e7⟩ : ∃ s, s = Lib.hasPrefix l [36] := ⟨_, rfl⟩
  obtain ⟨ar, e8⟩ : ∃ s, s = Lib.hasPrefix s2 [36] := ⟨_, rfl⟩
  rw [← e7, ← e8] at h
  split at h
  · cases h
  · rename_i hn
    simp only [not_or, Decidable.not_not] at hn
    obtain ⟨n1, n2, n3, n4, n5, n6⟩ := hn
    split at h
    · rename_i hr
      obtain rfl := (Prod.mk.inj h).1
      refine ⟨hr, ?_⟩
      rw [print, if_pos hr]
      have hri := (right_iff _).1 hr
      simp only at hri ⊢
      have hl1 : nm.all isLet = true := by rw [e2]; exact List.all_takeWhile
      have hd1 : allDig rw' = true := by rw [e5]; exact List.all_takeWhile
      have a1 := letters_back nm hl1 n2 (by omega) hri.2.1
      have a2 := dec_numOf rw' hd1 n4 n6
      rw [a1.2, show (numOf rw' - 1 + 1) = numOf rw' by omega, a2.2]
      have k3 : s3 = rw' := by
        have := List.takeWhile_append_dropWhile (p := isDig) (l := s3)
        rw [← e5, ← e6, n1, List.append_nil] at this; exact this.symm
      have k2 : s2 = mark ar ++ rw' := by rw [e8, ← k3, e4]; exact unstrip s2
      have k1 : s1 = nm ++ s2 := by rw [e2, e3]; exact (List.takeWhile_append_dropWhile (p := isLet) (l := s1)).symm
      have k0 : l = mark ac ++ s1 := by rw [e7, e1]; exact unstrip l
      conv => rhs; rw [k0, k1, k2]
      rw [capital_app, capital_app, capital_app, capital_mark, capital_mark, capital_dig rw' hd1]
    · have := (Prod.mk.inj h).2
      exact absurd this (by decide)

theorem parse_cases (l : Bs) : (∃ r, parse l = (r, 0) ∧ right r = true) ∨ parse l = (zero, 3) ∨ parse l = (zero, 14) := by
  unfold parse
  simp only []
  split
  · exact .inr (.inl rfl)
  · split
    · rename_i h; exact .inl ⟨_, rfl, h⟩
    · exact .inr (.inr rfl)

/-! ### Numbers of cells -/

theorem index_bd (r : Rf) : -1 ≤ index r ∧ index r < 64000 := by
  unfold index; split
  · rename_i h; have := (right_iff r).1 h; omega
  · omega
theorem at_index (r : Rf) (h : right r = true) : at' (index r) = ⟨r.col, r.row, false, false⟩ := by
  have hr := (right_iff r).1 h
  rw [index, if_pos h, at', if_neg (by omega)]
  congr 1 <;> omega
theorem index_at (i : Int) (h : right (at' i) = true) : index (at' i) = i := by
  rw [index, if_pos h]
  unfold at' at h ⊢
  split
  · rename_i hi; rw [if_pos hi] at h; exact absurd h (by decide)
  · simp only; omega

/-! ### What is moved -/

theorem moved_back (r a : Rf) (c d : Int) (h : moved r c d = (a, true)) (hc : -1000 ≤ c ∧ c ≤ 1000) (hd : -1000 ≤ d ∧ d ≤ 1000) : moved a (-c) (-d) = (r, true) := by
  unfold moved at h
  split at h
  · rename_i hr
    split at h
    · rename_i ha
      obtain rfl := (Prod.mk.inj h).1
      have r1 := (right_iff _).1 hr
      have r2 := (right_iff _).1 ha
      simp only at r2
      rw [moved, if_pos ha]
      have m1 : mv (mv r.col c 64 r.ac) (-c) 64 r.ac = r.col := by
        unfold mv at r2 ⊢
        cases h1 : r.ac with
        | true => simp
        | false =>
          rw [h1] at r2
          simp only [Bool.false_eq_true, if_false] at r2 ⊢
          split at r2
          · omega
          · rename_i hh
            rw [if_neg hh, if_neg (by omega)]; omega
      have m2 : mv (mv r.row d 1000 r.ar) (-d) 1000 r.ar = r.row := by
        unfold mv at r2 ⊢
        cases h1 : r.ar with
        | true => simp
        | false =>
          rw [h1] at r2
          simp only [Bool.false_eq_true, if_false] at r2 ⊢
          by_cases hh : d < -r.row ∨ 1000 - r.row ≤ d
          · rw [if_pos hh] at r2; omega
          · rw [if_neg hh, if_neg (by omega)]; omega
      simp only [m1, m2]
      rw [if_pos hr]
    · cases h
  · cases h

theorem moved_ok (r a : Rf) (c d : Int) (h : moved r c d = (a, true)) : a.ac = r.ac ∧ a.ar = r.ar ∧ (r.ac = true → a.col = r.col) ∧ (r.ar = true → a.row = r.row) := by
  unfold moved at h
  split at h
  · split at h
    · obtain rfl := (Prod.mk.inj h).1
      refine ⟨rfl, rfl, fun e => ?_, fun e => ?_⟩ <;> simp [mv, e]
    · cases h
  · cases h
theorem moved_no (r a : Rf) (c d : Int) (h : moved r c d = (a, false)) : a = zero := by
  unfold moved at h
  split at h
  · split at h
    · cases h
    · exact (Prod.mk.inj h).1.symm
  · exact (Prod.mk.inj h).1.symm
end Go.Proofs.YtbbeeglfgnabmaaDoor.Ce
