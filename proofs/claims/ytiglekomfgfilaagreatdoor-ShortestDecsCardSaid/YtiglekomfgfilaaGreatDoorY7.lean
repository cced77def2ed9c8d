/- Plain Lean: the number that a decimal is; which of two is greater. -/
import Derived.Test.YtiglekomfgfilaaGreatDoorY6
import Derived.Lib.AtoiAll
import Derived.Lib.IndexBytes
import Derived.Lib.ItoaNum
namespace Go.Proofs.YtiglekomfgfilaaGreatDoor.Dc
set_option linter.all false
def nv (l : Bs) : Nat := l.foldl (fun a c => 10 * a + (c.toNat - 48)) 0
theorem nv_foldl (l : Bs) : ∀ a : Nat, l.foldl (fun a c => 10 * a + (c.toNat - 48)) a = a * 10 ^ l.length + nv l := by
  induction l with
  | nil => intro a; simp [nv]
  | cons c l ih =>
    intro a
    have e : nv (c :: l) = (10 * 0 + (c.toNat - 48)) * 10 ^ l.length + nv l := by rw [nv, List.foldl_cons, ih]
    rw [List.foldl_cons, ih, e, List.length_cons, Nat.pow_succ, Nat.mul_zero, Nat.zero_add, Nat.add_mul, Nat.add_assoc]
    congr 1
    rw [Nat.mul_comm 10 a, Nat.mul_assoc, Nat.mul_comm 10]
theorem nv_nil : nv [] = 0 := rfl
theorem nv_cons (c : UInt8) (l : Bs) : nv (c :: l) = (c.toNat - 48) * 10 ^ l.length + nv l := by
  rw [nv, List.foldl_cons, nv_foldl]; simp
theorem nv_app (a b : Bs) : nv (a ++ b) = nv a * 10 ^ b.length + nv b := by
  rw [nv, List.foldl_append, nv_foldl]; rfl
theorem dig_cons {c : UInt8} {l : Bs} (h : allDig (c :: l) = true) : (48 ≤ c.toNat ∧ c.toNat ≤ 57) ∧ allDig l = true := by
  refine ⟨dig_mem h (List.mem_cons_self ..), ?_⟩
  rw [allDig, List.all_cons, Bool.and_eq_true] at h; exact h.2
theorem nv_lt {l : Bs} (h : allDig l = true) : nv l < 10 ^ l.length := by
  induction l with
  | nil => simp [nv]
  | cons c l ih =>
    obtain ⟨hc, hl⟩ := dig_cons h
    have := ih hl
    rw [nv_cons, List.length_cons, Nat.pow_succ]
    have : (c.toNat - 48) * 10 ^ l.length ≤ 9 * 10 ^ l.length := Nat.mul_le_mul_right _ (by omega)
    omega
theorem nv_first {l : Bs} (h : allDig l = true) (hne : l ≠ []) (h0 : l[0]? ≠ some 48) : 10 ^ (l.length - 1) ≤ nv l := by
  cases l with
  | nil => exact absurd rfl hne
  | cons c l =>
    obtain ⟨hc, hl⟩ := dig_cons h
    have : c.toNat ≠ 48 := by intro e; apply h0; simp; exact UInt8.toNat_inj.1 (by simpa using e)
    rw [nv_cons, List.length_cons, Nat.add_sub_cancel]
    have : 1 * 10 ^ l.length ≤ (c.toNat - 48) * 10 ^ l.length := Nat.mul_le_mul_right _ (by omega)
    omega
theorem nv_last {l : Bs} (h : allDig l = true) (hne : l ≠ []) (h0 : l[l.length - 1]? ≠ some 48) : 0 < nv l := by
  have hs := List.dropLast_concat_getLast hne
  have hg : l[l.length - 1]? = some (l.getLast hne) := by
    rw [← List.getLast?_eq_getElem?, List.getLast?_eq_some_getLast hne]
  have hd := dig_mem h (List.getLast_mem hne)
  have : (l.getLast hne).toNat ≠ 48 := by intro e; apply h0; rw [hg]; exact congrArg some (UInt8.toNat_inj.1 (by simpa using e))
  rw [← hs, nv_app, nv_cons, nv_nil]
  simp; omega
def sg (a b : Nat) : Int := if a < b then -1 else if b < a then 1 else 0
theorem sg_lt {a b : Nat} (h : a < b) : sg a b = -1 := by rw [sg, if_pos h]
theorem sg_gt {a b : Nat} (h : b < a) : sg a b = 1 := by rw [sg, if_neg (by omega), if_pos h]
theorem sg_eq {a b : Nat} (h : a = b) : sg a b = 0 := by rw [sg, if_neg (by omega), if_neg (by omega)]
theorem sg_congr {a b c d : Nat} (h1 : a < b ↔ c < d) (h2 : b < a ↔ d < c) : sg a b = sg c d := by
  unfold sg; simp only [h1, h2]
def endOk (l : Bs) : Prop := l ≠ [] → l[l.length - 1]? ≠ some 48
theorem endOk_tail {c : UInt8} {l : Bs} (h : endOk (c :: l)) : endOk l := by
  intro hne
  have := h (by simp)
  cases l with
  | nil => exact absurd rfl hne
  | cons d l => simpa using this
theorem compare_nv (a : Bs) : ∀ (b : Bs) (N : Nat), allDig a = true → allDig b = true → endOk a → endOk b → a.length ≤ N → b.length ≤ N →
    Lib.compareBytes a b = sg (nv a * 10 ^ (N - a.length)) (nv b * 10 ^ (N - b.length)) := by
  induction a with
  | nil =>
    intro b N _ hb _ eb _ hlb
    cases b with
    | nil => rw [sg_eq rfl]; rfl
    | cons d b =>
      have := nv_last hb (by simp) (eb (by simp))
      rw [sg_lt]; rfl
      rw [nv_nil, Nat.zero_mul]
      exact Nat.mul_pos this (Nat.pos_of_ne_zero (by simp))
  | cons c a ih =>
    intro b N ha hb ea eb hla hlb
    cases b with
    | nil =>
      have := nv_last ha (by simp) (ea (by simp))
      rw [sg_gt]; rfl
      rw [nv_nil, Nat.zero_mul]
      exact Nat.mul_pos this (Nat.pos_of_ne_zero (by simp))
    | cons d b =>
      obtain ⟨hc, ha'⟩ := dig_cons ha
      obtain ⟨hd, hb'⟩ := dig_cons hb
      rw [List.length_cons] at hla hlb
      have key : ∀ (c : UInt8) (l : Bs), allDig l = true → l.length + 1 ≤ N → nv (c :: l) * 10 ^ (N - (l.length + 1)) = (c.toNat - 48) * 10 ^ (N - 1) + nv l * 10 ^ (N - 1 - l.length) ∧ nv l * 10 ^ (N - 1 - l.length) < 10 ^ (N - 1) := by
        intro c l hl hN
        have e : 10 ^ (N - 1) = 10 ^ l.length * 10 ^ (N - 1 - l.length) := by rw [← Nat.pow_add]; congr 1; omega
        refine ⟨?_, ?_⟩
        · rw [nv_cons, Nat.add_mul, show N - (l.length + 1) = N - 1 - l.length by omega, e, Nat.mul_assoc]
        · rw [e]; exact Nat.mul_lt_mul_of_pos_right (nv_lt hl) (Nat.pos_of_ne_zero (by simp))
      obtain ⟨k1, k2⟩ := key c a ha' hla
      obtain ⟨k3, k4⟩ := key d b hb' hlb
      rw [List.length_cons, List.length_cons, k1, k3, Lib.compareBytes]
      have hlt : ∀ x y : Nat, x < y → x * 10 ^ (N - 1) + 10 ^ (N - 1) ≤ y * 10 ^ (N - 1) := fun x y h => by
        have : (x + 1) * 10 ^ (N - 1) ≤ y * 10 ^ (N - 1) := Nat.mul_le_mul_right _ h
        rw [Nat.add_mul] at this; omega
      by_cases h1 : c < d
      · rw [if_pos h1, sg_lt]
        have h1' : c.toNat < d.toNat := h1
        have := hlt (c.toNat - 48) (d.toNat - 48) (by omega)
        omega
      · rw [if_neg h1]
        by_cases h2 : d < c
        · rw [if_pos h2, sg_gt]
          have h2' : d.toNat < c.toNat := h2
          have := hlt (d.toNat - 48) (c.toNat - 48) (by omega)
          omega
        · rw [if_neg h2]
          have : c.toNat = d.toNat := by
            have h1' : ¬ c.toNat < d.toNat := h1
            have h2' : ¬ d.toNat < c.toNat := h2
            omega
          rw [ih b (N - 1) ha' hb' (endOk_tail ea) (endOk_tail eb) (by omega) (by omega), this]
          exact sg_congr (by omega) (by omega)
def lift : Nat := 200000
def vv (l : Bs) (x : Int) : Nat := nv l * 10 ^ (x + lift).toNat
def sizeC (la : Bs) (xa : Int) (lb : Bs) (xb : Int) : Int :=
  if la = [] ∨ lb = [] then sg la.length lb.length
  else if (la.length : Int) + xa < lb.length + xb then -1
  else if (lb.length : Int) + xb < la.length + xa then 1
  else Lib.compareBytes la lb
theorem right_endOk {l : Bs} {x : Int} (h : right l x = true) : endOk l := by
  intro hne
  rw [right, if_neg hne] at h
  simp only [Bool.and_eq_true, bne_iff_ne] at h
  exact h.2.2.2.2.2
theorem right_head {l : Bs} {x : Int} (h : right l x = true) (hne : l ≠ []) : l[0]? ≠ some 48 := by
  rw [right, if_neg hne] at h
  simp only [Bool.and_eq_true, bne_iff_ne] at h
  exact h.2.2.2.2.1
theorem vv_bounds {l : Bs} {x : Int} (h : right l x = true) (hne : l ≠ []) : 10 ^ ((l.length : Int) + x - 1 + lift).toNat ≤ vv l x ∧ vv l x < 10 ^ ((l.length : Int) + x + lift).toNat := by
  have hx := right_exp h
  have hp : 0 < l.length := List.length_pos_iff.2 hne
  have h1 := nv_first (right_dig h) hne (right_head h hne)
  have h2 := nv_lt (right_dig h)
  unfold vv lift
  constructor
  · rw [show ((l.length : Int) + x - 1 + (200000 : Nat)).toNat = (l.length - 1) + (x + (200000 : Nat)).toNat by omega, Nat.pow_add]
    exact Nat.mul_le_mul_right _ h1
  · rw [show ((l.length : Int) + x + (200000 : Nat)).toNat = l.length + (x + (200000 : Nat)).toNat by omega, Nat.pow_add]
    exact Nat.mul_lt_mul_of_pos_right h2 (Nat.pos_of_ne_zero (by simp))
theorem vv_zero {x : Int} : vv [] x = 0 := by simp [vv, nv_nil]
theorem vv_pos {l : Bs} {x : Int} (h : right l x = true) (hne : l ≠ []) : 0 < vv l x :=
  Nat.lt_of_lt_of_le (Nat.pos_of_ne_zero (by simp)) (vv_bounds h hne).1
theorem sizeC_vv {la lb : Bs} {xa xb : Int} (ha : right la xa = true) (hb : right lb xb = true) : sizeC la xa lb xb = sg (vv la xa) (vv lb xb) := by
  have hxa := right_exp ha
  have hxb := right_exp hb
  unfold sizeC
  by_cases ea : la = []
  · rw [if_pos (.inl ea), ea, vv_zero]
    by_cases eb : lb = []
    · rw [eb, vv_zero]; rfl
    · rw [sg_lt (vv_pos hb eb), sg_lt (by simpa using List.length_pos_iff.2 eb)]
  · by_cases eb : lb = []
    · rw [if_pos (.inr eb), eb, vv_zero, sg_gt (vv_pos ha ea), sg_gt (by simpa using List.length_pos_iff.2 ea)]
    · rw [if_neg (by rintro (e | e); exact ea e; exact eb e)]
      have b1 := vv_bounds ha ea
      have b2 := vv_bounds hb eb
      have hpa : 0 < la.length := List.length_pos_iff.2 ea
      have hpb : 0 < lb.length := List.length_pos_iff.2 eb
      by_cases h1 : (la.length : Int) + xa < lb.length + xb
      · rw [if_pos h1, sg_lt]
        refine Nat.lt_of_lt_of_le b1.2 (Nat.le_trans (Nat.pow_le_pow_right (by decide) ?_) b2.1)
        unfold lift; omega
      · rw [if_neg h1]
        by_cases h2 : (lb.length : Int) + xb < la.length + xa
        · rw [if_pos h2, sg_gt]
          refine Nat.lt_of_lt_of_le b2.2 (Nat.le_trans (Nat.pow_le_pow_right (by decide) ?_) b1.1)
          unfold lift; omega
        · rw [if_neg h2]
          obtain ⟨P, hP⟩ : ∃ P : Nat, P = ((la.length : Int) + xa + lift).toNat := ⟨_, rfl⟩
          have e1 : (xa + lift).toNat = P - la.length := by rw [hP]; unfold lift; omega
          have e2 : (xb + lift).toNat = P - lb.length := by rw [hP]; unfold lift; omega
          unfold vv
          rw [e1, e2]
          exact compare_nv la lb P (right_dig ha) (right_dig hb) (right_endOk ha) (right_endOk hb) (by rw [hP]; unfold lift; omega) (by rw [hP]; unfold lift; omega)
theorem compareBytes_zero : ∀ {a b : Bs}, Lib.compareBytes a b = 0 → a = b
  | [], [], _ => rfl
  | [], _ :: _, h => by simp [Lib.compareBytes] at h
  | _ :: _, [], h => by simp [Lib.compareBytes] at h
  | a :: xs, b :: ys, h => by
    rw [Lib.compareBytes] at h
    split at h
    · cases h
    · split at h
      · cases h
      · rename_i h1 h2
        have : a = b := UInt8.toNat_inj.1 (by
          have h1' : ¬ a.toNat < b.toNat := h1
          have h2' : ¬ b.toNat < a.toNat := h2
          omega)
        rw [this, compareBytes_zero h]
theorem sg_zero {a b : Nat} (h : sg a b = 0) : a = b := by
  unfold sg at h
  split at h
  · cases h
  · split at h
    · cases h
    · omega
theorem vv_inj {la lb : Bs} {xa xb : Int} (ha : right la xa = true) (hb : right lb xb = true) (h : vv la xa = vv lb xb) : la = lb ∧ xa = xb := by
  have h1 := sizeC_vv ha hb
  rw [sg_eq h] at h1
  unfold sizeC at h1
  split at h1
  · rename_i e
    have h2 := sg_zero h1
    have e1 : la = [] := by
      rcases e with e | e
      · exact e
      · rw [e] at h2; simpa using h2
    have e2 : lb = [] := by rw [e1] at h2; exact List.length_eq_zero_iff.1 h2.symm
    subst e1 e2
    have a0 : xa = 0 := by simpa [right] using ha
    have b0 : xb = 0 := by simpa [right] using hb
    exact ⟨rfl, by omega⟩
  · split at h1
    · cases h1
    · split at h1
      · cases h1
      · have := compareBytes_zero h1
        subst this
        exact ⟨rfl, by omega⟩
def sv (n : Bool) (l : Bs) (x : Int) : Int := if n then -(vv l x : Int) else vv l x
end Go.Proofs.YtiglekomfgfilaaGreatDoor.Dc

/- Plain Lean: digits and one, place for place from behind. -/
namespace Go.Proofs.YtiglekomfgfilaaGreatDoor.Dc
set_option linter.all false
theorem rep_replicate (m : Nat) : Lib.repeatL [48] m = List.replicate m 48 := by
  induction m with
  | zero => rfl
  | succ m ih => rw [Lib.repeatL, ih, List.replicate_succ]; rfl
def rowAt (K : Bs) (j : Nat) : Bs := K.take j ++ List.replicate (K.length - j) 48
theorem rowAt_len (K : Bs) (j : Nat) (h : j ≤ K.length) : (rowAt K j).length = K.length := by simp [rowAt]; omega
theorem rowAt_all (K : Bs) : rowAt K K.length = K := by simp [rowAt]
theorem rowAt_get (K : Bs) (j i : Nat) (h : j ≤ K.length) (hi : i < j) : (rowAt K j)[i]? = K[i]? := by
  rw [rowAt, List.getElem?_append_left (by rw [List.length_take]; omega), List.getElem?_take_of_lt hi]
theorem rowAt_inc (K : Bs) (j : Nat) (h : 0 < j) (hj : j ≤ K.length) (c : UInt8) : (rowAt K j).set (j - 1) c = K.take (j - 1) ++ [c] ++ List.replicate (K.length - j) 48 := by
  have hs : K.take j = K.take (j - 1) ++ [K[j - 1]'(by omega)] := by
    conv => lhs; rw [show j = j - 1 + 1 by omega]
    rw [List.take_succ_eq_append_getElem (by omega)]
  have hl : (K.take (j - 1)).length = j - 1 := by rw [List.length_take]; omega
  rw [rowAt, hs, List.append_assoc, List.set_append_right _ _ (by omega), hl, Nat.sub_self]
  simp
theorem rowAt_set (K : Bs) (j : Nat) (h : 0 < j) (hj : j ≤ K.length) : (rowAt K j).set (j - 1) 48 = rowAt K (j - 1) := by
  rw [rowAt_inc K j h hj, rowAt, List.append_assoc, show K.length - (j - 1) = K.length - j + 1 by omega, List.replicate_succ]
  rfl
theorem no9_at (K : Bs) (j : Nat) (h : ∀ c ∈ K.drop j, c = 57) (h2 : ∀ c, (K.take j).getLast? = some c → c ≠ 57) : no9 K = K.take j := by
  rw [no9, Lib.trimRightB]
  conv => lhs; rw [← List.take_append_drop j K]
  rw [List.reverse_append, List.dropWhile_append_of_pos (fun c hc => by rw [h c (List.mem_reverse.1 hc)]; rfl)]
  cases hr : (K.take j).reverse with
  | nil => rw [List.dropWhile_nil]; have := List.reverse_eq_nil_iff.1 hr; rw [this]; rfl
  | cons c r =>
    have hh : (K.take j).getLast? = some c := by rw [List.getLast?_eq_head?_reverse, hr]; rfl
    rw [List.dropWhile_cons_of_neg (by simpa using h2 c hh), ← hr, List.reverse_reverse]
theorem more_nines (K : Bs) (h : ∀ c ∈ K, c = 57) : more K = 49 :: List.replicate K.length 48 := by
  have h1 := no9_at K 0 h (by simp)
  rw [List.take_zero] at h1
  rw [more_nil h1, h1, rep_replicate]; rfl
theorem more_at (K : Bs) (j : Nat) (h0 : 0 < j) (hj : j ≤ K.length) (h : ∀ c ∈ K.drop j, c = 57) (c : UInt8) (hc : K[j - 1]? = some c) (hne : c ≠ 57) : more K = (rowAt K j).set (j - 1) (c + 1) := by
  have hlast : (K.take j).getLast? = some c := by
    rw [List.getLast?_eq_getElem?, List.length_take, Nat.min_eq_left hj, List.getElem?_take_of_lt (by omega), hc]
  have h1 := no9_at K j h (fun d hd => by rw [hlast] at hd; rw [← Option.some.inj hd]; exact hne)
  have h2 : (no9 K).getLast? = some c := by rw [h1]; exact hlast
  rw [more_cons h2, h1, rowAt_inc K j h0 hj, rep_replicate, List.length_take, Nat.min_eq_left hj, List.dropLast_eq_take, List.length_take, Nat.min_eq_left hj, List.take_take, Nat.min_eq_left (by omega)]
theorem half_cases (c : UInt8) (t : Bs) : half (c :: t) = if 53 < c.toNat then 1 else if c.toNat = 53 then (if t = [] then 0 else 1) else -1 := by
  have e : ∀ a b : UInt8, (a < b) = (a.toNat < b.toNat) := fun a b => rfl
  simp only [half, Lib.compareBytes, e]
  have h53 : (53 : UInt8).toNat = 53 := rfl
  rw [h53]
  by_cases h1 : 53 < c.toNat
  · rw [if_pos h1, if_neg (by omega), if_pos h1]
  · rw [if_neg h1]
    by_cases h2 : c.toNat = 53
    · rw [if_pos h2, if_neg (by omega), if_neg (by omega)]
      cases t with
      | nil => rfl
      | cons d t => rfl
    · rw [if_neg h2, if_pos (by omega), if_neg h1]
end Go.Proofs.YtiglekomfgfilaaGreatDoor.Dc

/- Plain Lean: a text that is read as a decimal. -/
namespace Go.Proofs.YtiglekomfgfilaaGreatDoor.Dc
set_option linter.all false
def numOf (l : Bs) : Int := l.foldl (fun a c => 10 * a + ((c.toNat : Int) - 48)) 0
def tail (neg : Bool) (ds : Bs) (places : Nat) (r : Bs) : Res :=
  match r with
  | [] => mk neg ds (-places)
  | c :: t =>
    if c = 101 ∨ c = 69 then
      let t1 := match t with | d :: t' => if d = 43 ∨ d = 45 then t' else t | [] => []
      let n := t1.takeWhile isDig
      if n = [] ∨ 9 < n.length ∨ t1.dropWhile isDig ≠ [] then ⟨false, [], 0, 3⟩
      else mk neg ds ((if t[0]? = some 45 then - numOf n else numOf n) - places)
    else ⟨false, [], 0, 3⟩
def parse (l : Bs) : Res :=
  let s1 := Lib.trimPrefix l [45]
  let f := s1.takeWhile isDig
  let s2 := s1.dropWhile isDig
  let g := if Lib.hasPrefix s2 [46] then (Lib.trimPrefix s2 [46]).takeWhile isDig else []
  let s4 := if Lib.hasPrefix s2 [46] then (Lib.trimPrefix s2 [46]).dropWhile isDig else s2
  if f ++ g = [] then ⟨false, [], 0, 3⟩ else tail (Lib.hasPrefix l [45]) (f ++ g) g.length s4
theorem parseUint_digs (l : Bs) : ∀ (a : Nat), allDig l = true → a * 10 ^ l.length + 10 ^ l.length ≤ 1000000000000000000 → ∃ u : Nat, Lib.parseUint10 a l = .ok u ∧ (u : Int) = l.foldl (fun (a : Int) c => 10 * a + ((c.toNat : Int) - 48)) (a : Int) ∧ u < a * 10 ^ l.length + 10 ^ l.length := by
  induction l with
  | nil => intro a _ _; exact ⟨a, rfl, rfl, by simp⟩
  | cons c l ih =>
    intro a hd hb
    have hc := dig_mem hd (List.mem_cons_self (a := c) (l := l))
    have hd' : allDig l = true := by rw [allDig, List.all_cons, Bool.and_eq_true] at hd; exact hd.2
    have hp : 1 ≤ 10 ^ l.length := Nat.one_le_pow _ _ (by decide)
    rw [List.length_cons, Nat.pow_succ] at hb
    have hb2 : a * (10 ^ l.length * 10) = (a * 10) * 10 ^ l.length := by rw [Nat.mul_comm (10 ^ l.length) 10, Nat.mul_assoc]
    have hstep : (a * 10 + (c.toNat - 48)) * 10 ^ l.length + 10 ^ l.length ≤ a * (10 ^ l.length * 10) + 10 ^ l.length * 10 := by
      rw [hb2, Nat.add_mul]
      have : (c.toNat - 48) * 10 ^ l.length ≤ 9 * 10 ^ l.length := Nat.mul_le_mul_right _ (by omega)
      omega
    obtain ⟨u, h1, h2, h3⟩ := ih (a * 10 + (c.toNat - 48)) hd' (by omega)
    have ha : a ≤ 100000000000000000 := by
      have : a * 10 ≤ a * 10 * 10 ^ l.length := Nat.le_mul_of_pos_right _ hp
      omega
    refine ⟨u, ?_, ?_, by rw [List.length_cons, Nat.pow_succ]; omega⟩
    · rw [Lib.parseUint10, if_pos ⟨hc.1, hc.2⟩, if_neg (by omega), if_neg (by omega), h1]
    · rw [List.foldl_cons, h2]
      congr 1
      omega
theorem atoi_digs (l : Bs) (hd : allDig l = true) (hne : l ≠ []) (hl : l.length ≤ 9) : Lib.atoiAll l = .ok (numOf l) ∧ 0 ≤ numOf l ∧ numOf l < 1000000000 := by
  obtain ⟨u, h1, h2, h3⟩ := parseUint_digs l 0 hd (by
    have : 10 ^ l.length ≤ 10 ^ 9 := Nat.pow_le_pow_right (by decide) hl
    omega)
  have h4 : 10 ^ l.length ≤ 10 ^ 9 := Nat.pow_le_pow_right (by decide) hl
  have hn : numOf l = u := h2.symm
  rw [hn]
  refine ⟨?_, by omega, by omega⟩
  cases l with
  | nil => exact absurd rfl hne
  | cons c r =>
    have hc := dig_mem hd (List.mem_cons_self (a := c) (l := r))
    have h43 : ¬ (c.toNat = 43 ∨ c.toNat = 45) := by omega
    have h45 : ¬ c.toNat = 45 := by omega
    have h5 : Lib.parseMag (if c.toNat = 43 ∨ c.toNat = 45 then r else c :: r) = .ok u := by
      rw [if_neg h43, Lib.parseMag, if_neg (by simp), h1]
    unfold Lib.atoiAll
    simp only []
    rw [h5]
    simp [h45]; omega
def bad : Res := ⟨false, [], 0, 3⟩
theorem cons_of_bytes (s : ByteArray) (h : 0 < s.size) : s.data.toList = s[0] :: (s.extract 1 s.size).data.toList := by
  rw [Lib.extract_to_end]
  have h1 := get?_bytes s 0 h
  cases e : s.data.toList with
  | nil => rw [e] at h1; cases h1
  | cons a l => rw [e] at h1; simp at h1; rw [← h1]; rfl
theorem nil_of_bytes (s : ByteArray) (h : s.size = 0) : s.data.toList = [] := List.length_eq_zero_iff.1 (by simpa using h)
theorem ne_nil_of_bytes (s : ByteArray) (h : 0 < s.size) : s.data.toList ≠ [] := by rw [cons_of_bytes s h]; simp
theorem tail_nil (neg : Bool) (ds : Bs) (k : Nat) (s : ByteArray) (h : s.size = 0) : tail neg ds k s.data.toList = mk neg ds (-k) := by rw [nil_of_bytes s h]; rfl
theorem tail_bad (neg : Bool) (ds : Bs) (k : Nat) (s : ByteArray) (h : 0 < s.size) (h1 : ¬ (s[0].toNat : Int) = 101) (h2 : ¬ (s[0].toNat : Int) = 69) : tail neg ds k s.data.toList = bad := by
  rw [cons_of_bytes s h]
  unfold tail
  simp only []
  rw [if_neg]; · rfl
  rintro (e | e) <;> rw [e] at h1 h2 <;> simp at h1 h2
def unsign (t : Bs) : Bs := match t with | d :: t' => if d = 43 ∨ d = 45 then t' else t | [] => []
theorem unsign_sign (t : ByteArray) (h : 0 < t.size) (h1 : (t[0].toNat : Int) = 43 ∨ (t[0].toNat : Int) = 45) : unsign t.data.toList = (t.extract 1 t.size).data.toList := by
  rw [cons_of_bytes t h]
  unfold unsign
  simp only []
  rw [if_pos]
  rcases h1 with e | e
  · exact .inl (u8_of_int (by simpa using e))
  · exact .inr (u8_of_int (by simpa using e))
theorem unsign_none (t : ByteArray) (h1 : ∀ h : 0 < t.size, ¬ ((t[0].toNat : Int) = 43 ∨ (t[0].toNat : Int) = 45)) : unsign t.data.toList = t.data.toList := by
  by_cases h : 0 < t.size
  · have h2 := h1 h
    rw [cons_of_bytes t h]
    unfold unsign
    simp only []
    rw [if_neg]
    rintro (e | e) <;> rw [e] at h2 <;> simp at h2
  · rw [nil_of_bytes t (by omega)]; rfl
theorem tail_exp (neg : Bool) (ds : Bs) (k : Nat) (s t : ByteArray) (h : 0 < s.size) (h1 : (s[0].toNat : Int) = 101 ∨ (s[0].toNat : Int) = 69) (ht : t = s.extract 1 s.size) :
    tail neg ds k s.data.toList = if (unsign t.data.toList).takeWhile isDig = [] ∨ 9 < ((unsign t.data.toList).takeWhile isDig).length ∨ (unsign t.data.toList).dropWhile isDig ≠ [] then bad
      else mk neg ds ((if t.data.toList[0]? = some 45 then - numOf ((unsign t.data.toList).takeWhile isDig) else numOf ((unsign t.data.toList).takeWhile isDig)) - k) := by
  rw [cons_of_bytes s h, ← ht]
  have hc : s[0] = 101 ∨ s[0] = 69 := by
    rcases h1 with e | e
    · exact .inl (u8_of_int (by simpa using e))
    · exact .inr (u8_of_int (by simpa using e))
  show (if s[0] = 101 ∨ s[0] = 69 then _ else _) = _
  rw [if_pos hc]
  rfl
theorem tail_exp_bad (neg : Bool) (ds : Bs) (k : Nat) (s t t1 n q : ByteArray) (h : 0 < s.size) (h1 : (s[0].toNat : Int) = 101 ∨ (s[0].toNat : Int) = 69) (ht : t = s.extract 1 s.size)
    (hu : unsign t.data.toList = t1.data.toList) (hn : n.data.toList = t1.data.toList.takeWhile isDig) (hq : q.data.toList = t1.data.toList.dropWhile isDig) (hb : n.size = 0 ∨ 9 < n.size ∨ 0 < q.size) :
    tail neg ds k s.data.toList = bad := by
  rw [tail_exp neg ds k s t h h1 ht, hu, ← hn, ← hq, if_pos]
  rcases hb with e | e | e
  · exact .inl (nil_of_bytes n e)
  · exact .inr (.inl (by simpa using e))
  · exact .inr (.inr (ne_nil_of_bytes q e))
theorem tail_exp_ok (neg : Bool) (ds : Bs) (k : Nat) (s t t1 n q : ByteArray) (h : 0 < s.size) (h1 : (s[0].toNat : Int) = 101 ∨ (s[0].toNat : Int) = 69) (ht : t = s.extract 1 s.size)
    (hu : unsign t.data.toList = t1.data.toList) (hn : n.data.toList = t1.data.toList.takeWhile isDig) (hq : q.data.toList = t1.data.toList.dropWhile isDig) (hb : 0 < n.size ∧ n.size ≤ 9 ∧ q.size = 0) (hts : 1 < s.size) :
    tail neg ds k s.data.toList = mk neg ds ((if (s[1].toNat : Int) = 45 then - numOf n.data.toList else numOf n.data.toList) - k) := by
  have hlen : n.data.toList.length = n.size := by simp
  have h0 : t.data.toList[0]? = some s[1] := by
    rw [ht, Lib.extract_to_end, List.getElem?_drop, get?_bytes s 1 hts]
  have h45 : (s[1] = 45) = ((s[1].toNat : Int) = 45) := by
    apply propext
    exact ⟨fun e => by rw [e]; rfl, fun e => u8_of_int (by simpa using e)⟩
  rw [tail_exp neg ds k s t h h1 ht, hu, ← hn, ← hq, if_neg, h0]
  · simp only [Option.some.injEq, h45]
  · rintro (e | e | e)
    · exact ne_nil_of_bytes n hb.1 e
    · omega
    · exact e (nil_of_bytes q hb.2.2)
theorem trimPrefix_len (l p : Bs) : (Lib.trimPrefix l p).length ≤ l.length := by
  rw [Lib.trimPrefix]
  split
  · rw [List.length_drop]; omega
  · exact Nat.le_refl _
theorem ite_val (f g : Bs) (a b : Res) : (if f ++ g = [] then a else b).val = if f.length + g.length = 0 then a.val else b.val := by
  have h : (f ++ g = []) ↔ (f.length + g.length = 0) := by
    rw [← List.length_append, List.length_eq_zero_iff]
  by_cases e : f ++ g = []
  · rw [if_pos e, if_pos (h.1 e)]
  · rw [if_neg e, if_neg (fun x => e (h.2 x))]
theorem parse_dot (l : Bs) (h : Lib.hasPrefix ((Lib.trimPrefix l [45]).dropWhile isDig) [46] = true) : (parse l).val =
    if ((Lib.trimPrefix l [45]).takeWhile isDig).length + ((Lib.trimPrefix ((Lib.trimPrefix l [45]).dropWhile isDig) [46]).takeWhile isDig).length = 0 then (⟨false, [], 0, 3⟩ : Res).val
    else (tail (Lib.hasPrefix l [45]) ((Lib.trimPrefix l [45]).takeWhile isDig ++ (Lib.trimPrefix ((Lib.trimPrefix l [45]).dropWhile isDig) [46]).takeWhile isDig) ((Lib.trimPrefix ((Lib.trimPrefix l [45]).dropWhile isDig) [46]).takeWhile isDig).length ((Lib.trimPrefix ((Lib.trimPrefix l [45]).dropWhile isDig) [46]).dropWhile isDig)).val := by
  unfold parse
  simp only [h, if_true]
  exact ite_val _ _ _ _
theorem parse_plain (l : Bs) (h : Lib.hasPrefix ((Lib.trimPrefix l [45]).dropWhile isDig) [46] = false) : (parse l).val =
    if ((Lib.trimPrefix l [45]).takeWhile isDig).length + ([] : Bs).length = 0 then (⟨false, [], 0, 3⟩ : Res).val
    else (tail (Lib.hasPrefix l [45]) ((Lib.trimPrefix l [45]).takeWhile isDig ++ []) 0 ((Lib.trimPrefix l [45]).dropWhile isDig)).val := by
  unfold parse
  simp only [h]
  exact ite_val _ _ _ _
end Go.Proofs.YtiglekomfgfilaaGreatDoor.Dc

/- Plain Lean: a decimal that is written. -/
namespace Go.Proofs.YtiglekomfgfilaaGreatDoor.Dc
set_option linter.all false
def body (s l : Bs) (p : Int) : Bs :=
  if l = [] then s ++ [48]
  else if 1 ≤ p ∧ p ≤ 21 ∧ (l.length : Int) ≤ p then s ++ l ++ Lib.repeatL [48] (p - l.length).toNat
  else if 1 ≤ p ∧ p ≤ 21 then s ++ l.take p.toNat ++ [46] ++ l.drop p.toNat
  else if -5 ≤ p ∧ p ≤ 0 then s ++ [48, 46] ++ Lib.repeatL [48] (-p).toNat ++ l
  else
    let t := if 1 < l.length then s ++ l.take 1 ++ ([46] ++ l.drop 1) else s ++ l.take 1
    if p < 1 then t ++ [101, 45] ++ Lib.itoa (1 - p) else t ++ [101, 43] ++ Lib.itoa (p - 1)
def print (n : Bool) (l : Bs) (x : Int) : Bs :=
  if right l x = true then body (if n then [45] else []) l (l.length + x) else []
theorem ba_eq (s : ByteArray) (l : Bs) (h : s.data.toList = l) : s = ⟨l.toArray⟩ := by rw [← h]
theorem ba_app (a b : ByteArray) : (a ++ b).data.toList = a.data.toList ++ b.data.toList := by simp
theorem itoa_len (n : Int) (h : -1000000 ≤ n ∧ n ≤ 1000000) : (Lib.itoa n).length ≤ 30 := by
  have hd : ∀ u : Nat, u ≤ 1000000 → (Lib.decDigits u).length ≤ 29 := fun u hu => by
    rw [Lib.decDigits_length]
    have : ∀ k u : Nat, u < 10 ^ k → Lib.nDigits u ≤ k + 1 := by
      intro k
      induction k with
      | zero => intro u hu; rw [Lib.nDigits_small (by simp at hu; omega)]; omega
      | succ k ih =>
        intro u hu
        by_cases h : u < 10
        · rw [Lib.nDigits_small h]; omega
        · rw [Lib.nDigits_big h]
          have := ih (u / 10) (by rw [Nat.pow_succ] at hu; omega)
          omega
    have := this 7 u (by omega)
    omega
  unfold Lib.itoa
  split
  · rw [List.length_cons]; have := hd n.natAbs (by omega); omega
  · have := hd n.toNat (by omega); omega
end Go.Proofs.YtiglekomfgfilaaGreatDoor.Dc

/- Plain Lean: what is written of a right decimal is read as it. -/
namespace Go.Proofs.YtiglekomfgfilaaGreatDoor.Dc
set_option linter.all false
theorem takeWhile_app (f r : Bs) (hf : allDig f = true) (hr : ∀ c, r[0]? = some c → isDig c = false) : (f ++ r).takeWhile isDig = f := by
  rw [List.takeWhile_append_of_pos (fun c hc => List.all_eq_true.1 hf c hc)]
  cases r with
  | nil => simp
  | cons c r => rw [List.takeWhile_cons_of_neg (by simp [hr c rfl])]; simp
theorem dropWhile_app (f r : Bs) (hf : allDig f = true) (hr : ∀ c, r[0]? = some c → isDig c = false) : (f ++ r).dropWhile isDig = r := by
  rw [List.dropWhile_append_of_pos (fun c hc => List.all_eq_true.1 hf c hc)]
  cases r with
  | nil => rfl
  | cons c r => rw [List.dropWhile_cons_of_neg (by simp [hr c rfl])]
theorem dig_ne {c : UInt8} (h : isDig c = true) (k : UInt8) (hk : k.toNat < 48 ∨ 57 < k.toNat) : c ≠ k := by
  intro e; subst e; simp [isDig] at h; omega
theorem neg_strip (n : Bool) (t : Bs) (ht : ∀ c, t[0]? = some c → c ≠ 45) : Lib.hasPrefix ((if n then [45] else []) ++ t) [45] = n ∧ Lib.trimPrefix ((if n then [45] else []) ++ t) [45] = t := by
  cases n
  · have h : Lib.hasPrefix t [45] = false := by
      cases t with
      | nil => rfl
      | cons c t => have := ht c rfl; simp [Lib.hasPrefix, List.isPrefixOf]; exact fun e => this e.symm
    simp [Lib.trimPrefix, h]
  · simp [Lib.trimPrefix, Lib.hasPrefix, List.isPrefixOf]
theorem first_dig {f t : Bs} (hf : allDig f = true) (hne : f ≠ []) (c : UInt8) (h : (f ++ t)[0]? = some c) : c ≠ 45 := by
  cases f with
  | nil => exact absurd rfl hne
  | cons d f =>
    simp at h; subst h
    rw [allDig, List.all_cons, Bool.and_eq_true] at hf
    exact dig_ne hf.1 _ (by decide)
theorem parse_form (n : Bool) (f r : Bs) (hf : allDig f = true) (hne : f ≠ []) (hr : ∀ c, r[0]? = some c → isDig c = false ∧ c ≠ 46) : parse ((if n then [45] else []) ++ (f ++ r)) = tail n f 0 r := by
  obtain ⟨h1, h2⟩ := neg_strip n (f ++ r) (fun c h => first_dig hf hne c h)
  have h3 : Lib.hasPrefix r [46] = false := by
    cases r with
    | nil => rfl
    | cons c r => have := (hr c rfl).2; simp [Lib.hasPrefix, List.isPrefixOf]; exact fun e => this e.symm
  unfold parse
  simp only [h1, h2, takeWhile_app f r hf (fun c h => (hr c h).1), dropWhile_app f r hf (fun c h => (hr c h).1), h3]
  simp [hne]
theorem rep_mem {k : Nat} {c : UInt8} (h : c ∈ Lib.repeatL [48] k) : c = 48 := by
  induction k with
  | zero => cases h
  | succ k ih => rw [Lib.repeatL] at h; simp at h; rcases h with h | h; exact h; exact ih h
theorem rep_dig (k : Nat) : allDig (Lib.repeatL [48] k) = true := by
  rw [allDig, List.all_eq_true]; intro c hc; rw [rep_mem hc]; decide
theorem app_dig {a b : Bs} (ha : allDig a = true) (hb : allDig b = true) : allDig (a ++ b) = true := by
  rw [allDig, List.all_append]; unfold allDig at ha hb; rw [ha, hb]; rfl
theorem decDigits_dig (u : Nat) : allDig (Lib.decDigits u) = true ∧ numOf (Lib.decDigits u) = u ∧ Lib.decDigits u ≠ [] := by
  induction u using Nat.strongRecOn with
  | _ u ih =>
    have hd : ∀ k : Nat, k < 10 → isDig (UInt8.ofNat (48 + k)) = true ∧ ((UInt8.ofNat (48 + k)).toNat : Int) - 48 = k := by
      have : ∀ k : Fin 10, isDig (UInt8.ofNat (48 + k.val)) = true ∧ ((UInt8.ofNat (48 + k.val)).toNat : Int) - 48 = k.val := by decide
      exact fun k hk => this ⟨k, hk⟩
    by_cases h : u < 10
    · rw [Lib.decDigits, dif_pos h]
      obtain ⟨a, b⟩ := hd u h
      refine ⟨by rw [allDig, List.all_cons, a]; rfl, ?_, by simp⟩
      simp only [numOf, List.foldl_cons, List.foldl_nil]; omega
    · rw [Lib.decDigits, dif_neg h]
      obtain ⟨a, b⟩ := hd (u % 10) (Nat.mod_lt _ (by decide))
      obtain ⟨i1, i2, i3⟩ := ih (u / 10) (by omega)
      refine ⟨app_dig i1 (by rw [allDig, List.all_cons, a]; rfl), ?_, by simp⟩
      have e : numOf (Lib.decDigits (u / 10) ++ [UInt8.ofNat (48 + u % 10)]) = 10 * numOf (Lib.decDigits (u / 10)) + (((UInt8.ofNat (48 + u % 10)).toNat : Int) - 48) := by
        simp [numOf, List.foldl_append]
      rw [e, i2]; omega
end Go.Proofs.YtiglekomfgfilaaGreatDoor.Dc

/- Plain Lean: rounding to places, as a number: what is rounded is the quotient by the unit, or one more. -/
namespace Go.Proofs.YtiglekomfgfilaaGreatDoor.Dc
set_option linter.all false
theorem nv_rep (k : Nat) : nv (List.replicate k 48) = 0 := by
  induction k with
  | zero => rfl
  | succ k ih => rw [List.replicate_succ, nv_cons, ih]; simp
theorem nv_zeros {a : Bs} (h : ∀ c ∈ a, c = 48) : nv a = 0 := by
  have : a = List.replicate a.length 48 := List.eq_replicate_iff.2 ⟨rfl, h⟩
  rw [this, nv_rep]
theorem nv_front {a : Bs} (h : ∀ c ∈ a, c = 48) (l : Bs) : nv (a ++ l) = nv l := by rw [nv_app, nv_zeros h]; simp
theorem nv_back {z : Bs} (h : ∀ c ∈ z, c = 48) (l : Bs) : nv (l ++ z) = nv l * 10 ^ z.length := by rw [nv_app, nv_zeros h]; simp
theorem lead_split (l : Bs) : ∃ a, l = a ++ lead l ∧ ∀ c ∈ a, c = 48 := by
  refine ⟨l.takeWhile (· == 48), ?_, ?_⟩
  · rw [lead, Lib.trimLeftB, List.takeWhile_append_dropWhile]
  · intro c hc
    have := List.all_eq_true.1 (List.all_takeWhile (l := l) (p := (· == 48))) c hc
    simpa using this
theorem lead_core' (l : Bs) : ∃ z, lead l = core l ++ z ∧ ∀ c ∈ z, c = 48 := by
  by_cases h : core l = []
  · refine ⟨lead l, by rw [h]; rfl, ?_⟩
    have hs := List.takeWhile_append_dropWhile (p := (· == 48)) (l := (lead l).reverse)
    have h2 : (lead l).reverse.dropWhile (· == 48) = [] := by
      have := h; rw [core, Lib.trimRightB] at this; simpa using this
    rw [h2, List.append_nil] at hs
    intro c hc
    have := List.all_eq_true.1 (List.all_takeWhile (l := (lead l).reverse) (p := (· == 48))) c (by rw [hs]; simpa using hc)
    simpa using this
  · exact lead_core l h
theorem nv_core (l : Bs) : nv l = nv (core l) * 10 ^ tz l := by
  obtain ⟨a, h1, h2⟩ := lead_split l
  obtain ⟨z, h3, h4⟩ := lead_core' l
  have ht : tz l = z.length := by unfold tz; rw [h3, List.length_append]; omega
  conv => lhs; rw [h1, nv_front h2, h3, nv_back h4]
  rw [ht]
theorem mk_vv (n : Bool) (ds : Bs) (y : Int) (hd : allDig ds = true) (hy : -200000 ≤ y) (he : (mk n ds y).e = 0) :
    (mk n ds y).n = n ∧ right (mk n ds y).l (mk n ds y).x = true ∧ vv (mk n ds y).l (mk n ds y).x = nv ds * 10 ^ (y + lift).toNat := by
  by_cases h1 : core ds = []
  · rw [mk_zero hd h1]
    refine ⟨rfl, by simp [right], ?_⟩
    rw [nv_core, h1, nv_nil, vv_zero]; simp
  · by_cases h2 : right (core ds) (y + tz ds) = true
    · rw [mk_ok hd h1 h2]
      refine ⟨rfl, h2, ?_⟩
      show nv (core ds) * 10 ^ (y + tz ds + lift).toNat = _
      have e : nv ds * 10 ^ (y + lift).toNat = nv (core ds) * 10 ^ tz ds * 10 ^ (y + lift).toNat := by conv => lhs; rw [nv_core]
      rw [e, Nat.mul_assoc, ← Nat.pow_add]
      congr 2; unfold lift; omega
    · rw [mk_over hd h1 h2] at he; cases he
theorem nv_more (K : Bs) (h : allDig K = true) : nv (more K) = nv K + 1 ∧ allDig (more K) = true := by
  by_cases h9 : ∀ c ∈ K, c = 57
  · have hK : nv K + 1 = 10 ^ K.length := by
      clear h
      induction K with
      | nil => rfl
      | cons c K ih =>
        have := ih (fun d hd => h9 d (List.mem_cons_of_mem _ hd))
        have hc := h9 c (List.mem_cons_self ..)
        rw [nv_cons, hc, List.length_cons, Nat.pow_succ]
        have e : (57 : UInt8).toNat - 48 = 9 := rfl
        rw [e]; omega
    rw [more_nines K h9, hK, nv_cons, nv_rep, List.length_replicate]
    refine ⟨by simp, ?_⟩
    rw [allDig, List.all_cons, Bool.and_eq_true]
    exact ⟨by decide, by rw [← rep_replicate]; exact rep_dig _⟩
  · -- the last digit that is no nine
    have hex : ∃ j, 0 < j ∧ j ≤ K.length ∧ (∀ c ∈ K.drop j, c = 57) ∧ ∃ c, K[j - 1]? = some c ∧ c ≠ 57 := by
      clear h
      induction K with
      | nil => exact absurd (fun c hc => by cases hc) h9
      | cons d K ih =>
        by_cases hK : ∀ c ∈ K, c = 57
        · exact ⟨1, by omega, by simp, by simpa using hK, d, rfl, fun e => h9 (fun c hc => by rcases List.mem_cons.1 hc with e2 | e2; exact e2.trans e; exact hK c e2)⟩
        · obtain ⟨j, h1, h2, h3, c, h4, h5⟩ := ih hK
          refine ⟨j + 1, by omega, by simp; omega, by simpa using h3, c, ?_, h5⟩
          rw [Nat.add_sub_cancel, show j = j - 1 + 1 by omega, List.getElem?_cons_succ]; exact h4
    obtain ⟨j, h1, h2, h3, c, h4, h5⟩ := hex
    have hcd := dig_mem h (List.mem_of_getElem? h4)
    have hc57 : c.toNat ≠ 57 := fun e => h5 (UInt8.toNat_inj.1 (by simpa using e))
    have hc1 : (c + 1).toNat = c.toNat + 1 := by rw [UInt8.toNat_add]; simp; omega
    have hsp : K = K.take (j - 1) ++ ([c] ++ K.drop j) := by
      have e1 := List.take_append_drop (j - 1) K
      have e2 : K.drop (j - 1) = c :: K.drop j := by
        have hj : j - 1 < K.length := by omega
        rw [List.drop_eq_getElem_cons hj]
        rw [List.getElem?_eq_getElem hj] at h4
        rw [Option.some.inj h4, show j - 1 + 1 = j by omega]
      rw [e2] at e1; simpa using e1.symm
    have hd9 : nv (K.drop j) + 1 = 10 ^ (K.length - j) := by
      have : ∀ L : Bs, (∀ c ∈ L, c = 57) → nv L + 1 = 10 ^ L.length := by
        intro L hL
        induction L with
        | nil => rfl
        | cons c L ih =>
          have := ih (fun d hd => hL d (List.mem_cons_of_mem _ hd))
          have hc := hL c (List.mem_cons_self ..)
          rw [nv_cons, hc, List.length_cons, Nat.pow_succ]
          have e : (57 : UInt8).toNat - 48 = 9 := rfl
          rw [e]; omega
      have := this _ h3
      rwa [List.length_drop] at this
    have hm := more_at K j h1 h2 h3 c h4 h5
    rw [rowAt_inc K j h1 h2] at hm
    refine ⟨?_, ?_⟩
    · have e1 : nv K = nv (K.take (j - 1)) * 10 ^ (1 + (K.length - j)) + ((c.toNat - 48) * 10 ^ (K.length - j) + nv (K.drop j)) := by
        conv => lhs; rw [hsp]
        rw [nv_app, nv_app, nv_cons, nv_nil]
        simp only [List.length_append, List.length_cons, List.length_nil, List.length_drop, Nat.zero_add, Nat.pow_zero, Nat.mul_one, Nat.add_zero]
      have e2 : nv (more K) = nv (K.take (j - 1)) * 10 ^ (1 + (K.length - j)) + (c.toNat + 1 - 48) * 10 ^ (K.length - j) := by
        rw [hm, List.append_assoc, nv_app, nv_app, nv_rep, nv_cons, nv_nil, hc1]
        simp only [List.length_append, List.length_cons, List.length_nil, List.length_replicate, Nat.zero_add, Nat.pow_zero, Nat.mul_one, Nat.add_zero]
      rw [e1, e2, show c.toNat + 1 - 48 = (c.toNat - 48) + 1 by omega, Nat.add_mul]
      omega
    · rw [hm]
      refine app_dig (app_dig (dig_take h _) ?_) (by rw [← rep_replicate]; exact rep_dig _)
      simp [allDig, isDig, hc1]; omega
theorem odd_nv (K : Bs) (h : allDig K = true) : odd K = decide (nv K % 2 = 1) := by
  cases hK : K.getLast? with
  | none =>
    have : K = [] := by simpa using hK
    subst this; rfl
  | some c =>
    obtain ⟨L, rfl⟩ : ∃ L, K = L ++ [c] := by
      obtain ⟨L, hL⟩ := List.getLast?_eq_some_iff.1 hK
      exact ⟨L, hL⟩
    have hc := dig_mem h (show c ∈ L ++ [c] by simp)
    rw [odd, hK, nv_app, nv_cons, nv_nil]
    simp only [List.length_cons, List.length_nil, Nat.zero_add, Nat.pow_one, Nat.pow_zero, Nat.mul_one, Nat.add_zero]
    rw [Bool.eq_iff_iff]; simp; omega
def ups (n : Bool) (way : Int) (q r U : Nat) : Bool :=
  decide (r ≠ 0) && (if way = 0 then decide (U < 2 * r) || (decide (2 * r = U) && decide (q % 2 = 1))
    else if way = 1 then decide (U ≤ 2 * r) else if way = 3 then true else if way = 4 then n else decide (way = 5) && !n)
def rnd (n : Bool) (way : Int) (V U : Nat) : Nat := V / U + (if ups n way (V / U) (V % U) U = true then 1 else 0)
theorem rnd_whole (n : Bool) (way : Int) (q U : Nat) (hU : 0 < U) : rnd n way (q * U) U = q := by
  unfold rnd ups
  rw [Nat.mul_mod_left, Nat.mul_div_cancel _ hU]; simp
def unit (k : Int) : Nat := 10 ^ (lift - k).toNat
theorem unit_pos (k : Int) : 0 < unit k := Nat.pos_of_ne_zero (by simp [unit])
theorem up_ups (n : Bool) (way : Int) (K R : Bs) (hK : allDig K = true) (hR : allDig R = true) (hne : R ≠ []) (he : endOk R) (E : Nat) (hE : 0 < E) :
    up n K R way = ups n way (nv K) (nv R * E) (10 ^ R.length * E) := by
  have hp : 0 < R.length := List.length_pos_iff.2 hne
  have h0 : 0 < nv R := nv_last hR hne (he hne)
  have hh : half R = sg (nv R) (5 * 10 ^ (R.length - 1)) := by
    have := compare_nv R [53] R.length hR (by decide) he (by intro _; decide) (Nat.le_refl _) (by simp; omega)
    rw [Nat.sub_self, Nat.pow_zero, Nat.mul_one] at this
    exact this
  have h10 : 10 ^ R.length = 2 * (5 * 10 ^ (R.length - 1)) := by
    conv => lhs; rw [show R.length = R.length - 1 + 1 by omega, Nat.pow_succ]
    omega
  have hne0 : nv R * E ≠ 0 := Nat.ne_of_gt (Nat.mul_pos h0 hE)
  have l1 : (10 ^ R.length * E < 2 * (nv R * E)) ↔ 5 * 10 ^ (R.length - 1) < nv R := by
    rw [h10, Nat.mul_assoc, Nat.mul_lt_mul_left (by decide), Nat.mul_lt_mul_right hE]
  have l2 : (2 * (nv R * E) = 10 ^ R.length * E) ↔ nv R = 5 * 10 ^ (R.length - 1) := by
    rw [h10, Nat.mul_assoc, Nat.mul_right_inj (by decide), Nat.mul_left_inj (by omega)]
  have l3 : (10 ^ R.length * E ≤ 2 * (nv R * E)) ↔ 5 * 10 ^ (R.length - 1) ≤ nv R := by
    rw [h10, Nat.mul_assoc, Nat.mul_le_mul_left_iff (by decide), Nat.mul_le_mul_right_iff hE]
  unfold up ups
  rw [if_neg hne, odd_nv K hK, hh]
  simp only [l1, l2, l3, hne0, ne_eq, not_false_eq_true, decide_true, Bool.true_and]
  have s1 : (0 < sg (nv R) (5 * 10 ^ (R.length - 1))) ↔ 5 * 10 ^ (R.length - 1) < nv R := by unfold sg; split <;> (try split) <;> omega
  have s2 : (sg (nv R) (5 * 10 ^ (R.length - 1)) = 0) ↔ nv R = 5 * 10 ^ (R.length - 1) := by unfold sg; split <;> (try split) <;> omega
  have s3 : (0 ≤ sg (nv R) (5 * 10 ^ (R.length - 1))) ↔ 5 * 10 ^ (R.length - 1) ≤ nv R := by unfold sg; split <;> (try split) <;> omega
  simp only [s1, s2, s3]
theorem place_rnd (n : Bool) (l : Bs) (x k way : Int) (h : right l x = true) (hw : 0 ≤ way ∧ way ≤ 5) (hk : -100000 ≤ k ∧ k ≤ 100000) (he : (place n l x k way).e = 0) :
    (place n l x k way).n = n ∧ right (place n l x k way).l (place n l x k way).x = true ∧ vv (place n l x k way).l (place n l x k way).x = rnd n way (vv l x) (unit k) * unit k := by
  have hx := right_exp h
  rw [place, if_pos ⟨h, hw.1, hw.2, hk.1, hk.2⟩] at he ⊢
  have hpt : point l x = l.length + x := by rw [point, if_pos h]
  rw [hpt] at he ⊢
  by_cases hc : l ≠ [] ∧ (l.length : Int) + x + k < l.length
  · rw [if_pos hc] at he ⊢
    obtain ⟨hne, hlt⟩ := hc
    have hd := right_dig h
    have heo := right_endOk h
    by_cases hneg : (l.length : Int) + x + k < 0
    · -- all of it is taken away
      have hb := vv_bounds h hne
      have hU : 10 * vv l x < 10 * (unit k / 10) + 10 ∧ 10 * vv l x < unit k := by
        have e : unit k = 10 * 10 ^ (lift - k - 1).toNat := by
          unfold unit
          rw [show (lift - k).toNat = (lift - k - 1).toNat + 1 by unfold lift; omega, Nat.pow_succ, Nat.mul_comm]
        have e2 : 10 ^ ((l.length : Int) + x + lift).toNat ≤ 10 ^ (lift - k - 1).toNat := Nat.pow_le_pow_right (by decide) (by unfold lift; omega)
        omega
      have hV : 0 < vv l x := vv_pos h hne
      have hq : vv l x / unit k = 0 := Nat.div_eq_of_lt (by omega)
      have hr : vv l x % unit k = vv l x := Nat.mod_eq_of_lt (by omega)
      have hup : up n [] (48 :: l) way = ups n way 0 (vv l x) (unit k) := by
        have h1 : half (48 :: l) = -1 := by rw [half_cases]; simp
        unfold up ups
        rw [if_neg (by simp), h1]
        have a1 : ¬ unit k < 2 * vv l x := by omega
        have a2 : ¬ 2 * vv l x = unit k := by omega
        have a3 : ¬ unit k ≤ 2 * vv l x := by omega
        have a4 : vv l x ≠ 0 := by omega
        simp [a1, a2, a3, a4]
      have hcut : cut n l x ((l.length : Int) + x + k) way = mk n (if ups n way 0 (vv l x) (unit k) = true then [49] else []) (-k) := by
        have h2 : more [] = [49] := by decide
        unfold cut
        simp only [if_pos hneg, show ((l.length : Int) + x + k).toNat = 0 by omega, List.take_zero, hup, h2]
        congr 1; omega
      rw [hcut] at he ⊢
      obtain ⟨m1, m2, m3⟩ := mk_vv n _ (-k) (by split <;> decide) (by omega) he
      refine ⟨m1, m2, m3.trans ?_⟩
      rw [rnd, hq, hr, Nat.zero_add]
      have e : 10 ^ (-k + lift).toNat = unit k := by unfold unit; congr 2; omega
      rw [e]
      split
      · have : nv [49] = 1 := by decide
        rw [this]
      · rw [nv_nil]
    · obtain ⟨K, hK⟩ : ∃ K : Nat, (l.length : Int) + x + k = K := ⟨((l.length : Int) + x + k).toNat, by omega⟩
      obtain ⟨m, hm⟩ : ∃ m : Nat, m = l.length - K := ⟨_, rfl⟩
      have hmx : (m : Int) = -(x + k) := by omega
      have hRl : (l.drop K).length = m := by rw [List.length_drop, hm]
      have hRne : l.drop K ≠ [] := fun e => by rw [e] at hRl; simp at hRl; omega
      have hRd : allDig (l.drop K) = true := by rw [allDig, List.all_eq_true] at hd ⊢; exact fun c hc => hd c (List.mem_of_mem_drop hc)
      have hKd : allDig (l.take K) = true := dig_take hd K
      have hRe : endOk (l.drop K) := by
        intro _ e
        refine heo hne ?_
        rw [List.getElem?_drop, hRl] at e
        rw [← e]; congr 1; omega
      have hE : 0 < 10 ^ (x + lift).toNat := Nat.pos_of_ne_zero (by simp)
      have hU : unit k = 10 ^ m * 10 ^ (x + lift).toNat := by unfold unit; rw [← Nat.pow_add]; congr 1; unfold lift; omega
      have hV : vv l x = nv (l.take K) * unit k + nv (l.drop K) * 10 ^ (x + lift).toNat := by
        unfold vv
        conv => lhs; rw [← List.take_append_drop K l]
        rw [nv_app, hRl, Nat.add_mul, hU, Nat.mul_assoc]
      have hrl : nv (l.drop K) * 10 ^ (x + lift).toNat < unit k := by
        rw [hU]
        have := nv_lt hRd
        rw [hRl] at this
        exact Nat.mul_lt_mul_of_pos_right this hE
      have hq : vv l x / unit k = nv (l.take K) := by
        rw [hV, Nat.mul_comm, Nat.mul_add_div (unit_pos k), Nat.div_eq_of_lt hrl, Nat.add_zero]
      have hr : vv l x % unit k = nv (l.drop K) * 10 ^ (x + lift).toNat := by
        rw [hV, Nat.mul_comm, Nat.mul_add_mod, Nat.mod_eq_of_lt hrl]
      have hup : up n (l.take K) (l.drop K) way = ups n way (vv l x / unit k) (vv l x % unit k) (unit k) := by
        rw [hq, hr, hU, ← hRl]
        exact up_ups n way _ _ hKd hRd hRne hRe _ hE
      have hcut : cut n l x ((l.length : Int) + x + k) way = mk n (if ups n way (vv l x / unit k) (vv l x % unit k) (unit k) = true then more (l.take K) else l.take K) (-k) := by
        unfold cut
        rw [hK]
        simp only [if_neg (show ¬ ((K : Int) < 0) by omega), Int.toNat_natCast, hup]
        congr 1; omega
      rw [hcut] at he ⊢
      obtain ⟨m1, m2, m3⟩ := mk_vv n _ (-k) (by split; exact (nv_more _ hKd).2; exact hKd) (by omega) he
      refine ⟨m1, m2, m3.trans ?_⟩
      have e : 10 ^ (-k + lift).toNat = unit k := by unfold unit; congr 2; omega
      rw [e, rnd]
      congr 1
      split
      · rw [(nv_more _ hKd).1, hq]
      · rw [hq, Nat.add_zero]
  · rw [if_neg hc] at he ⊢
    refine ⟨rfl, h, ?_⟩
    show vv l x = _
    by_cases hne : l = []
    · rw [hne, vv_zero]
      have := rnd_whole n way 0 (unit k) (unit_pos k)
      rw [Nat.zero_mul] at this; rw [this, Nat.zero_mul]
    · have hge : 0 ≤ x + k := by
        have : ¬ ((l.length : Int) + x + k < l.length) := fun e => hc ⟨hne, e⟩
        omega
      have e : vv l x = nv l * 10 ^ (x + k).toNat * unit k := by
        unfold vv unit
        rw [Nat.mul_assoc, ← Nat.pow_add]
        congr 2; unfold lift; omega
      conv => lhs; rw [e]
      rw [e, rnd_whole _ _ _ _ (unit_pos k)]
end Go.Proofs.YtiglekomfgfilaaGreatDoor.Dc
