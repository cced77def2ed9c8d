/- Plain Lean: the number that a decimal is; which of two is greater. -/
import Derived.Test.YtcbepojookbceaaDoorDec3
namespace Go.Proofs.YtcbepojookbceaaDoor.Dc
set_option linter.all false

/-- The natural that digits say. -/
def nv (l : Bs) : Nat := l.foldl (fun a c => 10 * a + (c.toNat - 48)) 0

theorem nv_foldl (l : Bs) : ∀ a : Nat, l.foldl (fun a c => 10 * a + (c.toNat - 48)) a = a * 10 ^ l.length + nv l := by
  induction l with
  | nil => intro a; simp [nv]
  | cons c l ih =>
    intro a
    have e : nv (c :: l) = (10 * 0 + (c.toNat - 48)) * 10 ^ l.length + nv l := by rw [nv, List.foldl_cons, ih]
    rw [List.foldl_cons, ih, e, List.length_cons, Nat.pow_succ, Nat.mul_zero, Nat.zero_add, Nat.add_mul, Nat.add_assoc]
    congr 1
    rw [Nat.mul_comm 10 a, Nat.mul_assoc, Nat.mul_comm 10]
theorem nv_nil : nv [] = 0 := rfl
theorem nv_cons (c : UInt8) (l : Bs) : nv (c :: l) = (c.toNat - 48) * 10 ^ l.length + nv l := by
  rw [nv, List.foldl_cons, nv_foldl]; simp
theorem nv_app (a b : Bs) : nv (a ++ b) = nv a * 10 ^ b.length + nv b := by
  rw [nv, List.foldl_append, nv_foldl]; rfl
theorem dig_cons {c : UInt8} {l : Bs} (h : allDig (c :: l) = true) : (48 ≤ c.toNat ∧ c.toNat ≤ 57) ∧ allDig l = true := by
  refine ⟨dig_mem h (List.mem_cons_self ..), ?_⟩
  rw [allDig, List.all_cons, Bool.and_eq_true] at h; exact h.2
theorem nv_lt {l : Bs} (h : allDig l = true) : nv l < 10 ^ l.length := by
  induction l with
  | nil => simp [nv]
  | cons c l ih =>
    obtain ⟨hc, hl⟩ := dig_cons h
    have := ih hl
    rw [nv_cons, List.length_cons, Nat.pow_succ]
    have : (c.toNat - 48) * 10 ^ l.length ≤ 9 * 10 ^ l.length := Nat.mul_le_mul_right _ (by omega)
    omega
theorem nv_first {l : Bs} (h : allDig l = true) (hne : l ≠ []) (h0 : l[0]? ≠ some 48) : 10 ^ (l.length - 1) ≤ nv l := by
  cases l with
  | nil => exact absurd rfl hne
  | cons c l =>
    obtain ⟨hc, hl⟩ := dig_cons h
    have : c.toNat ≠ 48 := by intro e; apply h0; simp; exact UInt8.toNat_inj.1 (by simpa using e)
    rw [nv_cons, List.length_cons, Nat.add_sub_cancel]
    have : 1 * 10 ^ l.length ≤ (c.toNat - 48) * 10 ^ l.length := Nat.mul_le_mul_right _ (by omega)
    omega
theorem nv_last {l : Bs} (h : allDig l = true) (hne : l ≠ []) (h0 : l[l.length - 1]? ≠ some 48) : 0 < nv l := by
  have hs := List.dropLast_concat_getLast hne
  have hg : l[l.length - 1]? = some (l.getLast hne) := by
    rw [← List.getLast?_eq_getElem?, List.getLast?_eq_some_getLast hne]
  have hd := dig_mem h (List.getLast_mem hne)
  have : (l.getLast hne).toNat ≠ 48 := by intro e; apply h0; rw [hg]; exact congrArg some (UInt8.toNat_inj.1 (by simpa using e))
  rw [← hs, nv_app, nv_cons, nv_nil]
  simp; omega

/-- The sign of a difference. -/
def sg (a b : Nat) : Int := if a < b then -1 else if b < a then 1 else 0
theorem sg_lt {a b : Nat} (h : a < b) : sg a b = -1 := by rw [sg, if_pos h]
theorem sg_gt {a b : Nat} (h : b < a) : sg a b = 1 := by rw [sg, if_neg (by omega), if_pos h]
theorem sg_eq {a b : Nat} (h : a = b) : sg a b = 0 := by rw [sg, if_neg (by omega), if_neg (by omega)]
theorem sg_congr {a b c d : Nat} (h1 : a < b ↔ c < d) (h2 : b < a ↔ d < c) : sg a b = sg c d := by
  unfold sg; simp only [h1, h2]

/-- No nought at the end. -/
def endOk (l : Bs) : Prop := l ≠ [] → l[l.length - 1]? ≠ some 48
theorem endOk_tail {c : UInt8} {l : Bs} (h : endOk (c :: l)) : endOk l := by
  intro hne
  have := h (by simp)
  cases l with
  | nil => exact absurd rfl hne
  | cons d l => simpa using this

/-- Digit strings compared: as the numbers that they are behind a point. -/
theorem compare_nv (a : Bs) : ∀ (b : Bs) (N : Nat), allDig a = true → allDig b = true → endOk a → endOk b → a.length ≤ N → b.length ≤ N →
    Lib.compareBytes a b = sg (nv a * 10 ^ (N - a.length)) (nv b * 10 ^ (N - b.length)) := by
  induction a with
  | nil =>
    intro b N _ hb _ eb _ hlb
    cases b with
    | nil => rw [sg_eq rfl]; rfl
    | cons d b =>
      have := nv_last hb (by simp) (eb (by simp))
      rw [sg_lt]; rfl
      rw [nv_nil, Nat.zero_mul]
      exact Nat.mul_pos this (Nat.pos_of_ne_zero (by simp))
  | cons c a ih =>
    intro b N ha hb ea eb hla hlb
    cases b with
    | nil =>
      have := nv_last ha (by simp) (ea (by simp))
      rw [sg_gt]; rfl
      rw [nv_nil, Nat.zero_mul]
      exact Nat.mul_pos this (Nat.pos_of_ne_zero (by simp))
    | cons d b =>
      obtain ⟨hc, ha'⟩ := dig_cons ha
      obtain ⟨hd, hb'⟩ := dig_cons hb
      rw [List.length_cons] at hla hlb
      have key : ∀ (c : UInt8) (l : Bs), allDig l = true → l.length + 1 ≤ N → nv (c :: l) * 10 ^ (N - (l.length + 1)) = (c.toNat - 48) * 10 ^ (N - 1) + nv l * 10 ^ (N - 1 - l.length) ∧ nv l * 10 ^ (N - 1 - l.length) < 10 ^ (N - 1) := by
        intro c l hl hN
        have e : 10 ^ (N - 1) = 10 ^ l.length * 10 ^ (N - 1 - l.length) := by rw [← Nat.pow_add]; congr 1; omega
        refine ⟨?_, ?_⟩
        · rw [nv_cons, Nat.add_mul, show N - (l.length + 1) = N - 1 - l.length by omega, e, Nat.mul_assoc]
        · rw [e]; exact Nat.mul_lt_mul_of_pos_right (nv_lt hl) (Nat.pos_of_ne_zero (by simp))
      obtain ⟨k1, k2⟩ := key c a ha' hla
      obtain ⟨k3, k4⟩ := key d b hb' hlb
      rw [List.length_cons, List.length_cons, k1, k3, Lib.compareBytes]
      have hlt : ∀ x y : Nat, x < y → x * 10 ^ (N - 1) + 10 ^ (N - 1) ≤ y * 10 ^ (N - 1) := fun x y h => by
        have : (x + 1) * 10 ^ (N - 1) ≤ y * 10 ^ (N - 1) := Nat.mul_le_mul_right _ h
        rw [Nat.add_mul] at this; omega
      by_cases h1 : c < d
      · rw [if_pos h1, sg_lt]
        have h1' : c.toNat < d.toNat := h1
        have := hlt (c.toNat - 48) (d.toNat - 48) (by omega)
        omega
      · rw [if_neg h1]
        by_cases h2 : d < c
        · rw [if_pos h2, sg_gt]
          have h2' : d.toNat < c.toNat := h2
          have := hlt (d.toNat - 48) (c.toNat - 48) (by omega)
          omega
        · rw [if_neg h2]
          have : c.toNat = d.toNat := by
            have h1' : ¬ c.toNat < d.toNat := h1
            have h2' : ¬ d.toNat < c.toNat := h2
            omega
          rw [ih b (N - 1) ha' hb' (endOk_tail ea) (endOk_tail eb) (by omega) (by omega), this]
          exact sg_congr (by omega) (by omega)

/-- How far the unit is lifted, so that all is whole. -/
def lift : Nat := 200000
/-- A decimal's size, in units of ten to the power of -lift. -/
def vv (l : Bs) (x : Int) : Nat := nv l * 10 ^ (x + lift).toNat

/-- Two numbers, without signs: below 0, 0, above. -/
def sizeC (la : Bs) (xa : Int) (lb : Bs) (xb : Int) : Int :=
  if la = [] ∨ lb = [] then sg la.length lb.length
  else if (la.length : Int) + xa < lb.length + xb then -1
  else if (lb.length : Int) + xb < la.length + xa then 1
  else Lib.compareBytes la lb

theorem right_endOk {l : Bs} {x : Int} (h : right l x = true) : endOk l := by
  intro hne
  rw [right, if_neg hne] at h
  simp only [Bool.and_eq_true, bne_iff_ne] at h
  exact h.2.2.2.2.2
theorem right_head {l : Bs} {x : Int} (h : right l x = true) (hne : l ≠ []) : l[0]? ≠ some 48 := by
  rw [right, if_neg hne] at h
  simp only [Bool.and_eq_true, bne_iff_ne] at h
  exact h.2.2.2.2.1

theorem vv_bounds {l : Bs} {x : Int} (h : right l x = true) (hne : l ≠ []) : 10 ^ ((l.length : Int) + x - 1 + lift).toNat ≤ vv l x ∧ vv l x < 10 ^ ((l.length : Int) + x + lift).toNat := by
  have hx := right_exp h
  have hp : 0 < l.length := List.length_pos_iff.2 hne
  have h1 := nv_first (right_dig h) hne (right_head h hne)
  have h2 := nv_lt (right_dig h)
  unfold vv lift
  constructor
  · rw [show ((l.length : Int) + x - 1 + (200000 : Nat)).toNat = (l.length - 1) + (x + (200000 : Nat)).toNat by omega, Nat.pow_add]
    exact Nat.mul_le_mul_right _ h1
  · rw [show ((l.length : Int) + x + (200000 : Nat)).toNat = l.length + (x + (200000 : Nat)).toNat by omega, Nat.pow_add]
    exact Nat.mul_lt_mul_of_pos_right h2 (Nat.pos_of_ne_zero (by simp))

theorem vv_zero {x : Int} : vv [] x = 0 := by simp [vv, nv_nil]
theorem vv_pos {l : Bs} {x : Int} (h : right l x = true) (hne : l ≠ []) : 0 < vv l x :=
  Nat.lt_of_lt_of_le (Nat.pos_of_ne_zero (by simp)) (vv_bounds h hne).1

theorem sizeC_vv {la lb : Bs} {xa xb : Int} (ha : right la xa = true) (hb : right lb xb = true) : sizeC la xa lb xb = sg (vv la xa) (vv lb xb) := by
  have hxa := right_exp ha
  have hxb := right_exp hb
  unfold sizeC
  by_cases ea : la = []
  · rw [if_pos (.inl ea), ea, vv_zero]
    by_cases eb : lb = []
    · rw [eb, vv_zero]; rfl
    · rw [sg_lt (vv_pos hb eb), sg_lt (by simpa using List.length_pos_iff.2 eb)]
  · by_cases eb : lb = []
    · rw [if_pos (.inr eb), eb, vv_zero, sg_gt (vv_pos ha ea), sg_gt (by simpa using List.length_pos_iff.2 ea)]
    · rw [if_neg (by rintro (e | e); exact ea e; exact eb e)]
      have b1 := vv_bounds ha ea
      have b2 := vv_bounds hb eb
      have hpa : 0 < la.length := List.length_pos_iff.2 ea
      have hpb : 0 < lb.length := List.length_pos_iff.2 eb
      by_cases h1 : (la.length : Int) + xa < lb.length + xb
      · rw [if_pos h1, sg_lt]
        refine Nat.lt_of_lt_of_le b1.2 (Nat.le_trans (Nat.pow_le_pow_right (by decide) ?_) b2.1)
        unfold lift; omega
      · rw [if_neg h1]
        by_cases h2 : (lb.length : Int) + xb < la.length + xa
        · rw [if_pos h2, sg_gt]
          refine Nat.lt_of_lt_of_le b2.2 (Nat.le_trans (Nat.pow_le_pow_right (by decide) ?_) b1.1)
          unfold lift; omega
        · rw [if_neg h2]
          obtain ⟨P, hP⟩ : ∃ P : Nat, P = ((la.length : Int) + xa + lift).toNat := ⟨_, rfl⟩
          have e1 : (xa + lift).toNat = P - la.length := by rw [hP]; unfold lift; omega
          have e2 : (xb + lift).toNat = P - lb.length := by rw [hP]; unfold lift; omega
          unfold vv
          rw [e1, e2]
          exact compare_nv la lb P (right_dig ha) (right_dig hb) (right_endOk ha) (right_endOk hb) (by rw [hP]; unfold lift; omega) (by rw [hP]; unfold lift; omega)

theorem compareBytes_zero : ∀ {a b : Bs}, Lib.compareBytes a b = 0 → a = b
  | [], [], _ => rfl
  | [], _ :: _, h => by simp [Lib.compareBytes] at h
  | _ :: _, [], h => by simp [Lib.compareBytes] at h
  | a :: as, b :: bs, h => by
    rw [Lib.compareBytes] at h
    split at h
    · cases h
    · split at h
      · cases h
      · rename_i h1 h2
        have : a = b := UInt8.toNat_inj.1 (by
          have h1' : ¬ a.toNat < b.toNat := h1
          have h2' : ¬ b.toNat < a.toNat := h2
          omega)
        rw [this, compareBytes_zero h]
theorem sg_zero {a b : Nat} (h : sg a b = 0) : a = b := by
  unfold sg at h
  split at h
  · cases h
  · split at h
    · cases h
    · omega

/-- A right decimal's number tells it. -/
theorem vv_inj {la lb : Bs} {xa xb : Int} (ha : right la xa = true) (hb : right lb xb = true) (h : vv la xa = vv lb xb) : la = lb ∧ xa = xb := by
  have h1 := sizeC_vv ha hb
  rw [sg_eq h] at h1
  unfold sizeC at h1
  split at h1
  · rename_i e
    have h2 := sg_zero h1
    have e1 : la = [] := by
      rcases e with e | e
      · exact e
      · rw [e] at h2; simpa using h2
    have e2 : lb = [] := by rw [e1] at h2; exact List.length_eq_zero_iff.1 h2.symm
    subst e1 e2
    have a0 : xa = 0 := by simpa [right] using ha
    have b0 : xb = 0 := by simpa [right] using hb
    exact ⟨rfl, by omega⟩
  · split at h1
    · cases h1
    · split at h1
      · cases h1
      · have := compareBytes_zero h1
        subst this
        exact ⟨rfl, by omega⟩

/-- Its sign. -/
def sgn (n : Bool) (l : Bs) : Int := if l = [] then 0 else if n then -1 else 1
/-- The number with its sign. -/
def sv (n : Bool) (l : Bs) (x : Int) : Int := if n then -(vv l x : Int) else vv l x
/-- Which of two is greater. -/
def cmpC (na : Bool) (la : Bs) (xa : Int) (nb : Bool) (lb : Bs) (xb : Int) : Int :=
  if right la xa = true ∧ right lb xb = true then
    if sgn na la = sgn nb lb ∧ sgn na la ≠ 0 then sgn na la * sizeC la xa lb xb
    else if sgn na la < sgn nb lb then -1 else if sgn nb lb < sgn na la then 1 else 0
  else 0
/-- The sign of a difference. -/
def sgz (a b : Int) : Int := if a < b then -1 else if b < a then 1 else 0

theorem cmpC_sv {na nb : Bool} {la lb : Bs} {xa xb : Int} (ha : right la xa = true) (hb : right lb xb = true) : cmpC na la xa nb lb xb = sgz (sv na la xa) (sv nb lb xb) := by
  rw [cmpC, if_pos ⟨ha, hb⟩, sizeC_vv ha hb]
  have pa := fun h => vv_pos ha h
  have pb := fun h => vv_pos hb h
  by_cases ea : la = []
  · have e1 : sgn na la = 0 := by rw [sgn, if_pos ea]
    rw [e1]
    have : vv la xa = 0 := by rw [ea]; exact vv_zero
    have e2 : sv na la xa = 0 := by unfold sv; rw [this]; cases na <;> rfl
    rw [if_neg (by simp), e2]
    by_cases eb : lb = []
    · have e1 : sgn nb lb = 0 := by rw [sgn, if_pos eb]
      have : vv lb xb = 0 := by rw [eb]; exact vv_zero
      have e2 : sv nb lb xb = 0 := by unfold sv; rw [this]; cases nb <;> rfl
      rw [e1, e2]; rfl
    · have := pb eb
      unfold sgn sv sgz; rw [if_neg eb]; cases nb <;> simp <;> omega
  · have := pa ea
    by_cases eb : lb = []
    · have e1 : sgn nb lb = 0 := by rw [sgn, if_pos eb]
      have : vv lb xb = 0 := by rw [eb]; exact vv_zero
      have e2 : sv nb lb xb = 0 := by unfold sv; rw [this]; cases nb <;> rfl
      rw [e1, e2]
      unfold sgn sv sgz; rw [if_neg ea]; cases na <;> simp <;> omega
    · have := pb eb
      unfold sgn; rw [if_neg ea, if_neg eb]
      unfold sv sgz sg
      cases na <;> cases nb <;> simp <;> (repeat' split) <;> omega

theorem sv_inj {na nb : Bool} {la lb : Bs} {xa xb : Int} (ha : right la xa = true) (hb : right lb xb = true) (h : sv na la xa = sv nb lb xb) (hne : la ≠ [] ∨ lb ≠ []) : na = nb ∧ la = lb ∧ xa = xb := by
  have hv : vv la xa = vv lb xb := by unfold sv at h; cases na <;> cases nb <;> simp at h <;> omega
  obtain ⟨h1, h2⟩ := vv_inj ha hb hv
  have hne' : la ≠ [] := by rcases hne with e | e; exact e; rw [h1]; exact e
  have := vv_pos ha hne'
  refine ⟨?_, h1, h2⟩
  unfold sv at h; cases na <;> cases nb <;> simp at h ⊢ <;> omega

end Go.Proofs.YtcbepojookbceaaDoor.Dc
