/- Plain Lean: digits with groups or without: taken away all at once, and sign for sign. -/
import Derived.Test.YtcbepojookbceaaDoorLoc
import Derived.Lib.Replace
import Derived.Lib.CountLaws
namespace Go.Proofs.YtcbepojookbceaaDoor.Lc
set_option linter.all false
open Dc (Bs isDig allDig)

/-- A text without the groups' signs. -/
def rem (g s : Bs) : Bs := Lib.replaceAll s g []
theorem rem_def (g s : Bs) (hg : g ≠ []) : rem g s = Lib.replaceK g [] (Lib.count s g) s := by
  unfold rem Lib.replaceAll Lib.replace
  rw [if_neg (by simpa using hg), Lib.replaceNum, if_pos (.inl (by omega))]
theorem rem_nil (g : Bs) (hg : g ≠ []) : rem g [] = [] := by
  have h : Lib.index [] g = -1 := by
    unfold Lib.index
    rw [if_neg (by simpa using hg)]
  rw [rem_def g [] hg, Lib.count_miss h]; rfl
theorem rem_pref (g s : Bs) (hg : g ≠ []) (h : g.isPrefixOf s = true) : rem g s = rem g (s.drop g.length) := by
  have h0 : Lib.index s g = (0 : Nat) := by
    cases s with
    | nil => cases g with
      | nil => exact absurd rfl hg
      | cons a g => simp [List.isPrefixOf] at h
    | cons c t => unfold Lib.index; rw [if_pos h]; rfl
  have h1 := Lib.count_hit hg h0
  rw [rem_def g s hg, h1, Nat.add_comm, Lib.replaceK_hit g [] _ s 0 h0, rem_def g _ hg]
  simp
theorem rem_cons (g : Bs) (c : UInt8) (t : Bs) (hg : g ≠ []) (h : g.isPrefixOf (c :: t) = false) : rem g (c :: t) = c :: rem g t := by
  rw [rem_def g _ hg, rem_def g _ hg]
  have hi : Lib.index (c :: t) g = if Lib.index t g == -1 then -1 else Lib.index t g + 1 := by
    conv => lhs; unfold Lib.index
    rw [if_neg (by rw [h]; simp)]
  by_cases hm : Lib.index t g = -1
  · have h1 : Lib.index (c :: t) g = -1 := by rw [hi, hm]; rfl
    rw [Lib.count_miss h1, Lib.count_miss hm]; rfl
  · have hge := Lib.index_ge t g
    obtain ⟨i, hi2⟩ : ∃ i : Nat, Lib.index t g = i := ⟨(Lib.index t g).toNat, by omega⟩
    have h1 : Lib.index (c :: t) g = ((i + 1 : Nat) : Int) := by
      rw [hi, if_neg (by simpa using hm), hi2]; omega
    have e1 := Lib.count_hit hg h1
    have e2 := Lib.count_hit hg hi2
    have e3 : (c :: t).drop (i + 1 + g.length) = t.drop (i + g.length) := by
      rw [show i + 1 + g.length = (i + g.length) + 1 by omega, List.drop_succ_cons]
    rw [e3] at e1
    rw [e1, e2, Nat.add_comm, Lib.replaceK_hit g [] _ (c :: t) (i + 1) h1, Lib.replaceK_hit g [] _ t i hi2, e3]
    simp

theorem rem_len (g : Bs) (hg : g ≠ []) : ∀ (n : Nat) (s : Bs), s.length ≤ n → (rem g s).length ≤ s.length := by
  intro n
  induction n with
  | zero =>
    intro s h
    obtain rfl := List.length_eq_zero_iff.1 (by omega : s.length = 0)
    rw [rem_nil g hg]; exact Nat.le_refl _
  | succ n ih =>
    intro s h
    cases s with
    | nil => rw [rem_nil g hg]; exact Nat.le_refl _
    | cons c t =>
      rw [List.length_cons] at h
      have hp : 0 < g.length := List.length_pos_iff.2 hg
      cases hpre : g.isPrefixOf (c :: t) with
      | true =>
        rw [rem_pref g _ hg hpre]
        have h1 : ((c :: t).drop g.length).length ≤ t.length := by rw [List.length_drop, List.length_cons]; omega
        have := ih _ (by omega : ((c :: t).drop g.length).length ≤ n)
        rw [List.length_cons]; omega
      | false =>
        rw [rem_cons g c t hg hpre, List.length_cons, List.length_cons]
        have := ih t (by omega)
        omega

/-- Sign for sign: the digits, and whether a group's sign was met; nothing, where another sign is met. -/
def scan (g : Bs) : Nat → Bs → Option (Bs × Bool)
  | 0, _ => some ([], false)
  | _ + 1, [] => some ([], false)
  | f + 1, c :: t => if isDig c = true then (scan g f t).map fun r => (c :: r.1, r.2)
    else if g.isPrefixOf (c :: t) = true then (scan g f ((c :: t).drop g.length)).map fun r => (r.1, true) else none

theorem scan_fuel (g : Bs) (hg : g ≠ []) : ∀ (f : Nat) (s : Bs), s.length ≤ f → ∀ f', s.length ≤ f' → scan g f s = scan g f' s := by
  intro f
  induction f with
  | zero =>
    intro s h f' _
    obtain rfl := List.length_eq_zero_iff.1 (by omega : s.length = 0)
    cases f' <;> rfl
  | succ f ih =>
    intro s h f' h'
    cases s with
    | nil => cases f' <;> rfl
    | cons c t =>
      cases f' with
      | zero => simp at h'
      | succ f' =>
        rw [List.length_cons] at h h'
        have hp : 0 < g.length := List.length_pos_iff.2 hg
        rw [scan, scan, ih t (by omega) f' (by omega), ih ((c :: t).drop g.length) (by rw [List.length_drop, List.length_cons]; omega) f' (by rw [List.length_drop, List.length_cons]; omega)]

theorem scan_rem (g : Bs) (hg : g ≠ []) (hd : ∀ c, g[0]? = some c → isDig c = false) : ∀ (f : Nat) (s : Bs), s.length ≤ f →
    (∀ o m, scan g f s = some (o, m) → rem g s = o ∧ allDig o = true ∧ (m = false → o = s) ∧ (m = true → o.length < s.length) ∧ o.length ≤ s.length) ∧ (scan g f s = none → allDig (rem g s) = false) := by
  intro f
  induction f with
  | zero =>
    intro s h
    obtain rfl := List.length_eq_zero_iff.1 (by omega : s.length = 0)
    refine ⟨fun o m e => ?_, fun e => by simp [scan] at e⟩
    simp only [scan, Option.some.injEq, Prod.mk.injEq] at e
    obtain ⟨rfl, rfl⟩ := e
    exact ⟨rem_nil g hg, rfl, fun _ => rfl, (fun e => by cases e), by simp⟩
  | succ f ih =>
    intro s h
    cases s with
    | nil =>
      refine ⟨fun o m e => ?_, fun e => by simp [scan] at e⟩
      simp only [scan, Option.some.injEq, Prod.mk.injEq] at e
      obtain ⟨rfl, rfl⟩ := e
      exact ⟨rem_nil g hg, rfl, fun _ => rfl, (fun e => by cases e), by simp⟩
    | cons c t =>
      rw [List.length_cons] at h
      have hp : 0 < g.length := List.length_pos_iff.2 hg
      by_cases hc : isDig c = true
      · have hnp : g.isPrefixOf (c :: t) = false := by
          cases g with
          | nil => exact absurd rfl hg
          | cons a g =>
            have ha := hd a rfl
            rw [List.isPrefixOf, Bool.and_eq_false_iff]
            refine .inl ?_
            rw [beq_eq_false_iff_ne]
            intro e; subst e; rw [hc] at ha; cases ha
        obtain ⟨i1, i2⟩ := ih t (by omega)
        rw [scan, if_pos hc, rem_cons g c t hg hnp]
        constructor
        · intro o m e
          obtain ⟨⟨o2, m2⟩, e1, e2⟩ := Option.map_eq_some_iff.1 e
          simp only [Prod.mk.injEq] at e2
          obtain ⟨rfl, rfl⟩ := e2
          obtain ⟨a1, a2, a3, a4, a5⟩ := i1 o2 m2 e1
          refine ⟨by rw [a1], ?_, fun e => by rw [a3 e], fun e => by have := a4 e; simp; omega, by simp; omega⟩
          rw [allDig, List.all_cons, hc]; exact a2
        · intro e
          have := i2 (by simpa using e)
          rw [allDig, List.all_cons, hc]; exact this
      · by_cases hpre : g.isPrefixOf (c :: t) = true
        · obtain ⟨i1, i2⟩ := ih ((c :: t).drop g.length) (by rw [List.length_drop, List.length_cons]; omega)
          rw [scan, if_neg hc, if_pos hpre, rem_pref g (c :: t) hg hpre]
          have hl : ((c :: t).drop g.length).length < (c :: t).length := by rw [List.length_drop]; simp; omega
          constructor
          · intro o m e
            obtain ⟨⟨o2, m2⟩, e1, e2⟩ := Option.map_eq_some_iff.1 e
            simp only [Prod.mk.injEq] at e2
            obtain ⟨rfl, rfl⟩ := e2
            obtain ⟨a1, a2, a3, a4, a5⟩ := i1 o2 m2 e1
            exact ⟨a1, a2, (fun e => by cases e), fun _ => by omega, by omega⟩
          · intro e; exact i2 (by simpa using e)
        · have hpf : g.isPrefixOf (c :: t) = false := Bool.eq_false_iff.2 hpre
          rw [scan, if_neg hc, if_neg hpre, rem_cons g c t hg hpf]
          refine ⟨(fun o m e => by cases e), fun _ => ?_⟩
          rw [allDig, List.all_cons]; simp [hc]

/-- Digits with groups or without: what the program says. -/
def plainC (z : Nat) (g s : Bs) : Bs × Bool :=
  if rem g s = [] ∨ allDig (rem g s) = false then ([], false)
  else if rem g s ≠ s ∧ grouped z g (rem g s) ≠ s then ([], false) else (rem g s, true)

/-- And what the reference says. -/
theorem plain_scan (z : Nat) (g s : Bs) (hg : g ≠ []) (hd : ∀ c, g[0]? = some c → isDig c = false) :
    plainC z g s = match scan g s.length s with
      | none => ([], false)
      | some (o, m) => if o = [] ∨ (m = true ∧ grouped z g o ≠ s) then ([], false) else (o, true) := by
  obtain ⟨h1, h2⟩ := scan_rem g hg hd s.length s (Nat.le_refl _)
  cases hs : scan g s.length s with
  | none => rw [plainC, if_pos (.inr (h2 hs))]
  | some r =>
    obtain ⟨o, m⟩ := r
    obtain ⟨a1, a2, a3, a4, _⟩ := h1 o m hs
    have hm : (o ≠ s) ↔ m = true := by
      constructor
      · intro e; cases m
        · exact absurd (a3 rfl) e
        · rfl
      · intro e e2; have := a4 e; rw [e2] at this; omega
    rw [plainC, a1]
    simp only []
    by_cases ho : o = []
    · rw [if_pos (.inl ho), if_pos (.inl ho)]
    · rw [if_neg (by rintro (e | e); exact ho e; rw [a2] at e; cases e)]
      by_cases hq : o ≠ s ∧ grouped z g o ≠ s
      · rw [if_pos hq, if_pos (.inr ⟨hm.1 hq.1, hq.2⟩)]
      · rw [if_neg hq, if_neg (by rintro (e | e); exact ho e; exact hq ⟨hm.2 e.1, e.2⟩)]
end Go.Proofs.YtcbepojookbceaaDoor.Lc
