/- Plain Lean: what chapter 1's functions tell of naturals. -/
import Derived.Test.YtcdndcbfmlnpjaaGreatDoorNa
namespace Go.Proofs.YtcdndcbfmlnpjaaGreatDoor.Na
set_option linter.all false

def OK (a : List Nat) : Prop := ∀ x ∈ a, x < B
/-- The list without noughts at its end. -/
def cut (a : List Nat) : List Nat := limbs (val a)
/-- How many limbs the number has. -/
def rt (a : List Nat) : Nat := (cut a).length

theorem ok_take {a : List Nat} (h : OK a) (k : Nat) : OK (a.take k) := fun x hx => h x (List.mem_of_mem_take hx)
theorem ok_drop {a : List Nat} (h : OK a) (k : Nat) : OK (a.drop k) := fun x hx => h x (List.mem_of_mem_drop hx)
theorem ok_limbs (n : Nat) : OK (limbs n) := limbs_lt n

/-- The place behind the last limb that is no nought. -/
theorem rt_ex (a : List Nat) (h : OK a) : ∃ k, k ≤ a.length ∧ (∀ i (hi : i < a.length), k ≤ i → a[i] = 0) ∧ (∀ hk : 0 < k, ∀ h2 : k - 1 < a.length, a[k - 1] ≠ 0) := by
  induction a with
  | nil => exact ⟨0, Nat.zero_le _, fun i hi => absurd hi (by simp), fun hk => absurd hk (by omega)⟩
  | cons x a ih =>
    obtain ⟨k, h1, h2, h3⟩ := ih (fun y hy => h y (List.mem_cons_of_mem _ hy))
    by_cases hk : k = 0
    · subst hk
      by_cases hx : x = 0
      · refine ⟨0, Nat.zero_le _, fun i hi _ => ?_, fun hk => absurd hk (by omega)⟩
        cases i with
        | zero => exact hx
        | succ i => simpa using h2 i (by simpa using hi) (Nat.zero_le _)
      · refine ⟨1, by simp, fun i hi h0 => ?_, fun _ _ => by simpa using hx⟩
        cases i with
        | zero => omega
        | succ i => simpa using h2 i (by simpa using hi) (Nat.zero_le _)
    · refine ⟨k + 1, by simp; omega, fun i hi h0 => ?_, fun _ h4 => ?_⟩
      · cases i with
        | zero => omega
        | succ i => simpa using h2 i (by simpa using hi) (by omega)
      · have : k + 1 - 1 = (k - 1) + 1 := by omega
        simp only [this, List.getElem_cons_succ]
        exact h3 (by omega) (by omega)

theorem rt_of {a : List Nat} (h : OK a) {k : Nat} (hk : k ≤ a.length) (hz : ∀ i (hi : i < a.length), k ≤ i → a[i] = 0) (hl : ∀ hk0 : 0 < k, ∀ h2 : k - 1 < a.length, a[k - 1] ≠ 0) : rt a = k ∧ cut a = a.take k := by
  have e : cut a = a.take k := limbs_take a h k hk hz (fun h0 => hl h0 (by omega))
  exact ⟨by rw [rt, e, List.length_take, Nat.min_eq_left hk], e⟩
theorem rt_le {a : List Nat} (h : OK a) : rt a ≤ a.length ∧ cut a = a.take (rt a) := by
  obtain ⟨k, h1, h2, h3⟩ := rt_ex a h
  obtain ⟨e1, e2⟩ := rt_of h h1 h2 h3
  rw [e1]; exact ⟨h1, e2⟩
theorem rt_zero {a : List Nat} (h : OK a) (i : Nat) (hi : i < a.length) (hr : rt a ≤ i) : a[i] = 0 := by
  obtain ⟨k, h1, h2, h3⟩ := rt_ex a h
  obtain ⟨e1, _⟩ := rt_of h h1 h2 h3
  exact h2 i hi (by omega)
theorem rt_last {a : List Nat} (h : OK a) (h0 : 0 < rt a) (h1 : rt a - 1 < a.length) : a[rt a - 1] ≠ 0 := by
  obtain ⟨k, k1, k2, k3⟩ := rt_ex a h
  obtain ⟨e1, _⟩ := rt_of h k1 k2 k3
  have := k3 (by omega) (by omega)
  simpa only [e1] using this
theorem val_cut {a : List Nat} : val (cut a) = val a := val_limbs _
theorem cut_cut (a : List Nat) : cut (cut a) = cut a := by rw [cut, val_cut]; rfl
theorem cut_limbs (n : Nat) : cut (limbs n) = limbs n := by rw [cut, val_limbs]
theorem rt_limbs (n : Nat) : rt (limbs n) = (limbs n).length := by rw [rt, cut_limbs]
theorem ok_cut (a : List Nat) : OK (cut a) := limbs_lt _
theorem rt_cut (a : List Nat) : rt (cut a) = rt a := by rw [rt, cut_cut]; rfl
theorem cut_nil_iff (a : List Nat) : cut a = [] ↔ val a = 0 := limbs_nil
theorem cut_inj {a b : List Nat} : cut a = cut b ↔ val a = val b := ⟨fun h => limbs_inj h, fun h => by rw [cut, cut, h]⟩

/-- Too big? -/
def big (a : List Nat) : Bool := decide (256 < rt a)
/-- An answer, if it is not too big: the list, the error. -/
def fits (n : Nat) : List Nat × Int := if 256 < (limbs n).length then ([], 2) else (limbs n, 0)
/-- How many bits a number has. -/
def bitLen (n : Nat) : Nat := if n = 0 then 0 else Nat.log2 n + 1
def value (a : List Nat) : Nat × Bool := if 2 < rt a then (0, false) else (val a, true)
def cmp (a b : List Nat) : Int := if val a < val b then -1 else if val b < val a then 1 else 0
def add (a b : List Nat) : List Nat × Int := if big a || big b then ([], 2) else fits (val a + val b)
def sub (a b : List Nat) : List Nat × Int := if big a || big b then ([], 2) else if val a < val b then ([], 6) else (limbs (val a - val b), 0)
def mul (a b : List Nat) : List Nat × Int := if big a || big b then ([], 2) else fits (val a * val b)
def divMod (a b : List Nat) : List Nat × List Nat × Int := if big a || big b then ([], [], 2) else if val b = 0 then ([], [], 10) else (limbs (val a / val b), limbs (val a % val b), 0)
def shl (a : List Nat) (n : Int) : List Nat × Int := if n < 0 then ([], 1) else if big a then ([], 2) else if val a = 0 then ([], 0) else if 8192 < n ∨ 8192 < (bitLen (val a) : Int) + n then ([], 2) else (limbs (val a * 2 ^ n.toNat), 0)
def shr (a : List Nat) (n : Int) : List Nat × Bool × Int := if n < 0 then ([], false, 1) else if big a then ([], false, 2) else (limbs (val a / 2 ^ n.toNat), decide (val a % 2 ^ n.toNat ≠ 0), 0)
def pow (b n : Int) : List Nat × Int := if b < 0 ∨ 1000000 < b ∨ n < 0 then ([], 1) else if b = 0 ∧ 0 < n then ([], 0) else fits (b.toNat ^ n.toNat)

theorem cmp_self (a : List Nat) : cmp a a = 0 := by simp [cmp]
theorem val_rt {a : List Nat} (h : OK a) : val a < B ^ rt a := by
  have := val_lt (cut a) (ok_cut a)
  rw [val_cut] at this; exact this
theorem val_rt_ge {a : List Nat} (h : OK a) (h0 : 0 < rt a) : B ^ (rt a - 1) ≤ val a := by
  have hne : cut a ≠ [] := by intro e; rw [rt, e] at h0; simp at h0
  have := val_lower (cut a) hne (limbs_last _ hne)
  rw [val_cut] at this; exact this
theorem lt_of_rt {a b : List Nat} (ha : OK a) (hb : OK b) (h : rt a < rt b) : val a < val b := by
  have h1 := val_rt ha
  have h2 := val_rt_ge hb (by omega)
  have h3 : B ^ rt a ≤ B ^ (rt b - 1) := Nat.pow_le_pow_right (by decide) (by omega)
  omega
/-- Of two lists of one length that are the same from some place on, the greater limb ahead of it decides. -/
theorem cmp_at {a b : List Nat} (ha : OK a) (hb : OK b) (hl : a.length = b.length) (k : Nat) (hk : k < a.length) (hk2 : k < b.length) (he : a.drop (k + 1) = b.drop (k + 1)) (hlt : a[k] < b[k]) : val a < val b := by
  rw [val_take_drop a (k + 1) (by omega), val_take_drop b (k + 1) (by omega), he, val_take_succ a k hk, val_take_succ b k hk2]
  have h1 : val (a.take k) < B ^ k := by
    have := val_lt (a.take k) (ok_take ha k)
    rwa [List.length_take, Nat.min_eq_left (by omega)] at this
  have h2 : B ^ k * (a[k] + 1) ≤ B ^ k * b[k] := Nat.mul_le_mul_left _ hlt
  rw [Nat.mul_add, Nat.mul_one] at h2
  omega
theorem fits_len (n : Nat) : (fits n).1.length ≤ 256 := by
  unfold fits; split <;> simp; omega
end Go.Proofs.YtcdndcbfmlnpjaaGreatDoor.Na
