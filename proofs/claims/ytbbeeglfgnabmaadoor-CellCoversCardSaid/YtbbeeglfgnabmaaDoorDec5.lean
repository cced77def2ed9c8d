/- Plain Lean: a decimal that is written. -/
import Derived.Test.YtbbeeglfgnabmaaDoorDec3
import Derived.Lib.ItoaNum
import Derived.Lib.IndexBytes
namespace Go.Proofs.YtbbeeglfgnabmaaDoor.Dc
set_option linter.all false

/-- A decimal's text behind its sign. -/
def body (s l : Bs) (p : Int) : Bs :=
  if l = [] then s ++ [48]
  else if 1 ≤ p ∧ p ≤ 21 ∧ (l.length : Int) ≤ p then s ++ l ++ Lib.repeatL [48] (p - l.length).toNat
  else if 1 ≤ p ∧ p ≤ 21 then s ++ l.take p.toNat ++ [46] ++ l.drop p.toNat
  else if -5 ≤ p ∧ p ≤ 0 then s ++ [48, 46] ++ Lib.repeatL [48] (-p).toNat ++ l
  else
    let t := if 1 < l.length then s ++ l.take 1 ++ ([46] ++ l.drop 1) else s ++ l.take 1
    if p < 1 then t ++ [101, 45] ++ Lib.itoa (1 - p) else t ++ [101, 43] ++ Lib.itoa (p - 1)

def print (n : Bool) (l : Bs) (x : Int) : Bs :=
  if right l x = true then body (if n then [45] else []) l (l.length + x) else []

theorem ba_eq (s : ByteArray) (l : Bs) (h : s.data.toList = l) : s = ⟨l.toArray⟩ := by rw [← h]
theorem ba_app (a b : ByteArray) : (a ++ b).data.toList = a.data.toList ++ b.data.toList := by simp
theorem itoa_len (n : Int) (h : -1000000 ≤ n ∧ n ≤ 1000000) : (Lib.itoa n).length ≤ 30 := by
  have hd : ∀ u : Nat, u ≤ 1000000 → (Lib.decDigits u).length ≤ 29 := fun u hu => by
    rw [Lib.decDigits_length]
    have : ∀ k u : Nat, u < 10 ^ k → Lib.nDigits u ≤ k + 1 := by
      intro k
      induction k with
      | zero => intro u hu; rw [Lib.nDigits_small (by simp at hu; omega)]; omega
      | succ k ih =>
        intro u hu
        by_cases h : u < 10
        · rw [Lib.nDigits_small h]; omega
        · rw [Lib.nDigits_big h]
          have := ih (u / 10) (by rw [Nat.pow_succ] at hu; omega)
          omega
    have := this 7 u (by omega)
    omega
  unfold Lib.itoa
  split
  · rw [List.length_cons]; have := hd n.natAbs (by omega); omega
  · have := hd n.toNat (by omega); omega

end Go.Proofs.YtbbeeglfgnabmaaDoor.Dc
