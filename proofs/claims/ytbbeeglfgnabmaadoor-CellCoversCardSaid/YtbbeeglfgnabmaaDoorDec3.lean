/- Plain Lean: rounding decimals, digit by digit. -/
import Derived.Test.YtbbeeglfgnabmaaDoorDec2
import Derived.Lib.Bytealg
import Derived.Lib.Repeat
namespace Go.Proofs.YtbbeeglfgnabmaaDoor.Dc
set_option linter.all false

/-- The parity of the last sign. -/
def odd (l : Bs) : Bool := match l.getLast? with
  | some c => c.toNat % 2 == 1
  | none => false

/-- What is taken away against half a unit. -/
def half (rest : Bs) : Int := Lib.compareBytes rest [53]

/-- Does it go up? -/
def up (neg : Bool) (kept rest : Bs) (way : Int) : Bool :=
  if rest = [] then false
  else if way = 0 then decide (0 < half rest) || (decide (half rest = 0) && odd kept)
  else if way = 1 then decide (0 ≤ half rest)
  else if way = 3 then true
  else if way = 4 then neg
  else decide (way = 5) && !neg

/-- A text without the nines at its end. -/
def no9 (l : Bs) : Bs := Lib.trimRightB l 57

/-- Digits, and one. -/
def more (l : Bs) : Bs :=
  match (no9 l).getLast? with
  | none => 49 :: Lib.repeatL [48] (l.length - (no9 l).length)
  | some c => (no9 l).dropLast ++ [c + 1] ++ Lib.repeatL [48] (l.length - (no9 l).length)

/-- The first n digits, rounded (n below 0: noughts stand ahead of the first one). -/
def cut (n : Bool) (l : Bs) (x k way : Int) : Res :=
  let kept := l.take k.toNat
  let rest := if k < 0 then 48 :: l else l.drop k.toNat
  mk n (if up n kept rest way then more kept else kept) (x + l.length - k)

theorem and_one (c : UInt8) : bits BinOp.and IntKind.u8 (c.toNat : Int) 1 = ((c.toNat % 2 : Nat) : Int) := by
  have h : ∀ n : Fin 256, bits BinOp.and IntKind.u8 ((n : Nat) : Int) 1 = (((n : Nat) % 2 : Nat) : Int) := by decide +kernel
  exact h ⟨c.toNat, c.toNat_lt⟩

theorem odd_nil {l : Bs} (h : l.length = 0) : odd l = false := by
  rw [List.length_eq_zero_iff.1 h]; rfl
theorem odd_last (s : ByteArray) (h : 0 < s.size) : odd s.data.toList = (((s[s.size - 1].toNat % 2 : Nat) : Int) == 1) := by
  have h1 := last?_bytes s h
  rw [odd, List.getLast?_eq_getElem?, h1]
  simp only []
  rw [Bool.eq_iff_iff]; simp; omega

theorem no9_len (l : Bs) : (no9 l).length ≤ l.length := by
  rw [no9, Lib.trimRightB, List.length_reverse]
  have := (List.dropWhile_sublist (· == 57) (l := l.reverse)).length_le
  simpa using this
theorem no9_mem {l : Bs} {c : UInt8} (h : c ∈ no9 l) : c ∈ l := by
  rw [no9, Lib.trimRightB, List.mem_reverse] at h
  have := (List.dropWhile_sublist _).mem h
  simpa using this
theorem more_nil {l : Bs} (h : no9 l = []) : more l = 49 :: Lib.repeatL [48] (l.length - (no9 l).length) := by
  unfold more
  split
  · rfl
  · rename_i c hc; rw [h] at hc; cases hc
theorem more_cons {l : Bs} {c : UInt8} (h : (no9 l).getLast? = some c) : more l = (no9 l).dropLast ++ [c + 1] ++ Lib.repeatL [48] (l.length - (no9 l).length) := by
  unfold more
  split
  · rename_i hc; rw [h] at hc; cases hc
  · rename_i d hc; rw [h] at hc; cases hc; rfl
theorem dig_mem {l : Bs} (h : allDig l = true) {c : UInt8} (hc : c ∈ l) : 48 ≤ c.toNat ∧ c.toNat ≤ 57 := by
  have := List.all_eq_true.1 h c hc
  simp [isDig] at this; omega

theorem more_parts (s : ByteArray) (hd : allDig s.data.toList = true) : ∃ T Z : ByteArray, T = ⟨(no9 s.data.toList).toArray⟩ ∧ Z = ⟨(Lib.repeatL [48] (s.size - T.size)).toArray⟩ ∧ T.size ≤ s.size ∧
    ((T.size = 0 ∧ (⟨#[49]⟩ : ByteArray) ++ Z = ⟨(more s.data.toList).toArray⟩) ∨
     (∃ (c : UInt8) (h : 0 < T.size), T[T.size - 1] = c ∧ 48 ≤ c.toNat ∧ c.toNat ≤ 57 ∧ T.extract 0 (T.size - 1) ++ ⟨#[c + 1]⟩ ++ Z = ⟨(more s.data.toList).toArray⟩)) := by
  have hl : s.data.toList.length = s.size := by simp
  have hsz : (⟨(no9 s.data.toList).toArray⟩ : ByteArray).size = (no9 s.data.toList).length := by simp [ByteArray.size]
  refine ⟨_, _, rfl, rfl, by rw [hsz, ← hl]; exact no9_len _, ?_⟩
  cases he : (no9 s.data.toList).getLast? with
  | none =>
    have hn : no9 s.data.toList = [] := by simpa using he
    refine .inl ⟨by rw [hsz, hn]; rfl, ?_⟩
    rw [hsz, more_nil hn, hl, show (⟨#[49]⟩ : ByteArray) = ⟨[49].toArray⟩ from rfl, ByteArray.mk_append_mk]; rfl
  | some c =>
    have hc := dig_mem hd (no9_mem (List.mem_of_getLast? he))
    have hpos : 0 < (no9 s.data.toList).length := by
      cases e : no9 s.data.toList with
      | nil => rw [e] at he; cases he
      | cons => simp
    refine .inr ⟨c, by rw [hsz]; exact hpos, ?_, hc.1, hc.2, ?_⟩
    · have h2 := get?_bytes (⟨(no9 s.data.toList).toArray⟩ : ByteArray) ((⟨(no9 s.data.toList).toArray⟩ : ByteArray).size - 1) (by rw [hsz]; omega)
      rw [List.getLast?_eq_getElem?] at he
      have h3 : (⟨(no9 s.data.toList).toArray⟩ : ByteArray).data.toList = no9 s.data.toList := rfl
      rw [h3] at h2
      have h4 : (no9 s.data.toList)[(⟨(no9 s.data.toList).toArray⟩ : ByteArray).size - 1]? = some c := by rw [hsz]; exact he
      rw [h4] at h2
      exact (Option.some.inj h2).symm
    · rw [more_cons he, ByteArray.extract_mk, show (⟨#[c + 1]⟩ : ByteArray) = ⟨[c + 1].toArray⟩ from rfl, ByteArray.mk_append_mk, ByteArray.mk_append_mk, hsz, List.drop_zero, Nat.sub_zero, List.dropLast_eq_take, hl]

/-- Rounded to so many digits. -/
def sig (n : Bool) (l : Bs) (x k way : Int) : Res :=
  if right l x = true ∧ 0 ≤ way ∧ way ≤ 5 ∧ 1 ≤ k then
    if l.length ≤ k then ⟨n, l, x, 0⟩ else cut n l x k way
  else ⟨false, [], 0, 1⟩
/-- Rounded to so many places. -/
def place (n : Bool) (l : Bs) (x k way : Int) : Res :=
  if right l x = true ∧ 0 ≤ way ∧ way ≤ 5 ∧ -100000 ≤ k ∧ k ≤ 100000 then
    if l ≠ [] ∧ point l x + k < l.length then cut n l x (point l x + k) way else ⟨n, l, x, 0⟩
  else ⟨false, [], 0, 1⟩

theorem encode_next (c : UInt8) (h1 : 48 ≤ c.toNat) (h2 : c.toNat ≤ 57) : Utf8.encode ((c.toNat : Int) + 1) = ⟨#[c + 1]⟩ := by
  have h : ∀ n : Fin 256, (n : Nat) ≤ 57 → Utf8.encode (((n : Nat) : Int) + 1) = ⟨#[UInt8.ofNat n + 1]⟩ := by decide +kernel
  have := h ⟨c.toNat, c.toNat_lt⟩ h2
  simpa using this

theorem contains_digs (c : UInt8) : ([48, 49, 50, 51, 52, 53, 54, 55, 56, 57] : List UInt8).contains c = isDig c := by
  have h : ∀ n : Fin 256, ([48, 49, 50, 51, 52, 53, 54, 55, 56, 57] : List UInt8).contains (UInt8.ofNat n) = isDig (UInt8.ofNat n) := by decide +kernel
  have := h ⟨c.toNat, c.toNat_lt⟩
  simpa using this
theorem dropWhile_digs (l : Bs) : Lib.trimLeftS l ([48, 49, 50, 51, 52, 53, 54, 55, 56, 57] : List UInt8) = l.dropWhile isDig := by
  rw [Lib.trimLeftS]; congr 1; funext c; exact contains_digs c

theorem take_tw (l : Bs) (p : UInt8 → Bool) (k : Nat) (h : k + (l.dropWhile p).length = l.length) : l.take k = l.takeWhile p := by
  have e := congrArg List.length (List.takeWhile_append_dropWhile (p := p) (l := l))
  rw [List.length_append] at e
  have := List.take_left' (l₂ := l.dropWhile p) (show (l.takeWhile p).length = k by omega)
  rwa [List.takeWhile_append_dropWhile] at this

theorem dig_take {l : Bs} (h : allDig l = true) (k : Nat) : allDig (l.take k) = true := by
  rw [allDig, List.all_eq_true] at *
  exact fun c hc => h c (List.mem_of_mem_take hc)
theorem more_len (l : Bs) : (more l).length ≤ l.length + 1 := by
  have h := no9_len l
  unfold more
  split
  · rw [List.length_cons, Lib.repeatL_length]; simp
  · rename_i c hc
    have hp : 0 < (no9 l).length := by
      cases e : no9 l with
      | nil => rw [e] at hc; cases hc
      | cons => simp
    rw [List.length_append, List.length_append, List.length_dropLast, Lib.repeatL_length]; simp; omega

theorem cut_rest (s : ByteArray) (k : Int) (h : k ≤ 0) : (⟨(Lib.repeatL [48] (max 0 (min (-k) 1)).toNat).toArray⟩ : ByteArray) ++ s = ⟨(if k < 0 then 48 :: s.data.toList else s.data.toList.drop k.toNat).toArray⟩ := by
  have hs : s = ⟨s.data.toList.toArray⟩ := rfl
  by_cases hk : k < 0
  · rw [if_pos hk, show (max 0 (min (-k) 1)).toNat = 1 by omega]
    conv => lhs; rw [hs]
    rw [ByteArray.mk_append_mk]; rfl
  · rw [if_neg hk, show (max 0 (min (-k) 1)).toNat = 0 by omega, show k.toNat = 0 by omega]
    conv => lhs; rw [hs]
    rw [ByteArray.mk_append_mk]; rfl

end Go.Proofs.YtbbeeglfgnabmaaDoor.Dc
