/- Plain Lean: a step of long division, in lists. -/
import Derived.Test.YtiglekomfgfilaaGreatDoorY12
import Derived.Deep.DeepCutAuto
import Derived.BigRegion
namespace Go.Proofs.YtiglekomfgfilaaGreatDoor.Na
set_option linter.all false
open Go
theorem val_drop_cons (U : List Nat) (j : Nat) (h : j < U.length) : val (U.drop j) = U[j] + B * val (U.drop (j + 1)) := by
  rw [List.drop_eq_getElem_cons h]; rfl
theorem drop_take_succ (U : List Nat) (j k : Nat) (h : j + k < U.length) : val ((U.drop j).take (k + 1)) = val ((U.drop j).take k) + B ^ k * U[j + k] := by
  rw [val_take_succ _ k (by rw [List.length_drop]; omega), List.getElem_drop]
theorem val_take_lt (U : List Nat) (h : OK U) (j k : Nat) : val ((U.drop j).take k) < B ^ k := by
  have h1 := val_lt ((U.drop j).take k) (ok_take (ok_drop h j) k)
  exact Nat.lt_of_lt_of_le h1 (Nat.pow_le_pow_right (by decide) (by rw [List.length_take]; omega))
theorem kn_of (U V : List Nat) (j n : Nat) (hU : OK U) (hV : OK V) (hVl : V.length = n + 2) (hj : j + n + 2 < U.length) (u0 u1 u2 v1 v2 : Nat) (e0 : U[j + n + 2]? = some u0) (e1 : U[j + n + 1]? = some u1) (e2 : U[j + n]? = some u2) (f1 : V[n + 1]? = some v1) (f2 : V[n]? = some v2) (hv : 0 < v1)
    (hlt : val (U.drop (j + 1)) < val V) :
    Kn (val ((U.drop j).take (n + 3))) (val V) (B ^ n) (u0 * B + u1) u2 (val ((U.drop j).take n)) v1 v2 (val (V.take n)) ∧ val (U.drop (j + n + 3)) = 0 := by
  obtain ⟨_, rfl⟩ := List.getElem?_eq_some_iff.1 e0
  obtain ⟨_, rfl⟩ := List.getElem?_eq_some_iff.1 e1
  obtain ⟨_, rfl⟩ := List.getElem?_eq_some_iff.1 e2
  obtain ⟨_, rfl⟩ := List.getElem?_eq_some_iff.1 f1
  obtain ⟨_, rfl⟩ := List.getElem?_eq_some_iff.1 f2
  have hX : val ((U.drop j).take (n + 3)) = ((U[j + n + 2] * B + U[j + n + 1]) * B + U[j + n]) * B ^ n + val ((U.drop j).take n) := by
    rw [drop_take_succ U j (n + 2) hj, drop_take_succ U j (n + 1) (by omega), drop_take_succ U j n (by omega)]
    simp only [show j + (n + 2) = j + n + 2 by omega, show j + (n + 1) = j + n + 1 by omega]
    rw [show B ^ (n + 2) = B ^ n * B * B by rw [Nat.pow_succ, Nat.pow_succ], show B ^ (n + 1) = B ^ n * B by rw [Nat.pow_succ]]
    simp only [Nat.add_mul, Nat.mul_add, Nat.mul_comm, Nat.mul_left_comm, Nat.mul_assoc]
    omega
  have hVe : val V = (V[n + 1] * B + V[n]) * B ^ n + val (V.take n) := by
    have h1 := val_take_succ V (n + 1) (by omega)
    rw [List.take_of_length_le (by omega), val_take_succ V n (by omega)] at h1
    rw [h1, Nat.pow_succ, Nat.add_mul, Nat.mul_assoc (B ^ n) B, Nat.mul_comm (B ^ n) (B * V[n + 1]), Nat.mul_comm (B ^ n) V[n], Nat.mul_comm B V[n + 1]]
    omega
  have hVlt : val V < B ^ (n + 2) := by have := val_lt V hV; rwa [hVl] at this
  have hall : val (U.drop j) < val V * B := by
    rw [val_drop_cons U j (by omega)]
    have h1 : U[j] < B := hU _ (List.getElem_mem _)
    have h2 := Nat.mul_le_mul_left B (show val (U.drop (j + 1)) + 1 ≤ val V from hlt)
    rw [Nat.mul_add, Nat.mul_one] at h2
    rw [Nat.mul_comm (val V)]
    omega
  have hsplit := val_take_drop (U.drop j) (n + 3) (by rw [List.length_drop]; omega)
  rw [List.drop_drop, show j + (n + 3) = j + n + 3 by omega] at hsplit
  have h0 : val (U.drop (j + n + 3)) = 0 := by
    rcases Nat.eq_zero_or_pos (val (U.drop (j + n + 3))) with h | h
    · exact h
    · exfalso
      have h1 := Nat.mul_le_mul_left (B ^ (n + 3)) h
      have h2 : val V * B ≤ B ^ (n + 3) := by rw [Nat.pow_succ B (n + 2)]; exact Nat.mul_le_mul_right B (Nat.le_of_lt hVlt)
      omega
  have hlow := val_take_lt V hV 0 n
  rw [List.drop_zero] at hlow
  have hXe : val (U.drop j) = val ((U.drop j).take (n + 3)) := by rw [h0, Nat.mul_zero, Nat.add_zero] at hsplit; exact hsplit
  exact ⟨⟨hX, hVe, val_take_lt U hU j n, hlow, hU _ (List.getElem_mem _), hV _ (List.getElem_mem _), hv, by rw [← hXe]; exact hall⟩, h0⟩
theorem kn_next (U U' Q : List Nat) (j n X VV r q A : Nat) (hl : U'.length = U.length) (hj : j + n + 2 < U.length) (hjQ : j < Q.length) (ht : U'.take j = U.take j) (hd : U'.drop (j + n + 3) = U.drop (j + n + 3)) (h0 : val (U.drop (j + n + 3)) = 0)
    (hX : val ((U.drop j).take (n + 3)) = X) (hr : val ((U'.drop j).take (n + 3)) = r) (he : X = VV * q + r) (inv : val U + VV * (B ^ (j + 1) * val (Q.drop (j + 1))) = A) :
    val U' + VV * (B ^ j * val ((Q.set j q).drop j)) = A ∧ val (U'.drop j) = r := by
  have s1 := val_take_drop (U.drop j) (n + 3) (by rw [List.length_drop]; omega)
  have s2 := val_take_drop (U'.drop j) (n + 3) (by rw [List.length_drop]; omega)
  rw [List.drop_drop, show j + (n + 3) = j + n + 3 by omega, h0, Nat.mul_zero, Nat.add_zero, hX] at s1
  rw [List.drop_drop, show j + (n + 3) = j + n + 3 by omega, hd, h0, Nat.mul_zero, Nat.add_zero, hr] at s2
  refine ⟨?_, s2⟩
  have t1 := val_take_drop U j (by omega)
  have t2 := val_take_drop U' j (by omega)
  rw [s1] at t1
  rw [s2, ht] at t2
  have hQ : val ((Q.set j q).drop j) = q + B * val (Q.drop (j + 1)) := by
    rw [val_drop_cons _ j (by rw [List.length_set]; exact hjQ), List.getElem_set_self, List.drop_set, if_pos (by omega)]
  rw [hQ, t2, ← inv, t1, he]
  simp only [Nat.mul_add, Nat.pow_succ]
  rw [Nat.mul_assoc (B ^ j) B, Nat.mul_left_comm (B ^ j) VV q]
  omega
theorem kn_done (U Q VV a b s : Nat) (hb : VV = b * 2 ^ s) (hlt : U < VV) (h : U + VV * (1 * Q) = a * 2 ^ s) : Q = a / b ∧ U / 2 ^ s = a % b := by
  have hs : 0 < 2 ^ s := Nat.pow_pos (by decide)
  have hb0 : 0 < b := by
    rcases Nat.eq_zero_or_pos b with h | h
    · rw [h, Nat.zero_mul] at hb; omega
    · exact h
  rw [Nat.one_mul, hb] at h
  rw [hb] at hlt
  have h1 : U / 2 ^ s + b * Q = a := by
    have e : (U + b * 2 ^ s * Q) / 2 ^ s = a := by rw [h]; exact Nat.mul_div_cancel _ hs
    rw [Nat.mul_right_comm, Nat.add_mul_div_right _ _ hs] at e
    exact e
  have h2 : U / 2 ^ s < b := by rw [Nat.div_lt_iff_lt_mul hs]; exact hlt
  rw [← h1]
  constructor
  · rw [Nat.add_mul_div_left _ _ hb0, Nat.div_eq_of_lt h2]; omega
  · rw [Nat.add_mul_mod_self_left, Nat.mod_eq_of_lt h2]
theorem kn_first (U : List Nat) (k L N b s : Nat) (hl : k ≤ U.length) (hA : val U = L * 2 ^ s) (hL : L < B ^ (N + k)) (hb : B ^ N ≤ b) : val (U.drop k) < b * 2 ^ s := by
  have h1 := val_take_drop U k hl
  have hp : 0 < B ^ k := Nat.pow_pos (by decide)
  have h2 : B ^ k * val (U.drop k) < B ^ k * (b * 2 ^ s) := by
    have h3 : L * 2 ^ s < B ^ (N + k) * 2 ^ s := Nat.mul_lt_mul_of_pos_right hL (Nat.pow_pos (by decide))
    have h4 : B ^ (N + k) * 2 ^ s ≤ B ^ k * (b * 2 ^ s) := by
      rw [Nat.pow_add, Nat.mul_comm (B ^ N), Nat.mul_assoc]
      exact Nat.mul_le_mul_left _ (Nat.mul_le_mul_right _ hb)
    omega
  exact Nat.lt_of_mul_lt_mul_left h2
end Go.Proofs.YtiglekomfgfilaaGreatDoor.Na

/- long: the set-up. -/
namespace Go.Proofs.YtiglekomfgfilaaGreatDoor
set_option maxRecDepth 100000
set_option maxHeartbeats 4000000
set_option linter.all false
open Go.RowKit
theorem make_run_at {P : Program} {t e : TypeId} {ti : TypeInfo} (ht : P.underlying t = some (.slice e)) (hi : P.info? e = some ti) (hz : ti.zero = some (.int .u32 0)) (h1 : ti.size = 1) (h4 : ti.bytes = 4) {n : Nat} (hn : n ≤ 1000000) (w : World) :
    (Instr.makeSlice t (.int .i64 (n : Int)) (.int .i64 (n : Int))).run P w = .ok (.slice (some ⟨w.heap.size, 0, none⟩) n n) (w.alloc (.cells (u32s (List.replicate n 0)).toArray e)) := by
  rw [run_make (P := P) w t e ti (.int .u32 0) ht hi hz .i64 .i64 n n (by omega) (Int.le_refl _) (by rw [h4]; omega) (by omega)]
  simp only [Int.toNat_natCast]
  congr 3
  rw [h1]
  apply Array.ext'
  simp [u32s, madeCells, Value.cells, Nat.mod_one, List.map_const']
theorem make_run {n : Nat} (hn : n ≤ 1000000) (w : World) : (Instr.makeSlice 100 (.int .i64 (n : Int)) (.int .i64 (n : Int))).run Tryz.prog w = .ok (.slice (some ⟨w.heap.size, 0, none⟩) n n) (w.alloc (.cells (u32s (List.replicate n 0)).toArray 81)) := by
  obtain ⟨ti, hi, hz0, hz1, hz2⟩ := info_parts infoU32
  exact make_run_at Tryz.underlying100 hi hz0 hz1 hz2 hn w
theorem blk_new (w : World) (l : List Nat) : Blk (w.alloc (.cells (u32s l).toArray 81)) w.heap.size l := by
  show (w.heap.push _)[w.heap.size]? = _; simp
theorem two_new (w : World) (l m : List Nat) : Blk ((w.alloc (.cells (u32s l).toArray 81)).alloc (.cells (u32s m).toArray 81)).drew w.heap.size l ∧ Blk ((w.alloc (.cells (u32s l).toArray 81)).alloc (.cells (u32s m).toArray 81)).drew (w.heap.size + 1) m ∧
    Below w.heap.size w ((w.alloc (.cells (u32s l).toArray 81)).alloc (.cells (u32s m).toArray 81)).drew := by
  have h1 := blk_new w l
  have h2 := blk_new (w.alloc (.cells (u32s l).toArray 81)) m
  rw [World.size_alloc] at h2
  exact ⟨h1.on (((Below.refl _ _).alloc (Nat.le_refl _) _).drew), h2, (((Below.refl _ _).alloc (Nat.le_refl _) _).alloc (by simp) _).drew⟩
def ShiftV (g N v : Nat) (w : World) (e : Ending) (w' : World) : Prop := e = .returned (.tuple #[]) ∧ Onl g w w' ∧ ∃ o, Blk w' g o ∧ o.length = N ∧ Na.OK o ∧ Na.val o = v
theorem na_shift_whole (g N c s ca : Nat) (O q : List Nat) (a : Option Addr) (w : World) (hb : Blk w g O) (hok : Na.OK O) (hl : O.length = N) (hs : ∀ wr, Below g w wr → Sl wr a ca q) (hs2 : s < 32) (hq : q.length ≤ N) (hN : N ≤ 1000000) (hlt : Na.val q * 2 ^ s < Na.B ^ N) :
    Calls Tryz.prog 116 #[.slice (some ⟨g, 0, none⟩) N c, .slice a q.length ca, .int .i64 s] w (ShiftV g N (Na.val q * 2 ^ s) w) :=
  (na_shift_onl g 0 N c s ca O q a w hb hok (by omega) hs hs2 (by omega) (by omega)).mono fun e w' ⟨he, ho, o, h1, h2, h3, _, cc, h5⟩ => by
    refine ⟨he, ho, o, h1, by omega, h3, ?_⟩
    rw [List.take_of_length_le hq, List.drop_zero] at h5
    rcases Nat.eq_zero_or_pos cc with h0 | h0
    · rw [h0] at h5; omega
    · have := Nat.mul_le_mul_left (Na.B ^ N) h0
      omega
theorem Na.ok_zeros (k : Nat) : Na.OK (List.replicate k 0) := fun x hx => by rw [List.eq_of_mem_replicate hx]; decide
theorem Na.norm_lt {m : List Nat} {n x s : Nat} (hok : Na.OK m) (hn : m.length = n + 2) (hx : m[n + 1]? = some x) (h0 : x ≠ 0) (hs : s = 32 - Lib.bitLen x) : Na.val m * 2 ^ s < Na.B ^ (n + 2) ∧ Na.B ^ (n + 1) ≤ Na.val m := by
  obtain ⟨hlt, hx'⟩ := List.getElem?_eq_some_iff.1 hx
  have h1 := Na.val_take_succ m (n + 1) hlt
  rw [hx', List.take_of_length_le (by omega)] at h1
  have h2 := Na.val_lt (m.take (n + 1)) (Na.ok_take hok _)
  rw [List.length_take, Nat.min_eq_left (by omega)] at h2
  have hxl : x < 4294967296 := by rw [← hx']; exact hok _ (List.getElem_mem hlt)
  have hb : Lib.bitLen x = Nat.log2 x + 1 := Na.libBitLen x h0 (Nat.lt_trans hxl (by decide))
  have hb2 : x < 2 ^ Lib.bitLen x := by rw [hb]; exact Nat.lt_log2_self
  have hb3 : Lib.bitLen x ≤ 32 := Lib.bitLen_le x 32 (by omega) hxl
  have h3 : x + 1 ≤ 2 ^ Lib.bitLen x := hb2
  have h4 : 2 ^ Lib.bitLen x * 2 ^ s = Na.B := by rw [← Nat.pow_add, show Lib.bitLen x + s = 32 by omega]
  have h5 : Na.B ^ (n + 1) * (x + 1) ≤ Na.B ^ (n + 1) * 2 ^ Lib.bitLen x := Nat.mul_le_mul_left _ h3
  have h6 : Na.val m < Na.B ^ (n + 1) * 2 ^ Lib.bitLen x := by rw [Nat.mul_add, Nat.mul_one] at h5; omega
  constructor
  · have h7 := Nat.mul_lt_mul_of_pos_right h6 (show 0 < 2 ^ s from Nat.pow_pos (by decide))
    rw [Nat.mul_assoc, h4, ← Nat.pow_succ] at h7
    exact h7
  · have := Nat.mul_le_mul_left (Na.B ^ (n + 1)) (show 1 ≤ x by omega)
    omega
theorem Onl.drew1 {g : Nat} {a b : World} (h : Onl g a b) : Onl g a b.drew := ⟨h.below.drew, h.block⟩
def Sh (w w' : World) : Prop := w'.heap = w.heap ∧ Below w.heap.size w w'
theorem Sh.refl (w : World) : Sh w w := ⟨rfl, Below.refl _ _⟩
theorem Sh.drew {w w' : World} (h : Sh w w') (n : Nat) : Sh w (w'.drewN n) := ⟨h.1, below_drewN' h.2 n⟩
theorem Blk.sh {w w' : World} {g : Nat} {o : List Nat} (h : Blk w g o) (hs : Sh w w') : Blk w' g o := by unfold Blk; rw [hs.1]; exact h
def GivesL2 (p q : List Nat) (w : World) (e : Ending) (w' : World) : Prop := ∃ a c a' c', e = .returned (.tuple #[.slice a p.length c, .slice a' q.length c']) ∧ Sl w' a c p ∧ Own w' w.heap.size a p.length ∧ Sl w' a' c' q ∧ Own w' w.heap.size a' q.length ∧ Below w.heap.size w w'
def backLoop (N s gr : Nat) (U : List Nat) (w : World) (iv : Value) (wr : World) : Prop := ∃ (i : Nat) (R : List Nat), i ≤ N ∧ iv = .int .i64 i ∧ Hid (Blk wr gr R) ∧ Hid (R.length = N) ∧ Hid (Na.OK R) ∧ Hid (Na.val (R.take i) + Na.B ^ i * (Na.val (U.drop i) / 2 ^ s) = Na.val U / 2 ^ s) ∧ Hid (Onl gr w wr)
def longLoop (N mm gu gv gq : Nat) (V : List Nat) (A : Nat) (w : World) (iv : Value) (wr : World) : Prop := ∃ (i : Nat) (U Q : List Nat), i ≤ mm + 1 ∧ iv = .int .i64 i ∧ Hid (Blk wr gu U) ∧ Hid (U.length = N + mm + 1) ∧ Hid (Na.OK U) ∧ Hid (Blk wr gq Q) ∧ Hid (Q.length = mm + 1) ∧ Hid (Na.OK Q) ∧ Hid (Blk wr gv V) ∧
  Hid (Na.val U + Na.val V * (Na.B ^ (mm + 1 - i) * Na.val (Q.drop (mm + 1 - i))) = A) ∧ Hid (Na.val (U.drop (mm + 1 - i)) < Na.val V) ∧ Hid (Below w.heap.size w wr)
theorem Na.last_pos {V : List Nat} {n v : Nat} (hok : Na.OK V) (hl : V.length = n + 2) (h : Na.B ^ (n + 1) ≤ Na.val V) (hv : V[n + 1]? = some v) : 0 < v := by
  obtain ⟨_, rfl⟩ := List.getElem?_eq_some_iff.1 hv
  rcases Nat.eq_zero_or_pos (V[n + 1]'(by omega)) with h0 | h0
  · have h1 := Na.val_take_succ V (n + 1) (by omega)
    rw [h0, List.take_of_length_le (by omega)] at h1
    have h2 := Na.val_lt (V.take (n + 1)) (Na.ok_take hok _)
    rw [List.length_take, Nat.min_eq_left (by omega)] at h2
    omega
  · exact h0
theorem Na.ok_at {U : List Nat} (h : Na.OK U) {k x : Nat} (e : U[k]? = some x) : x < 4294967296 := by
  obtain ⟨hk, rfl⟩ := List.getElem?_eq_some_iff.1 e
  exact h _ (List.getElem_mem hk)
theorem Blk.at {w : World} {g : Nat} {o : List Nat} (h : Blk w g o) {k x : Nat} (e : o[k]? = some x) : w.cell? ⟨g, k, none⟩ = some (.int .u32 (x : Int)) := by
  obtain ⟨hk, rfl⟩ := List.getElem?_eq_some_iff.1 e
  exact h.cell k hk
theorem Na.back_step (U R : List Nat) (k s x y : Nat) (hs : s < 32) (hx : U[k]? = some x) (hy : U[k + 1]? = some y) (hxl : x < 4294967296) (hr : k < R.length) (inv : Na.val (R.take k) + Na.B ^ k * (Na.val (U.drop k) / 2 ^ s) = Na.val U / 2 ^ s) :
    Na.val ((R.set k ((x + y * 4294967296) / 2 ^ s % 4294967296)).take (k + 1)) + Na.B ^ (k + 1) * (Na.val (U.drop (k + 1)) / 2 ^ s) = Na.val U / 2 ^ s := by
  obtain ⟨h1, hx'⟩ := List.getElem?_eq_some_iff.1 hx
  obtain ⟨h2, rfl⟩ := List.getElem?_eq_some_iff.1 hy
  rw [Na.val_set_take R k _ hr]
  exact Na.shr_step U k s x _ hs h1 hx' hxl ⟨Na.val (U.drop (k + 1 + 1)), by rw [List.drop_eq_getElem_cons h2]; rfl⟩ _ _ inv
theorem Blk.other {w : World} {g k i : Nat} {o : List Nat} {u : Value} (h : Blk w k o) (hk : k ≠ g) : Blk (w.setCell ⟨g, i, none⟩ u) k o := (Below.heap_setCell _ _ _ _ hk).trans h
theorem Na.val_le_pow {V : List Nat} {k : Nat} (h : Na.OK V) (hl : V.length ≤ k) : Na.val V ≤ Na.B ^ k := Nat.le_of_lt (Nat.lt_of_lt_of_le (Na.val_lt V h) (Nat.pow_le_pow_right (by decide) hl))
theorem Na.taken_at {U U6 V : List Nat} {N n j X VV br d : Nat} (hN : N = n + 2) (hX : X = Na.val ((U.drop j).take (n + 3))) (hVV : VV = Na.val V) (h : Na.val ((U.drop j).take (N + 1)) + Na.B ^ (N + 1) * br = Na.val ((U6.drop j).take (N + 1)) + d * Na.val V) :
    X + Na.B ^ (N + 1) * br = Na.val ((U6.drop j).take (N + 1)) + d * VV := by
  rw [hX, hVV, ← h, show N + 1 = n + 3 by omega]
theorem longLoop.next {N mm gu gv gq A n j i q X VV : Nat} {V U U' Q : List Nat} {w w' : World} (hN : N = n + 2) (hj : mm = i + j) (hX : X = Na.val ((U.drop j).take (n + 3))) (hVV : VV = Na.val V) (hz : Na.val (U.drop (j + n + 3)) = 0) (hUl : U.length = N + mm + 1) (hQl : Q.length = mm + 1) (hQk : Na.OK Q)
    (inv : Na.val U + Na.val V * (Na.B ^ (j + 1) * Na.val (Q.drop (j + 1))) = A) (hU' : Blk w' gu U') (hl7' : U'.length = U.length) (hU'k : Na.OK U') (ht : U'.take j = U.take j) (hd : U'.drop (j + (N + 1)) = U.drop (j + (N + 1))) (hr : Na.val ((U'.drop j).take (N + 1)) = X % VV)
    (hq : q = X / VV) (hqB : q < 4294967296) (hQ' : Blk w' gq Q) (hV' : Blk w' gv V) (hne : gq ≠ gu) (hne2 : gq ≠ gv) (hb : Below w.heap.size w w') (hgq : w.heap.size ≤ gq) (hVV0 : 0 < VV) :
    longLoop N mm gu gv gq V A w (.int .i64 ((i : Int) + 1)) (w'.setCell ⟨gq, j, none⟩ (.int .u32 (q : Int))) := by
  rw [show j + (N + 1) = j + n + 3 by omega] at hd
  rw [show N + 1 = n + 3 by omega] at hr
  obtain ⟨e1, e2⟩ := Na.kn_next U U' Q j n X VV (X % VV) q A hl7' (by omega) (by omega) ht hd hz hX.symm hr (by rw [hq]; exact (Nat.div_add_mod _ _).symm) (by rw [hVV]; exact inv)
  have hmj : mm + 1 - (i + 1) = j := by omega
  refine ⟨i + 1, U', Q.set j q, by omega, by go_num, Lib.hid (hU'.other (Ne.symm hne)), Lib.hid (hl7'.trans hUl), Lib.hid hU'k, Lib.hid (hQ'.set j q), Lib.hid (by rw [List.length_set]; exact hQl), Lib.hid (Na.ok_set hQk j q hqB), Lib.hid (hV'.other (Ne.symm hne2)), Lib.hid ?_, Lib.hid ?_, Lib.hid (hb.setCell hgq _)⟩
  · rw [hmj, ← hVV]; exact e1
  · rw [hmj, e2, ← hVV]; exact Nat.mod_lt _ hVV0
theorem longLoop.first {w w4 : World} {gv gu gq n N mm s : Nat} {U V m l : List Nat} (hN : N = n + 2) (h1 : Blk w4 gu U) (h2 : U.length = N + mm + 1) (h3 : Na.OK U) (h4 : Na.val U = Na.val l * 2 ^ s) (h5 : Blk w4 gq (List.replicate (mm + 1) 0)) (h6 : Blk w4 gv V) (h7 : Na.val V = Na.val m * 2 ^ s)
    (h8 : l.length = N + mm) (h9 : Na.OK l) (h10 : Na.B ^ (n + 1) ≤ Na.val m) (h11 : Below w.heap.size w w4) : longLoop N mm gu gv gq V (Na.val l * 2 ^ s) w (.int .i64 ((0 : Nat) : Int)) w4 := by
  refine ⟨0, U, List.replicate (mm + 1) 0, Nat.zero_le _, rfl, Lib.hid h1, Lib.hid h2, Lib.hid h3, Lib.hid h5, Lib.hid (List.length_replicate ..), Lib.hid (Na.ok_zeros _), Lib.hid h6, Lib.hid ?_, Lib.hid ?_, Lib.hid h11⟩
  · rw [Nat.sub_zero, List.drop_of_length_le (by simp), h4]
    show _ + _ * (_ * 0) = _
    rw [Nat.mul_zero, Nat.mul_zero, Nat.add_zero]
  · rw [Nat.sub_zero, h7]
    exact Na.kn_first U (mm + 1) (Na.val l) (n + 1) (Na.val m) s (by omega) h4 (by rw [show n + 1 + (mm + 1) = N + mm by omega, ← h8]; exact Na.val_lt l h9) h10
theorem na_long_any (a : Option Addr) (ca : Nat) (l : List Nat) (b : Option Addr) (cb : Nat) (m : List Nat) (n N1 N mm : Nat) (w : World) (h : Sl w a ca l) (h' : Sl w b cb m) (hN : N = N1 + 1) (hN1 : N1 = n + 1) (hn : m.length = N) (hm : l.length = N + mm) (hl : l.length ≤ 256) (hlast : m[n + 1]'(by omega) ≠ 0) :
    Calls Tryz.prog 189 #[.slice a l.length ca, .slice b m.length cb] w (GivesL2 (Na.limbs (Na.val l / Na.val m)) (Na.limbs (Na.val l % Na.val m)) w) := by
  obtain ⟨bb, ob, rfl, hbb, hcb⟩ := h'.plain (by omega)
  obtain ⟨ba, oa, rfl, hba, -⟩ := h.plain (by omega)
  have c1 := hcb N1 (by omega)
  obtain ⟨x, hx⟩ : ∃ x, m[N1]'(by omega) = x := ⟨_, rfl⟩
  have hxl : m[N1]'(by omega) < 4294967296 := h'.ok _ (List.getElem_mem (by omega))
  have hxm : m[n + 1]? = some x := by rw [← hx]; subst hN1; exact List.getElem?_eq_getElem _
  have hlast' : x ≠ 0 := by
    have e := List.getElem?_eq_getElem (l := m) (i := n + 1) (by omega)
    rw [e] at hxm
    rw [← Option.some.inj hxm]; exact hlast
  rw [hx] at c1 hxl
  have HX := Lib.hid hxm
  have hbl : Lib.bitLen x ≤ 32 := Lib.bitLen_le x 32 (by omega) hxl
  obtain ⟨s, hs⟩ : ∃ s, s = 32 - Lib.bitLen x := ⟨_, rfl⟩
  have H1 := Lib.hid ((Tryz.bits_LeadingZeros32 (x : Int) w (by omega) (by omega)).mono fun e w' he => (⟨by rw [he.1, Int.toNat_natCast]; congr 2; omega, he.2.symm⟩ : Ret0 (.int .i64 s) w e w'))
  have HSX := Lib.hid hs
  have HS1 := Lib.hid h; have HS2 := Lib.hid h'
  have hmk1 := fun w => make_run (n := N) (by omega) w
  have hmk2 := fun w => make_run (n := N + mm + 1) (by omega) w
  rw [show ((N + mm + 1 : Nat) : Int) = (N : Int) + mm + 1 by simp] at hmk2
  rw [hn, hm]
  have HN := Lib.hid hn; have HM := Lib.hid hm; have HL0 := Lib.hid hlast'
  have HNN := Lib.hid (show N = n + 2 by omega)
  have hNb : 2 ≤ N := by omega
  have hNi : (N : Int) - 1 = (N1 : Int) := by omega
  have hNlt : N1 < N := by omega
  have HN1 := Lib.hid hN1
  have hn1 : n < N1 := by omega
  have hni : (N : Int) - 2 = (n : Int) := by omega
  rw [hm] at hl
  have hmi : (N : Int) + mm - (N : Int) = (mm : Int) := by omega
  clear hcb hx hs hn hm h h' hlast hlast' hN hN1 hxm
  go_enter Tryz.func189, Tryz.ntmps189
  go_wp2_with (first | (go_at_call 208; (with_reducible refine (H1.out).mono ?_); rintro e w' ⟨rfl, rfl⟩))
  go_upto_region 3 with (fail)
  go_cut [9, 10] (fun v u w1 => ∃ gv gu : Nat, v = .slice (some ⟨gv, 0, none⟩) N N ∧ u = .slice (some ⟨gu, 0, none⟩) (N + mm + 1) (N + mm + 1) ∧ w.heap.size ≤ gv ∧ w.heap.size ≤ gu ∧ gv ≠ gu ∧ Hid (Blk w1 gv (List.replicate N 0)) ∧ Hid (Blk w1 gu (List.replicate (N + mm + 1) 0)) ∧ Hid (Below w.heap.size w w1))
  case first =>
    have T1 := Lib.hid (two_new w (List.replicate N 0) (List.replicate (N + mm + 1) 0))
    have T2 := Lib.hid (two_new w (List.replicate (N + mm + 1) 0) (List.replicate N 0))
    go_region
    all_goals (go_wp2; go_meet)
    all_goals first | exact ⟨w.heap.size, w.heap.size + 1, rfl, rfl, Nat.le_refl _, Nat.le_succ _, by omega, Lib.hid T1.out.1, Lib.hid T1.out.2.1, Lib.hid T1.out.2.2⟩ | exact ⟨w.heap.size + 1, w.heap.size, rfl, rfl, Nat.le_succ _, Nat.le_refl _, by omega, Lib.hid T2.out.2.1, Lib.hid T2.out.1, Lib.hid T2.out.2.2⟩
  case rest => as_aux_lemma =>
    clear hmk1 hmk2
    obtain ⟨gv, gu, rfl, rfl, hgv, hgu, hne, HV, HU, HB⟩ := hcut
    obtain ⟨hV1, hV2⟩ := Na.norm_lt HS2.out.ok (HN.out.trans HNN.out) HX.out HL0.out HSX.out
    have hs32 : s < 32 := by
      have := HSX.out
      have h2 : 1 ≤ Lib.bitLen x := by rw [Na.libBitLen x HL0.out (Nat.lt_trans hxl (by decide))]; omega
      omega
    rw [← HNN.out] at hV1
    have HSH1 := Lib.hid (na_shift_whole gv N N s cb (List.replicate N 0) m (some ⟨bb, ob, none⟩) wc HV.out (Na.ok_zeros _) (by simp) (fun wr hb => (HS2.out.on HB.out).below hb (fun ad e => by cases e; show bb < gv; omega)) hs32 (by rw [HN.out]; exact Nat.le_refl _) (by omega) hV1)
    have hU1 : Na.val l * 2 ^ s < Na.B ^ (N + mm + 1) := by
      have h1 := Na.val_lt l HS1.out.ok
      rw [HM.out] at h1
      have h2 : 2 ^ s ≤ Na.B := Nat.le_trans (Nat.pow_le_pow_right (by decide) (show s ≤ 32 by omega)) (by decide)
      rw [Nat.pow_succ]
      exact Nat.lt_of_lt_of_le (Nat.mul_lt_mul_of_pos_right h1 (Nat.pow_pos (by decide))) (Nat.mul_le_mul_left _ h2)
    have HSH2 := Lib.hid (fun w2 (hb : Onl gv wc w2) => na_shift_whole gu (N + mm + 1) (N + mm + 1) s ca (List.replicate (N + mm + 1) 0) l (some ⟨ba, oa, none⟩) w2 (HU.out.onl hb (Ne.symm hne)) (Na.ok_zeros _) (by simp) (fun wr hb2 => ((HS1.out.on HB.out).below hb.below (fun ad e => by cases e; show ba < gv; omega)).below hb2 (fun ad e => by cases e; show ba < gu; omega)) hs32 (by rw [HM.out]; omega) (by omega) hU1)
    rw [HN.out] at HSH1
    rw [HM.out] at HSH2
    have HV1 := Lib.hid hV1; have HV2 := Lib.hid hV2; have HU1 := Lib.hid hU1
    clear hV1 hV2 hU1
    go_wp2_with (first
      | (go_at_call 116; (with_reducible refine (HSH1.out).mono ?_); rintro e w2 ⟨rfl, ho2, V, hkV, hlV, hokV, hvV⟩)
      | (go_at_call 116; (with_reducible refine (HSH2.out _ ho2).mono ?_); rintro e w3 ⟨rfl, ho3, U, hkU, hlU, hokU, hvU⟩)
      | (at_make; refine mk_u32 rfl _ _ rfl _ _ (mm + 1) rfl rfl (by simp) (by simp) (by omega) ?_))
    intro w4 hK hgrow
    have hB2 : Below w.heap.size w w2 := HB.out.trans (ho2.up hgv)
    have hB3 : Below w.heap.size w w3 := hB2.trans (ho3.up hgu)
    have hB4 : Below w.heap.size w w4 := hgrow.out _ _ hB3 hB3.size
    have hB34 : Below w3.heap.size w3 w4 := hgrow.out _ _ (Below.refl _ _) (Nat.le_refl _)
    have hkV3 := hkV.onl ho3 hne
    have hgvq := hkV3.lt
    have hguq := hkU.lt
    have hQ0 := hK.out
    obtain ⟨gq, hgq⟩ : ∃ g, g = w3.heap.size := ⟨_, rfl⟩
    rw [← hgq] at hQ0 hgvq hguq hB34 ⊢
    have HAtS := Lib.hid (longLoop.first (w := w) (w4 := w4) (gv := gv) (gu := gu) (gq := gq) (U := U) (V := V) (m := m) (l := l) (n := n) (N := N) (mm := mm) (s := s) HNN.out (hkU.below hB34 hguq) hlU hokU hvU hQ0 (hkV3.below hB34 hgvq) hvV HM.out HS1.out.ok HV2.out hB4)
    have HLV := Lib.hid hlV; have HOV := Lib.hid hokV; have HVV := Lib.hid hvV
    have hgq0 : w.heap.size ≤ gq := by omega
    clear hK hgrow hB2 hB3 hB4 hB34 hkV3 hQ0 hkV hkU hlU hokU hvU ho2 ho3 HV HU hgq HSH1 HSH2 hlV hokV hvV c1 hbb hba HB hmi
    go_wp2_with fail
    go_loopw [52] (longLoop N mm gu gv gq V (Na.val l * 2 ^ s) w) (fun i _ => mm + 1 - (intOf i).toNat)
    case atStart => exact HAtS.out
    case round =>
      clear HAtS
      obtain ⟨wo, rfl⟩ : ∃ wo : World, wo = wr := ⟨_, rfl⟩
      obtain ⟨i, U, Q, hi, rfl, HU, HUl, HUk, HQ, HQl, HQk, HV, HInv, HLt, HBe⟩ := hrel
      by_cases hlt : i < mm + 1
      · obtain ⟨j, hj⟩ : ∃ j, mm = i + j := ⟨mm - i, by omega⟩
        have hij : (mm : Int) - (i : Int) = (j : Int) := by omega
        have hjj : mm + 1 - i = j + 1 := by omega
        rw [hjj] at HInv HLt
        have hul := HUl.out
        have hvl := HLV.out.trans HNN.out
        have hnn := HNN.out
        have g0 : j + n + 2 < U.length := by omega
        obtain ⟨u0, q0⟩ : ∃ x, U[j + n + 2]? = some x := ⟨_, List.getElem?_eq_getElem (by omega)⟩
        obtain ⟨u1, q1⟩ : ∃ x, U[j + n + 1]? = some x := ⟨_, List.getElem?_eq_getElem (by omega)⟩
        obtain ⟨u2, q2⟩ : ∃ x, U[j + n]? = some x := ⟨_, List.getElem?_eq_getElem (by omega)⟩
        obtain ⟨v1, p1⟩ : ∃ x, V[n + 1]? = some x := ⟨_, List.getElem?_eq_getElem (by omega)⟩
        obtain ⟨v2, p2⟩ : ∃ x, V[n]? = some x := ⟨_, List.getElem?_eq_getElem (by omega)⟩
        obtain ⟨J2, hJ2⟩ : ∃ J, J = j + n + 2 := ⟨_, rfl⟩
        obtain ⟨J1, hJ1⟩ : ∃ J, J = j + n + 1 := ⟨_, rfl⟩
        obtain ⟨J0, hJ0⟩ : ∃ J, J = j + n := ⟨_, rfl⟩
        have b0 := Na.ok_at HUk.out q0
        have b1 := Na.ok_at HUk.out q1
        have b2 := Na.ok_at HUk.out q2
        have d1 := Na.ok_at HOV.out p1
        have d2 := Na.ok_at HOV.out p2
        have hv1 : 0 < v1 := Na.last_pos HOV.out hvl (by rw [HVV.out]; exact Nat.le_trans HV2.out (Nat.le_mul_of_pos_right _ (Nat.pow_pos (by decide)))) p1
        obtain ⟨hKn, hz0⟩ := Na.kn_of U V j n HUk.out HOV.out hvl g0 u0 u1 u2 v1 v2 q0 q1 q2 p1 p2 hv1 HLt.out
        rw [← hJ2] at q0; rw [← hJ1] at q1; rw [← hJ0] at q2
        rw [← HN1.out] at p1
        have Q0 := Lib.hid q0; have Q1 := Lib.hid q1; have Q2 := Lib.hid q2; have P1 := Lib.hid p1; have P2 := Lib.hid p2
        have c0 := HU.out.at q0; have c1 := HU.out.at q1; have e1 := HV.out.at p1
        have sJ : (j : Int) + (N : Int) = (J2 : Int) := by omega
        have sJ1 : (J2 : Int) - 1 = (J1 : Int) := by omega
        have sJ0 : (J2 : Int) - 2 = (J0 : Int) := by omega
        have lJ2 : J2 < N + mm + 1 := by omega
        have lJ1 : J1 < N + mm + 1 := by omega
        have lJ0 : J0 < N + mm + 1 := by omega
        obtain ⟨X, hX⟩ : ∃ X, X = Na.val ((U.drop j).take (n + 3)) := ⟨_, rfl⟩
        obtain ⟨VV, hVVe⟩ : ∃ X, X = Na.val V := ⟨_, rfl⟩
        have hor := Na.or_limb u0 u1 b0 b1
        rw [← hX, ← hVVe] at hKn
        obtain ⟨top, htop⟩ : ∃ t, t = u0 * 4294967296 + u1 := ⟨_, rfl⟩
        have hKn2 : Na.Kn X VV (Na.B ^ n) top u2 (Na.val ((U.drop j).take n)) v1 v2 (Na.val (V.take n)) := by rw [htop]; exact hKn
        have HK := Lib.hid hKn2
        rw [← htop] at hor
        have htl : top < 18446744073709551616 := by omega
        have hor' : bits BinOp.or IntKind.u64 ((u0 : Int) * 4294967296) (u1 : Int) = (top : Int) := by rw [← hor]; simp
        have hvz : ((v1 : Int) == 0) = false := by simp; omega
        obtain ⟨dd, hdd⟩ : ∃ t, t = top / v1 := ⟨_, rfl⟩
        obtain ⟨rr, hrr⟩ : ∃ t, t = top % v1 := ⟨_, rfl⟩
        have hddi : (top : Int) / (v1 : Int) = (dd : Int) := by rw [hdd]; simp
        have hrri : (top : Int) % (v1 : Int) = (rr : Int) := by rw [hrr]; simp
        have hddl : dd ≤ top := by rw [hdd]; exact Nat.div_le_self _ _
        have hrrl : rr < v1 := by rw [hrr]; exact Nat.mod_lt _ hv1
        have HGS := Lib.hid (show dd * v1 + rr = top ∧ X / VV ≤ dd from ⟨by rw [hdd, hrr, Nat.mul_comm]; exact Nat.div_add_mod _ _, by rw [hdd]; exact hKn2.start⟩)
        have HX0 := Lib.hid hX; have HVE := Lib.hid hVVe; have HZ0 := Lib.hid hz0; have HJ := Lib.hid hj; have HJJ := Lib.hid hjj; have HG0 := Lib.hid g0
        have HJ2 := Lib.hid hJ2
        clear q0 q1 q2 p1 p2 hX hVVe hz0 hKn hKn2 hor htop hdd hrr hj hjj hul hvl g0 hnn hJ2 hJ1 hJ0
        go_wp2_with fail
        go_quiet (fail)
        clear hor'
        go_wp2_with fail
        go_quiet (fail)
        have hrr2 := hrri
        clear hddi hrri
        go_upto_block 2 with (fail)
        go_cut [15] (fun dv w' => ∃ d : Nat, dv = .int .u64 d ∧ d < 4294967296 ∧ Hid (X / VV ≤ d ∧ d * VV < X + VV) ∧ Hid (Sh wo w'))
        case first => as_aux_lemma =>
          go_wp2_with fail
          go_loopw [15, 16] (fun dv rv wz => ∃ d r : Nat, dv = .int .u64 d ∧ rv = .int .u64 r ∧ r < 4294967296 ∧ d < 18446744073709551616 ∧ Hid (d * v1 + r = top ∧ X / VV ≤ d) ∧ Hid (Sh wo wz)) (fun _ r _ => 4294967296 - (intOf r).toNat)
          case atStart => exact ⟨dd, rr, rfl, by rw [← hrr2], by omega, by omega, HGS, Lib.hid (((Sh.refl _).drew _).drew _)⟩
          case round =>
            clear hrr2 c0 c1 e1
            obtain ⟨d, r, rfl, rfl, hr, hd, HD, HSh⟩ := hrel
            have c2 := (HU.out.sh HSh.out).at Q2.out
            have e1 := (HV.out.sh HSh.out).at P1.out
            have e2 := (HV.out.sh HSh.out).at P2.out
            by_cases h1 : 4294967296 ≤ d
            · have ht : decide ((0 : Int) < (d : Int) / 4294967296) = true := decide_eq_true (by omega)
              have hdn := HK.out.down HD.out.1 HD.out.2 (Or.inl h1)
              obtain ⟨d', hdd'⟩ : ∃ d', d = d' + 1 := ⟨d - 1, by omega⟩
              obtain ⟨r', hrr'⟩ : ∃ r', r' = r + v1 := ⟨_, rfl⟩
              have hd1 : (d : Int) - 1 = (d' : Int) := by omega
              have hr1 : (r : Int) + (v1 : Int) = (r' : Int) := by omega
              have hd1l : 1 ≤ d := by omega
              have hr1l : r' < 8589934592 := by omega
              have HDN := Lib.hid (show d' * v1 + r' = top ∧ X / VV ≤ d' by rw [show d' = d - 1 by omega, hrr']; exact ⟨hdn.2.2, hdn.2.1⟩)
              clear hdn
              by_cases hb : 4294967296 ≤ r'
              · have hbt : decide ((0 : Int) < (r' : Int) / 4294967296) = true := decide_eq_true (by omega)
                have hbr := HK.out.broke HDN.out.1 hb
                have HBR := Lib.hid hbr.2
                have hd2 : d' < 4294967296 := hbr.1
                clear hbr hdd' hrr'
                go_wp2_with fail
                go_quiet (fail)
                go_wp2_with fail
                go_meet
                exact ⟨d', rfl, hd2, Lib.hid ⟨HDN.out.2, HBR.out⟩, Lib.hid (HSh.out.drew _)⟩
              · have hbt : decide ((0 : Int) < (r' : Int) / 4294967296) = false := decide_eq_false (by omega)
                have hd2 : d' < 18446744073709551616 := by omega
                have hrm : r < r' := by omega
                clear hdd' hrr'
                go_wp2_with fail
                go_quiet (fail)
                go_wp2_with fail
                go_roundw
                case rel => exact ⟨d', r', rfl, rfl, by omega, hd2, HDN, Lib.hid (HSh.out.drew _)⟩
                case measure => simp [intOf]; omega
            · have ht : decide ((0 : Int) < (d : Int) / 4294967296) = false := decide_eq_false (by omega)
              have hpl := (Na.prod_le d v2 0 0 (by omega) d2 (by omega) (by omega)).1
              obtain ⟨p, hp⟩ : ∃ p, p = d * v2 := ⟨_, rfl⟩
              have hpi : (d : Int) * (v2 : Int) = (p : Int) := by rw [hp]; simp
              rw [← hp] at hpl
              have hor := Na.or_limb r u2 hr b2
              obtain ⟨t2, ht2⟩ : ∃ t, t = r * 4294967296 + u2 := ⟨_, rfl⟩
              rw [← ht2] at hor
              have hor' : bits BinOp.or IntKind.u64 ((r : Int) * 4294967296) (u2 : Int) = (t2 : Int) := by rw [← hor]; simp
              clear hor
              by_cases h2 : t2 < p
              · have ht3 : decide ((t2 : Int) < (p : Int)) = true := decide_eq_true (by omega)
                have hdown : 4294967296 ≤ d ∨ r * Na.B + u2 < d * v2 := Or.inr (by rw [← hp]; show r * 4294967296 + u2 < p; omega)
                clear hp ht2
                have hdn := HK.out.down HD.out.1 HD.out.2 (hdown)
                obtain ⟨d', hdd'⟩ : ∃ d', d = d' + 1 := ⟨d - 1, by omega⟩
                obtain ⟨r', hrr'⟩ : ∃ r', r' = r + v1 := ⟨_, rfl⟩
                have hd1 : (d : Int) - 1 = (d' : Int) := by omega
                have hr1 : (r : Int) + (v1 : Int) = (r' : Int) := by omega
                have hd1l : 1 ≤ d := by omega
                have hr1l : r' < 8589934592 := by omega
                have HDN := Lib.hid (show d' * v1 + r' = top ∧ X / VV ≤ d' by rw [show d' = d - 1 by omega, hrr']; exact ⟨hdn.2.2, hdn.2.1⟩)
                clear hdn
                by_cases hb : 4294967296 ≤ r'
                · have hbt : decide ((0 : Int) < (r' : Int) / 4294967296) = true := decide_eq_true (by omega)
                  have hbr := HK.out.broke HDN.out.1 hb
                  have HBR := Lib.hid hbr.2
                  have hd2 : d' < 4294967296 := hbr.1
                  clear hbr hdd' hrr'
                  go_wp2_with fail
                  go_quiet (fail)
                  go_wp2_with fail
                  go_meet
                  exact ⟨d', rfl, hd2, Lib.hid ⟨HDN.out.2, HBR.out⟩, Lib.hid (HSh.out.drew _)⟩
                · have hbt : decide ((0 : Int) < (r' : Int) / 4294967296) = false := decide_eq_false (by omega)
                  have hd2 : d' < 18446744073709551616 := by omega
                  have hrm : r < r' := by omega
                  clear hdd' hrr'
                  go_wp2_with fail
                  go_quiet (fail)
                  go_wp2_with fail
                  go_roundw
                  case rel => exact ⟨d', r', rfl, rfl, by omega, hd2, HDN, Lib.hid (HSh.out.drew _)⟩
                  case measure => simp [intOf]; omega
              · have ht3 : decide ((t2 : Int) < (p : Int)) = false := decide_eq_false (by omega)
                have hst := HK.out.stop HD.out.1 (show d < 4294967296 by omega) (show d * v2 ≤ r * Na.B + u2 by rw [← hp]; show p ≤ r * 4294967296 + u2; omega)
                have HST := Lib.hid hst
                have hd2 : d < 4294967296 := by omega
                clear hp ht2 hst
                go_wp2_with fail
                go_quiet (fail)
                go_wp2_with fail
                go_meet
                exact ⟨d, rfl, hd2, Lib.hid ⟨HD.out.2, HST.out⟩, Lib.hid (HSh.out.drew _)⟩
        case rest => as_aux_lemma =>
          obtain ⟨d, rfl, hd, HD, HSh⟩ := hcut
          obtain ⟨w5, rfl⟩ : ∃ w5 : World, w5 = wc := ⟨_, rfl⟩
          clear hrr2 c0 c1 e1 hvz hrrl hddl HGS
          have hjm : j < mm + 1 := by have := HJ.out; omega
          have hlj : j + (N + 1) ≤ U.length := by have := HUl.out; omega
          have HTK := Lib.hid (fun c => (by
            have := na_takes_any gu gv j (N + 1) c N d U V w5 (HU.out.sh HSh.out) HUk.out hlj (HV.out.sh HSh.out) HOV.out hne (by rw [HLV.out]; omega) hd (by omega)
            rw [HLV.out] at this; exact this : Calls Tryz.prog 209 #[.slice (some ⟨gu, j, none⟩) (N + 1) c, .slice (some ⟨gv, 0, none⟩) N N, .int .u64 d] w5 (TakesR (N + 1) j gu d U V w5)))
          have HGV := Lib.hid (fun c w6 U6 (hk : Blk w6 gu U6) (hok : Na.OK U6) (hl : U6.length = U.length) (ho : Onl gu w5 w6) => (by
            have := na_gives_any gu gv j (N + 1) c N U6 V w6 hk hok (by rw [hl]; exact hlj) ((HV.out.sh HSh.out).onl ho hne) HOV.out hne (by rw [HLV.out]; omega) (by omega)
            rw [HLV.out] at this; exact this : Calls Tryz.prog 210 #[.slice (some ⟨gu, j, none⟩) (N + 1) c, .slice (some ⟨gv, 0, none⟩) N N] w6 (GivesR (N + 1) j gu U6 V w6)))
          have hgug : gq ≠ gu := by omega
          have HQ5 := Lib.hid (HQ.out.sh HSh.out)
          have hjq : j < Q.length := by rw [HQl.out]; exact hjm
          have hJs : (J2 : Int) + 1 - (j : Int) = (N : Int) + 1 := by omega
          have hJn : J2 + 1 - j = N + 1 := by omega
          clear hlj
          go_wp2_with (first
            | (go_at_call 209; (with_reducible refine (HTK.out _).mono ?_); rintro e w6 ⟨br, hbr, rfl, ho6, U6, hk6, hl6, hok6, ht6, hd6, hv6⟩; have hQ6 := HQ5.out.onl ho6 hgug; have cq6 := hQ6.cell j hjq; have fq6 := hQ6.frozen j; have HL6 := Lib.hid hl6; have HT6 := Lib.hid ht6; have HD6 := Lib.hid hd6; have HV6 := Lib.hid hv6; clear hl6 ht6 hd6 hv6)
            | (go_at_call 210; (with_reducible refine (HGV.out _ w6 U6 hk6 hok6 HL6.out ho6).mono ?_); rintro e w7 ⟨rfl, ho7, U7, cg, hk7, hl7, hok7, ht7, hd7, hv7⟩; have hQ7 := hQ6.onl ho7 hgug; have cq7 := hQ7.cell j hjq; have fq7 := hQ7.frozen j; have HL7 := Lib.hid hl7; have HT7 := Lib.hid ht7; have HD7 := Lib.hid hd7; have HV7 := Lib.hid hv7; clear hl7 ht7 hd7 hv7))
          · have hb1 : br = 1 := by have : 0 < br := by assumption
                                    omega
            have e := (Na.kn_taken HK.out.posV (by rw [HVE.out]; exact Na.val_le_pow HOV.out (by rw [HLV.out]; omega)) HD.out.1 HD.out.2 (Na.val_take_lt U6 hok6 j (N + 1)) (Na.taken_at HNN.out HX0.out HVE.out HV6.out) hbr).2 hb1 (Na.val ((U7.drop j).take (N + 1))) cg (Na.val_take_lt U7 hok7 j (N + 1)) (by rw [HVE.out]; exact HV7.out)
            have E := Lib.hid e
            clear e
            have hd1 : 1 ≤ d := E.out.2.1
            have hde : IntKind.u64.wrap ((d : Int) - 1) % 4294967296 = ((d - 1 : Nat) : Int) := by rw [IntKind.wrap_u64]; omega
            rw [hde]
            go_roundw
            case rel => exact longLoop.next HNN.out HJ.out HX0.out HVE.out HZ0.out HUl.out HQl.out HQk.out HInv.out hk7 (hl7' := HL7.out.trans HL6.out) hok7 (HT7.out.trans HT6.out) (HD7.out.trans HD6.out) E.out.1 E.out.2.2 (by omega) hQ7 (((HV.out.sh HSh.out).onl ho6 hne).onl ho7 hne) hgug (by omega) ((((HBe.out.trans (HSh.out.2.mono HBe.out.size)).trans (ho6.up hgu)).trans (ho7.up hgu))) hgq0 HK.out.posV
            case measure => simp [intOf]; omega
          · have hb0 : br = 0 := by have : ¬ 0 < br := by assumption
                                    omega
            have e := (Na.kn_taken HK.out.posV (by rw [HVE.out]; exact Na.val_le_pow HOV.out (by rw [HLV.out]; omega)) HD.out.1 HD.out.2 (Na.val_take_lt U6 hok6 j (N + 1)) (Na.taken_at HNN.out HX0.out HVE.out HV6.out) hbr).1 hb0
            have E := Lib.hid e
            clear e
            go_roundw
            case rel => exact longLoop.next HNN.out HJ.out HX0.out HVE.out HZ0.out HUl.out HQl.out HQk.out HInv.out hk6 (hl7' := HL6.out) hok6 HT6.out HD6.out E.out.1 E.out.2 hd hQ6 ((HV.out.sh HSh.out).onl ho6 hne) hgug (by omega) ((HBe.out.trans (HSh.out.2.mono HBe.out.size)).trans (ho6.up hgu)) hgq0 HK.out.posV
            case measure => simp [intOf]; omega
      · obtain rfl : i = mm + 1 := by omega
        have hdone := Na.kn_done (Na.val U) (Na.val Q) (Na.val V) (Na.val l) (Na.val m) s HVV.out (by have := HLt.out; rwa [Nat.sub_self, List.drop_zero] at this) (by have := HInv.out; rwa [Nat.sub_self, List.drop_zero, Nat.pow_zero] at this)
        have HDN := Lib.hid hdone
        have hz : Na.val (U.drop N) = 0 := by
          have h1 := HLt.out
          rw [Nat.sub_self, List.drop_zero] at h1
          have h2 := Na.val_take_drop U N (by rw [HUl.out]; omega)
          have h3 := Na.val_lt V HOV.out
          rw [HLV.out] at h3
          rcases Nat.eq_zero_or_pos (Na.val (U.drop N)) with h4 | h4
          · exact h4
          · have := Nat.mul_le_mul_left (Na.B ^ N) h4
            omega
        have HZ := Lib.hid hz
        clear hdone hz HInv HLt HX HL0 HV1 HV2 HU1 hxl hbl hNi hNlt hni hn1 HSX hne
        go_wp2_with (first | (at_make; refine mk_u32 rfl _ _ rfl _ _ N rfl rfl rfl rfl (by omega) ?_))
        intro w5 hK hgrow
        have hB5 := hgrow.out _ _ HBe.out HBe.out.size
        have hB55 : Below wo.heap.size wo w5 := hgrow.out _ _ (Below.refl _ _) (Nat.le_refl _)
        have hU5 := HU.out.on hB55
        have hQ5 := HQ.out.on hB55
        have hR5 := hK.out
        have hbs := HBe.out.size
        have hgul := HU.out.lt
        have hgql := HQ.out.lt
        obtain ⟨gr, hgr⟩ : ∃ g, g = wo.heap.size := ⟨_, rfl⟩
        rw [← hgr] at hR5 hbs hgul hgql ⊢
        have HU5 := Lib.hid hU5; have HQ5 := Lib.hid hQ5; have HB5 := Lib.hid hB5
        have HAtS := Lib.hid (show backLoop N s gr U w5 (.int .i64 ((0 : Nat) : Int)) w5 from ⟨0, List.replicate N 0, Nat.zero_le _, rfl, Lib.hid hR5, Lib.hid (List.length_replicate ..), Lib.hid (Na.ok_zeros _), Lib.hid (by rw [List.take_zero, List.drop_zero, Nat.pow_zero, Nat.one_mul]; exact Nat.zero_add _), Lib.hid (Onl.refl _ _)⟩)
        obtain ⟨M, hM⟩ : ∃ M, M = 2 ^ s := ⟨_, rfl⟩
        have hMi : ((2 : Int) ^ s) = (M : Int) := by rw [hM]; simp
        have hM1 : 1 ≤ M := by rw [hM]; exact Nat.pow_pos (by decide)
        have HM := Lib.hid hM
        clear hK hgrow hB5 hB55 hU5 hQ5 hR5 hM HU HQ HV hgr HBe
        go_wp2_with fail
        go_loopw [159] (backLoop N s gr U w5) (fun i _ => N - (intOf i).toNat)
        case atStart => exact HAtS.out
        case round =>
          clear HAtS
          obtain ⟨k, R, hk, rfl, HR, HRl, HRk, HInv, HBe⟩ := hrel
          by_cases hlt2 : k < N
          · have hr1 : k < R.length := by rw [HRl.out]; exact hlt2
            obtain ⟨rz, hrz⟩ : ∃ x, R[k]? = some x := ⟨_, List.getElem?_eq_getElem hr1⟩
            have co := HR.out.at hrz
            have fo := HR.out.frozen k
            have hk1 : k < U.length := by rw [HUl.out]; omega
            have hk2 : k + 1 < U.length := by rw [HUl.out]; omega
            obtain ⟨x, hx⟩ : ∃ x, U[k]? = some x := ⟨_, List.getElem?_eq_getElem hk1⟩
            obtain ⟨y, hy⟩ : ∃ x, U[k + 1]? = some x := ⟨_, List.getElem?_eq_getElem hk2⟩
            have cx := (HU5.out.onl HBe.out (by omega)).at hx
            have cy := (HU5.out.onl HBe.out (by omega)).at hy
            have hxl := Na.ok_at HUk.out hx
            have hyl := Na.ok_at HUk.out hy
            have HS := Lib.hid (Na.back_step U R k s x y hs32 hx hy hxl hr1 HInv.out)
            have hor := Na.or_limb y x hyl hxl
            obtain ⟨t, ht⟩ : ∃ t, t = y * 4294967296 + x := ⟨_, rfl⟩
            rw [← ht] at hor
            have htl : t < 18446744073709551616 := by omega
            have hor' : bits BinOp.or IntKind.u64 ((y : Int) * 4294967296) (x : Int) = (t : Int) := by rw [← hor]; simp
            rw [show x + y * 4294967296 = t by omega] at HS
            clear hx hy ht hor hr1 hk1 hk2 hrz
            go_wp2_with fail
            go_region
            go_wp2_with fail
            go_roundw
            case rel =>
              have hq : (t : Int) / (M : Int) % 4294967296 = ((t / 2 ^ s % 4294967296 : Nat) : Int) := by rw [← HM.out]; simp
              rw [hq]
              exact ⟨k + 1, R.set k (t / 2 ^ s % 4294967296), by omega, by go_num, Lib.hid (HR.out.set k _), Lib.hid (by rw [List.length_set]; exact HRl.out), Lib.hid (Na.ok_set HRk.out _ _ (Nat.mod_lt _ (by decide))), HS, Lib.hid (HBe.out.setCell _ _).drew1⟩
            case measure => simp [intOf]; omega
          · obtain rfl : k = N := by omega
            have hRv : Na.val R = Na.val l % Na.val m := by
              have h1 := HInv.out
              rw [HZ.out, Nat.zero_div, Nat.mul_zero, Nat.add_zero, List.take_of_length_le (by rw [HRl.out]; exact Nat.le_refl _)] at h1
              rw [h1]; exact HDN.out.2
            have hQb := HQ5.out.onl HBe.out (by omega)
            have sQ := hQb.sl HQk.out (c := mm + 1) (by rw [HQl.out]; exact Nat.le_refl _)
            have sR := HR.out.sl HRk.out (c := k) (by rw [HRl.out]; exact Nat.le_refl _)
            have cQ : Na.cut Q = Na.limbs (Na.val l / Na.val m) := by rw [Na.cut, HDN.out.1]
            have cR : Na.cut R = Na.limbs (Na.val l % Na.val m) := by rw [Na.cut, hRv]
            have hcQ := na_cut_any (some ⟨gq, 0, none⟩) (mm + 1) Q wr sQ (by rw [HQl.out]; omega)
            have hcR := na_cut_any (some ⟨gr, 0, none⟩) k R wr sR (by rw [HRl.out]; omega)
            rw [HQl.out, cQ] at hcQ
            rw [HRl.out, cR] at hcR
            have sQ2 := sQ.cut
            have sR2 := sR.cut
            rw [cQ] at sQ2
            rw [cR] at sR2
            have HCQ := Lib.hid hcQ; have HCR := Lib.hid hcR
            have HP := Lib.hid (show GivesL2 (Na.limbs (Na.val l / Na.val m)) (Na.limbs (Na.val l % Na.val m)) w (.returned (.tuple #[.slice (some ⟨gq, 0, none⟩) (Na.limbs (Na.val l / Na.val m)).length (mm + 1), .slice (some ⟨gr, 0, none⟩) (Na.limbs (Na.val l % Na.val m)).length k])) wr from ⟨_, _, _, _, rfl, sQ2, hQb.own (by omega), sR2, HR.out.own (by omega), HB5.out.trans (HBe.out.up (by omega))⟩)
            clear hcQ hcR sQ sR cQ cR hRv hQb sQ2 sR2
            go_wp2_with (first | (go_at_call 115; (with_reducible refine (HCQ.out).mono ?_); rintro e w' ⟨rfl, rfl⟩) | (go_at_call 115; (with_reducible refine (HCR.out).mono ?_); rintro e w' ⟨rfl, rfl⟩))
            refine bodyPost_ret (v := .tuple #[.slice (some ⟨gq, 0, none⟩) (Na.limbs (Na.val l / Na.val m)).length (mm + 1), .slice (some ⟨gr, 0, none⟩) (Na.limbs (Na.val l % Na.val m)).length k]) (by simp [results, Tryz.results189, go_sem]) rfl HP.out
end Go.Proofs.YtiglekomfgfilaaGreatDoor
