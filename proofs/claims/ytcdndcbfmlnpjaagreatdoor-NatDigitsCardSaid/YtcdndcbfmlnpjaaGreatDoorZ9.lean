/- The examples at the head of chapter 1's statements hold: shown() returns true. -/
import Derived.Test.YtcdndcbfmlnpjaaGreatDoorZ8
import Derived.Test.YtcdndcbfmlnpjaaGreatDoorZ1
import Derived.Laws.AppendOwn
import Derived.Laws.OwnMore
import Derived.Laws.AppendOwnNone
import Derived.Test.YtcdndcbfmlnpjaaGreatDoorZ7
namespace Go.Proofs.YtcdndcbfmlnpjaaGreatDoor
set_option linter.all false
open Go.RowKit

theorem Na.limbs_is {n : Nat} {a : List Nat} (h1 : Na.val a = n) (h2 : a.all (fun x => decide (x < 4294967296)) = true) (h3 : a.getLast? ≠ some 0) : Na.limbs n = a := by
  rw [← h1]
  refine Na.limbs_val a (fun x hx => of_decide_eq_true (List.all_eq_true.1 h2 x hx)) (fun hne e => h3 ?_)
  rw [List.getLast?_eq_some_getLast hne, e]
theorem Na.ok_is {a : List Nat} (h2 : a.all (fun x => decide (x < 4294967296)) = true) : Na.OK a := fun x hx => of_decide_eq_true (List.all_eq_true.1 h2 x hx)
theorem Na.not_big1 {a : List Nat} (h2 : a.all (fun x => decide (x < 4294967296)) = true) (h : a.length ≤ 256) : Na.big a = false := decide_eq_false (by have := (Na.rt_le (Na.ok_is h2)).1; omega)
theorem Na.fits_is {n : Nat} {a : List Nat} (h : Na.limbs n = a) (hl : a.length ≤ 256) : Na.fits n = (a, 0) := by rw [Na.fits, h, if_neg (by omega)]

/-- What a call answers with, its lengths written out. -/
def GvN (n : Nat) (l : List Nat) (w : World) (e : Ending) (w' : World) : Prop := ∃ a c, e = .returned (.slice a n c) ∧ Sl w' a c l ∧ Below w.heap.size w w'
def GvE (n : Nat) (l : List Nat) (er : Int) (w : World) (e : Ending) (w' : World) : Prop := ∃ a c, e = .returned (.tuple #[.slice a n c, .int .i64 er]) ∧ Sl w' a c l ∧ Below w.heap.size w w'
def GvS (n : Nat) (l : List Nat) (b : Bool) (er : Int) (w : World) (e : Ending) (w' : World) : Prop := ∃ a c, e = .returned (.tuple #[.slice a n c, .bool b, .int .i64 er]) ∧ Sl w' a c l ∧ Below w.heap.size w w'
def GvQ (n : Nat) (l : List Nat) (m : Nat) (k : List Nat) (er : Int) (w : World) (e : Ending) (w' : World) : Prop := ∃ a c b d, e = .returned (.tuple #[.slice a n c, .slice b m d, .int .i64 er]) ∧ Sl w' a c l ∧ Sl w' b d k ∧ Below w.heap.size w w'
theorem GivesB.lit {l : List Nat} {n : Nat} {w w1 w' : World} {e : Ending} (h : GivesB l w1 e w') (hb : Below w.heap.size w w1) (hn : l.length = n) (hok : Na.OK l) : GvN n l w e w' := by
  obtain ⟨g, rfl, hg, hk, hb'⟩ := h
  subst hn
  exact ⟨_, _, rfl, hk.sl hok (Nat.le_refl _), hb.trans (hb'.mono hb.size)⟩
theorem GivesE.lit {l : List Nat} {er : Int} {n : Nat} {w w1 w' : World} {e : Ending} (h : GivesE (l, er) w1 e w') (hb : Below w.heap.size w w1) (hn : l.length = n) : GvE n l er w e w' := by
  obtain ⟨a, c, rfl, hs, _, hb'⟩ := h
  subst hn
  exact ⟨_, _, rfl, hs, hb.trans (hb'.mono hb.size)⟩
theorem GivesS.lit {l : List Nat} {b : Bool} {er : Int} {n : Nat} {w w1 w' : World} {e : Ending} (h : GivesS (l, b, er) w1 e w') (hb : Below w.heap.size w w1) (hn : l.length = n) : GvS n l b er w e w' := by
  obtain ⟨a, c, rfl, hs, _, hb'⟩ := h
  subst hn
  exact ⟨_, _, rfl, hs, hb.trans (hb'.mono hb.size)⟩
theorem GivesQ.lit {l k : List Nat} {er : Int} {n m : Nat} {w w1 w' : World} {e : Ending} (h : GivesQ (l, k, er) w1 e w') (hb : Below w.heap.size w w1) (hn : l.length = n) (hm : k.length = m) : GvQ n l m k er w e w' := by
  obtain ⟨a, c, a', c', rfl, hs, _, hs', _, hb'⟩ := h
  subst hn hm
  exact ⟨_, _, _, _, rfl, hs, hs', hb.trans (hb'.mono hb.size)⟩
def oL (l : List Nat) : Obj := .cells (u32s l).toArray 63
theorem one_sl (w : World) (l : List Nat) (h : l.all (fun x => decide (x < 4294967296)) = true) : Sl (w.alloc (oL l)) (some ⟨w.heap.size, 0, none⟩) l.length l ∧ Below w.heap.size w (w.alloc (oL l)) := by
  have hk : Blk (w.alloc (oL l)) w.heap.size l := by
    show (w.heap.push _)[w.heap.size]? = _; simp [oL]
  exact ⟨hk.sl (Na.ok_is h) (Nat.le_refl _), (Below.refl _ _).alloc (Nat.le_refl _) _⟩
theorem two_sl (w : World) (l m : List Nat) (h : l.all (fun x => decide (x < 4294967296)) = true) (h' : m.all (fun x => decide (x < 4294967296)) = true) :
    Sl ((w.alloc (oL l)).alloc (oL m)) (some ⟨w.heap.size, 0, none⟩) l.length l ∧ Sl ((w.alloc (oL l)).alloc (oL m)) (some ⟨w.heap.size + 1, 0, none⟩) m.length m ∧ Below w.heap.size w ((w.alloc (oL l)).alloc (oL m)) := by
  obtain ⟨s1, b1⟩ := one_sl w l h
  obtain ⟨s2, b2⟩ := one_sl (w.alloc (oL l)) m h'
  rw [World.size_alloc] at s2 b2
  exact ⟨s1.on (by rw [World.size_alloc]; exact b2), s2, b1.trans (b2.mono (Nat.le_succ _))⟩
/-- same, at a list of the text's own. -/
theorem same_lit (w : World) (a : Option Addr) (c : Nat) (l m : List Nat) (n k : Nat) (r : Bool) (h : Sl w a c l) (hl : l.length = n) (hm : m.length = k) (hn : n ≤ 1000000) (hk : k ≤ 1000000) (hok : m.all (fun x => decide (x < 4294967296)) = true) (hr : decide (l = m) = r) :
    Calls Tryz.prog 8 #[.slice a n c, .slice (some ⟨w.heap.size, 0, none⟩) k k] (w.alloc (oL m)) (RetB (.bool r) w) := by
  subst hl hm hr
  obtain ⟨s1, b1⟩ := one_sl w m hok
  exact (l1_same_any a c l _ _ m _ (h.on b1) s1 hn hk).mono fun e w' he => ⟨he.1, b1.trans (he.2.mono b1.size)⟩

theorem sh1a (w : World) : Calls Tryz.prog 9 #[.slice (some ⟨w.heap.size, 0, none⟩) 3 3] (w.alloc (Obj.cells #[Value.int IntKind.u32 5, Value.int IntKind.u32 0, Value.int IntKind.u32 0] 63)) (GvN 1 [5] w) := by
  have t := one_sl w [5, 0, 0] (by decide)
  have h := na_trim_any _ _ [5, 0, 0] _ t.1 (by decide)
  rw [show Na.cut [5, 0, 0] = [5] from (Na.limbs_is (n := Na.val [5, 0, 0]) (a := [5]) (by decide) (by decide) (by decide))] at h
  exact Calls.mono (show Calls Tryz.prog 9 #[.slice (some ⟨w.heap.size, 0, none⟩) 3 3] (w.alloc (Obj.cells #[Value.int IntKind.u32 5, Value.int IntKind.u32 0, Value.int IntKind.u32 0] 63)) _ from h) fun e w' hg => hg.lit t.2 rfl (Na.ok_is (by decide))

theorem sh1b (w : World) : Calls Tryz.prog 11 #[.int .u64 4294967296] w (GvN 2 [0, 1] w) := by
  have h := na_of_any 4294967296 (by decide) w
  rw [(Na.limbs_is (n := 4294967296) (a := [0, 1]) (by decide) (by decide) (by decide))] at h
  exact Calls.mono (show Calls Tryz.prog 11 #[.int .u64 4294967296] w _ from h) fun e w' hg => hg.lit (Below.refl _ _) rfl (Na.ok_is (by decide))

theorem sh1c (w : World) : Calls Tryz.prog 13 #[.slice (some ⟨w.heap.size, 0, none⟩) 2 2] (w.alloc (Obj.cells #[Value.int IntKind.u32 1, Value.int IntKind.u32 1] 63)) (RetB (.tuple #[.int .u64 4294967297, .bool true]) w) := by
  have t := one_sl w [1, 1] (by decide)
  have h := na_value_any _ _ [1, 1] _ t.1 (by decide)
  rw [show Na.value [1, 1] = (4294967297, true) from by rw [Na.value, Na.rt, show Na.cut [1, 1] = [1, 1] from (Na.limbs_is (n := Na.val [1, 1]) (a := [1, 1]) (by decide) (by decide) (by decide))]; rfl] at h
  exact Calls.mono (show Calls Tryz.prog 13 #[.slice (some ⟨w.heap.size, 0, none⟩) 2 2] (w.alloc (Obj.cells #[Value.int IntKind.u32 1, Value.int IntKind.u32 1] 63)) _ from h) fun e w' hg => ⟨hg.1, by rw [← hg.2]; exact t.2⟩

theorem sh1d (w : World) : Calls Tryz.prog 13 #[.slice (some ⟨w.heap.size, 0, none⟩) 3 3] (w.alloc (Obj.cells #[Value.int IntKind.u32 0, Value.int IntKind.u32 0, Value.int IntKind.u32 1] 63)) (RetB (.tuple #[.int .u64 0, .bool false]) w) := by
  have t := one_sl w [0, 0, 1] (by decide)
  have h := na_value_any _ _ [0, 0, 1] _ t.1 (by decide)
  rw [show Na.value [0, 0, 1] = (0, false) from by rw [Na.value, Na.rt, show Na.cut [0, 0, 1] = [0, 0, 1] from (Na.limbs_is (n := Na.val [0, 0, 1]) (a := [0, 0, 1]) (by decide) (by decide) (by decide))]; rfl] at h
  exact Calls.mono (show Calls Tryz.prog 13 #[.slice (some ⟨w.heap.size, 0, none⟩) 3 3] (w.alloc (Obj.cells #[Value.int IntKind.u32 0, Value.int IntKind.u32 0, Value.int IntKind.u32 1] 63)) _ from h) fun e w' hg => ⟨hg.1, by rw [← hg.2]; exact t.2⟩

theorem sh1e (w : World) : Calls Tryz.prog 19 #[.slice (some ⟨w.heap.size, 0, none⟩) 1 1, .slice (some ⟨w.heap.size + 1, 0, none⟩) 1 1] ((w.alloc (Obj.cells #[Value.int IntKind.u32 4294967295] 63)).alloc (Obj.cells #[Value.int IntKind.u32 1] 63)) (GvE 2 [0, 1] 0 w) := by
  have t := two_sl w [4294967295] [1] (by decide) (by decide)
  have h := na_add_any _ _ [4294967295] _ _ [1] _ t.1 t.2.1 (by decide) (by decide)
  rw [show Na.add [4294967295] [1] = ([0, 1], 0) from by rw [Na.add, Na.not_big1 (a := [4294967295]) (by decide) (by decide), Na.not_big1 (a := [1]) (by decide) (by decide), if_neg (by decide)]; exact Na.fits_is (Na.limbs_is (n := Na.val [4294967295] + Na.val [1]) (a := [0, 1]) (by decide) (by decide) (by decide)) (by decide)] at h
  exact Calls.mono (show Calls Tryz.prog 19 #[.slice (some ⟨w.heap.size, 0, none⟩) 1 1, .slice (some ⟨w.heap.size + 1, 0, none⟩) 1 1] ((w.alloc (Obj.cells #[Value.int IntKind.u32 4294967295] 63)).alloc (Obj.cells #[Value.int IntKind.u32 1] 63)) _ from h) fun e w' hg => hg.lit t.2.2 rfl

theorem sh1f (w : World) : Calls Tryz.prog 21 #[.slice (some ⟨w.heap.size, 0, none⟩) 2 2, .slice (some ⟨w.heap.size + 1, 0, none⟩) 1 1] ((w.alloc (Obj.cells #[Value.int IntKind.u32 0, Value.int IntKind.u32 1] 63)).alloc (Obj.cells #[Value.int IntKind.u32 1] 63)) (GvE 1 [4294967295] 0 w) := by
  have t := two_sl w [0, 1] [1] (by decide) (by decide)
  have h := na_sub_any _ _ [0, 1] _ _ [1] _ t.1 t.2.1 (by decide) (by decide)
  rw [show Na.sub [0, 1] [1] = ([4294967295], 0) from by rw [Na.sub, Na.not_big1 (a := [0, 1]) (by decide) (by decide), Na.not_big1 (a := [1]) (by decide) (by decide), if_neg (by decide), if_neg (by decide), (Na.limbs_is (n := Na.val [0, 1] - Na.val [1]) (a := [4294967295]) (by decide) (by decide) (by decide))]] at h
  exact Calls.mono (show Calls Tryz.prog 21 #[.slice (some ⟨w.heap.size, 0, none⟩) 2 2, .slice (some ⟨w.heap.size + 1, 0, none⟩) 1 1] ((w.alloc (Obj.cells #[Value.int IntKind.u32 0, Value.int IntKind.u32 1] 63)).alloc (Obj.cells #[Value.int IntKind.u32 1] 63)) _ from h) fun e w' hg => hg.lit t.2.2 rfl

theorem sh1g (w : World) : Calls Tryz.prog 21 #[.slice (some ⟨w.heap.size, 0, none⟩) 1 1, .slice (some ⟨w.heap.size + 1, 0, none⟩) 1 1] ((w.alloc (Obj.cells #[Value.int IntKind.u32 1] 63)).alloc (Obj.cells #[Value.int IntKind.u32 2] 63)) (GvE 0 [] 6 w) := by
  have t := two_sl w [1] [2] (by decide) (by decide)
  have h := na_sub_any _ _ [1] _ _ [2] _ t.1 t.2.1 (by decide) (by decide)
  rw [show Na.sub [1] [2] = ([], 6) from by rw [Na.sub, Na.not_big1 (a := [1]) (by decide) (by decide), Na.not_big1 (a := [2]) (by decide) (by decide), if_neg (by decide), if_pos (by decide)]] at h
  exact Calls.mono (show Calls Tryz.prog 21 #[.slice (some ⟨w.heap.size, 0, none⟩) 1 1, .slice (some ⟨w.heap.size + 1, 0, none⟩) 1 1] ((w.alloc (Obj.cells #[Value.int IntKind.u32 1] 63)).alloc (Obj.cells #[Value.int IntKind.u32 2] 63)) _ from h) fun e w' hg => hg.lit t.2.2 rfl

theorem sh1h (w : World) : Calls Tryz.prog 23 #[.slice (some ⟨w.heap.size, 0, none⟩) 2 2, .slice (some ⟨w.heap.size + 1, 0, none⟩) 2 2] ((w.alloc (Obj.cells #[Value.int IntKind.u32 0, Value.int IntKind.u32 1] 63)).alloc (Obj.cells #[Value.int IntKind.u32 0, Value.int IntKind.u32 1] 63)) (GvE 3 [0, 0, 1] 0 w) := by
  have t := two_sl w [0, 1] [0, 1] (by decide) (by decide)
  have h := na_mul_any _ _ [0, 1] _ _ [0, 1] _ t.1 t.2.1 (by decide) (by decide)
  rw [show Na.mul [0, 1] [0, 1] = ([0, 0, 1], 0) from by rw [Na.mul, Na.not_big1 (a := [0, 1]) (by decide) (by decide), if_neg (by decide)]; exact Na.fits_is (Na.limbs_is (n := Na.val [0, 1] * Na.val [0, 1]) (a := [0, 0, 1]) (by decide) (by decide) (by decide)) (by decide)] at h
  exact Calls.mono (show Calls Tryz.prog 23 #[.slice (some ⟨w.heap.size, 0, none⟩) 2 2, .slice (some ⟨w.heap.size + 1, 0, none⟩) 2 2] ((w.alloc (Obj.cells #[Value.int IntKind.u32 0, Value.int IntKind.u32 1] 63)).alloc (Obj.cells #[Value.int IntKind.u32 0, Value.int IntKind.u32 1] 63)) _ from h) fun e w' hg => hg.lit t.2.2 rfl

theorem sh1i (w : World) : Calls Tryz.prog 25 #[.slice (some ⟨w.heap.size, 0, none⟩) 1 1, .slice (some ⟨w.heap.size + 1, 0, none⟩) 1 1] ((w.alloc (Obj.cells #[Value.int IntKind.u32 7] 63)).alloc (Obj.cells #[Value.int IntKind.u32 2] 63)) (GvQ 1 [3] 1 [1] 0 w) := by
  have t := two_sl w [7] [2] (by decide) (by decide)
  have h := na_divmod_one _ _ [7] _ _ [2] _ t.1 t.2.1 (by decide) (by decide) (by rw [Na.not_big1 (a := [7]) (by decide) (by decide), Na.not_big1 (a := [2]) (by decide) (by decide)]; rfl) (by decide) (by rw [Na.rt, show Na.cut [2] = [2] from (Na.limbs_is (n := Na.val [2]) (a := [2]) (by decide) (by decide) (by decide))]; rfl)
  rw [show Na.divMod [7] [2] = ([3], [1], 0) from by rw [Na.divMod, Na.not_big1 (a := [7]) (by decide) (by decide), Na.not_big1 (a := [2]) (by decide) (by decide), if_neg (by decide), if_neg (by decide), (Na.limbs_is (n := Na.val [7] / Na.val [2]) (a := [3]) (by decide) (by decide) (by decide)), (Na.limbs_is (n := Na.val [7] % Na.val [2]) (a := [1]) (by decide) (by decide) (by decide))]] at h
  exact Calls.mono (show Calls Tryz.prog 25 #[.slice (some ⟨w.heap.size, 0, none⟩) 1 1, .slice (some ⟨w.heap.size + 1, 0, none⟩) 1 1] ((w.alloc (Obj.cells #[Value.int IntKind.u32 7] 63)).alloc (Obj.cells #[Value.int IntKind.u32 2] 63)) _ from h) fun e w' hg => hg.lit t.2.2 rfl rfl

theorem sh1j (w : World) : Calls Tryz.prog 25 #[.slice (some ⟨w.heap.size, 0, none⟩) 1 1, .slice none 0 0] (w.alloc (Obj.cells #[Value.int IntKind.u32 1] 63)) (GvQ 0 [] 0 [] 10 w) := by
  have t := one_sl w [1] (by decide)
  have h := na_divmod_zero _ _ [1] none 0 [] _ t.1 (Sl.nil _ _ _) (by decide) (by decide) (by rw [Na.not_big1 (a := [1]) (by decide) (by decide), Na.not_big1 (a := []) (by decide) (by decide)]; rfl) (by decide)
  rw [show Na.divMod [1] [] = ([], [], 10) from by rw [Na.divMod, Na.not_big1 (a := [1]) (by decide) (by decide), Na.not_big1 (a := []) (by decide) (by decide), if_neg (by decide), if_pos (by decide)]] at h
  exact Calls.mono (show Calls Tryz.prog 25 #[.slice (some ⟨w.heap.size, 0, none⟩) 1 1, .slice none 0 0] (w.alloc (Obj.cells #[Value.int IntKind.u32 1] 63)) _ from h) fun e w' hg => hg.lit t.2 rfl rfl

theorem sh1len (w : World) : Calls Tryz.prog 15 #[.slice (some ⟨w.heap.size, 0, none⟩) 2 2] (w.alloc (Obj.cells #[Value.int IntKind.u32 0, Value.int IntKind.u32 1] 63)) (RetB (.int .i64 33) w) := by
  have t := one_sl w [0, 1] (by decide)
  have h := na_len_any _ _ [0, 1] _ t.1 (by decide)
  rw [show Na.bitLen (Na.val [0, 1]) = 33 from by decide +kernel] at h
  exact Calls.mono (show Calls Tryz.prog 15 #[.slice (some ⟨w.heap.size, 0, none⟩) 2 2] (w.alloc (Obj.cells #[Value.int IntKind.u32 0, Value.int IntKind.u32 1] 63)) _ from h) fun e w' hg => ⟨hg.1, by rw [← hg.2]; exact t.2⟩

theorem sh1k (w : World) : Calls Tryz.prog 27 #[.slice (some ⟨w.heap.size, 0, none⟩) 1 1, .int .i64 33] (w.alloc (Obj.cells #[Value.int IntKind.u32 1] 63)) (GvE 2 [0, 2] 0 w) := by
  have t := one_sl w [1] (by decide)
  have h := na_shl_any _ _ [1] (33 : Nat) _ t.1 (by decide) (by omega)
  rw [show Na.shl [1] (33 : Nat) = ([0, 2], 0) from by rw [Na.shl, if_neg (by decide), Na.not_big1 (a := [1]) (by decide) (by decide), if_neg (by decide), if_neg (by decide), if_neg (by decide +kernel), (Na.limbs_is (n := Na.val [1] * 2 ^ ((33 : Nat) : Int).toNat) (a := [0, 2]) (by decide) (by decide) (by decide))]] at h
  exact Calls.mono (show Calls Tryz.prog 27 #[.slice (some ⟨w.heap.size, 0, none⟩) 1 1, .int .i64 33] (w.alloc (Obj.cells #[Value.int IntKind.u32 1] 63)) _ from h) fun e w' hg => hg.lit t.2 rfl

theorem sh1l (w : World) : Calls Tryz.prog 29 #[.slice (some ⟨w.heap.size, 0, none⟩) 2 2, .int .i64 33] (w.alloc (Obj.cells #[Value.int IntKind.u32 0, Value.int IntKind.u32 1] 63)) (GvS 0 [] true 0 w) := by
  have t := one_sl w [0, 1] (by decide)
  have h := na_shr_any _ _ [0, 1] (33 : Nat) _ t.1 (by decide) (by omega)
  rw [show Na.shr [0, 1] (33 : Nat) = ([], true, 0) from by rw [Na.shr, if_neg (by decide), Na.not_big1 (a := [0, 1]) (by decide) (by decide), if_neg (by decide), show Na.val [0, 1] / 2 ^ ((33 : Nat) : Int).toNat = 0 from by decide, Na.limbs_zero]; rfl] at h
  exact Calls.mono (show Calls Tryz.prog 29 #[.slice (some ⟨w.heap.size, 0, none⟩) 2 2, .int .i64 33] (w.alloc (Obj.cells #[Value.int IntKind.u32 0, Value.int IntKind.u32 1] 63)) _ from h) fun e w' hg => hg.lit t.2 rfl

theorem sh1m (w : World) : Calls Tryz.prog 27 #[.slice (some ⟨w.heap.size, 0, none⟩) 1 1, .int .i64 8192] (w.alloc (Obj.cells #[Value.int IntKind.u32 1] 63)) (GvE 0 [] 2 w) := by
  have t := one_sl w [1] (by decide)
  have h := na_shl_any _ _ [1] (8192 : Nat) _ t.1 (by decide) (by omega)
  rw [show Na.shl [1] (8192 : Nat) = ([], 2) from by rw [Na.shl, if_neg (by decide), Na.not_big1 (a := [1]) (by decide) (by decide), if_neg (by decide), if_neg (by decide), if_pos (by decide +kernel)]] at h
  exact Calls.mono (show Calls Tryz.prog 27 #[.slice (some ⟨w.heap.size, 0, none⟩) 1 1, .int .i64 8192] (w.alloc (Obj.cells #[Value.int IntKind.u32 1] 63)) _ from h) fun e w' hg => hg.lit t.2 rfl

theorem sh1n (w : World) : Calls Tryz.prog 27 #[.slice none 0 0, .int .i64 8192] w (GvE 0 [] 0 w) := by
  have h := na_shl_any none 0 [] (8192 : Nat) w (Sl.nil _ _ _) (by decide) (by omega)
  rw [show Na.shl [] (8192 : Nat) = ([], 0) from by rw [Na.shl, if_neg (by decide), Na.not_big1 (a := []) (by decide) (by decide), if_neg (by decide), if_pos (by decide)]] at h
  exact Calls.mono (show Calls Tryz.prog 27 #[.slice none 0 0, .int .i64 8192] w _ from h) fun e w' hg => hg.lit (Below.refl _ _) rfl

theorem sh1o (w : World) : Calls Tryz.prog 31 #[.int .i64 10, .int .i64 10] w (GvE 2 [1410065408, 2] 0 w) := by
  have h := na_pow_any (10 : Nat) (10 : Nat) w (by omega) (by omega)
  rw [show Na.pow (10 : Nat) (10 : Nat) = ([1410065408, 2], 0) from by rw [Na.pow, if_neg (by decide), if_neg (by decide)]; exact Na.fits_is (Na.limbs_is (n := ((10 : Nat) : Int).toNat ^ ((10 : Nat) : Int).toNat) (a := [1410065408, 2]) (by decide) (by decide) (by decide)) (by decide)] at h
  exact Calls.mono (show Calls Tryz.prog 31 #[.int .i64 10, .int .i64 10] w _ from h) fun e w' hg => hg.lit (Below.refl _ _) rfl

theorem sh1p (w : World) : Calls Tryz.prog 31 #[.int .i64 0, .int .i64 0] w (GvE 1 [1] 0 w) := by
  have h := na_pow_any (0 : Nat) (0 : Nat) w (by omega) (by omega)
  rw [show Na.pow (0 : Nat) (0 : Nat) = ([1], 0) from by rw [Na.pow, if_neg (by decide), if_neg (by decide)]; exact Na.fits_is (Na.limbs_is (n := ((0 : Nat) : Int).toNat ^ ((0 : Nat) : Int).toNat) (a := [1]) (by decide) (by decide) (by decide)) (by decide)] at h
  exact Calls.mono (show Calls Tryz.prog 31 #[.int .i64 0, .int .i64 0] w _ from h) fun e w' hg => hg.lit (Below.refl _ _) rfl

theorem sh1q (w : World) : Calls Tryz.prog 31 #[.int .i64 2, .int .i64 8192] w (GvE 0 [] 2 w) := by
  have h := na_pow_any (2 : Nat) (8192 : Nat) w (by omega) (by omega)
  rw [show Na.pow (2 : Nat) (8192 : Nat) = ([], 2) from by rw [Na.pow, if_neg (by decide), if_neg (by decide), Int.toNat_natCast, Int.toNat_natCast, Na.fits, if_pos (Na.limbs_len_gt _ _ (Na.pow_two_big _ (Nat.le_refl _)))]] at h
  exact Calls.mono (show Calls Tryz.prog 31 #[.int .i64 2, .int .i64 8192] w _ from h) fun e w' hg => hg.lit (Below.refl _ _) rfl

theorem sh1r (w : World) : Calls Tryz.prog 33 #[.string ⟨#[48, 48, 55]⟩] w (GvE 1 [7] 0 w) := by
  have h := na_parse_any ⟨#[48, 48, 55]⟩ w (by decide)
  rw [show Na.parse (⟨#[48, 48, 55]⟩ : ByteArray).data.toList = ([7], 0) from by rw [Na.parse, if_neg (by decide)]; exact Na.fits_is (Na.limbs_is (n := Na.num [48, 48, 55]) (a := [7]) (by decide) (by decide) (by decide)) (by decide)] at h
  exact Calls.mono (show Calls Tryz.prog 33 #[.string ⟨#[48, 48, 55]⟩] w _ from h) fun e w' hg => hg.lit (Below.refl _ _) rfl

theorem sh1s (w : World) : Calls Tryz.prog 33 #[.string ⟨#[45, 49]⟩] w (GvE 0 [] 3 w) := by
  have h := na_parse_any ⟨#[45, 49]⟩ w (by decide)
  rw [show Na.parse (⟨#[45, 49]⟩ : ByteArray).data.toList = ([], 3) from by rw [Na.parse, if_pos (by decide)]] at h
  exact Calls.mono (show Calls Tryz.prog 33 #[.string ⟨#[45, 49]⟩] w _ from h) fun e w' hg => hg.lit (Below.refl _ _) rfl

theorem sh1dig (w : World) (ht : Tab w) : Calls Tryz.prog 35 #[.slice (some ⟨w.heap.size, 0, none⟩) 2 2] (w.alloc (Obj.cells #[Value.int IntKind.u32 0, Value.int IntKind.u32 1] 63)) (RetB (.string ⟨#[52, 50, 57, 52, 57, 54, 55, 50, 57, 54]⟩) w) := by
  have t := one_sl w [0, 1] (by decide)
  have h := na_digits_any _ _ [0, 1] _ t.1 (by decide) (ht.below t.2)
  rw [show Lib.decDigits (Na.val [0, 1]) = [52, 50, 57, 52, 57, 54, 55, 50, 57, 54] from by
    have e := Na.dec_app 4 (by decide) 9 294967296 (by decide)
    rw [show Lib.decDigits 4 = [52] from by rw [Lib.decDigits, dif_pos (by decide)]; rfl] at e
    exact e.trans (by decide)] at h
  exact Calls.mono (show Calls Tryz.prog 35 #[.slice (some ⟨w.heap.size, 0, none⟩) 2 2] (w.alloc (Obj.cells #[Value.int IntKind.u32 0, Value.int IntKind.u32 1] 63)) _ from h) fun e w' hg => ⟨hg.1, t.2.trans (hg.2.mono t.2.size)⟩

theorem sm5 (w : World) (a : Option Addr) (c : Nat) (h : Sl w a c [5]) : Calls Tryz.prog 8 #[.slice a 1 c, .slice (some ⟨w.heap.size, 0, none⟩) 1 1] (w.alloc (Obj.cells #[Value.int IntKind.u32 5] 63)) (RetB (.bool true) w) :=
  same_lit w a c [5] [5] 1 1 true h rfl rfl (by decide) (by decide) (by decide) (by decide)

theorem sm01 (w : World) (a : Option Addr) (c : Nat) (h : Sl w a c [0, 1]) : Calls Tryz.prog 8 #[.slice a 2 c, .slice (some ⟨w.heap.size, 0, none⟩) 2 2] (w.alloc (Obj.cells #[Value.int IntKind.u32 0, Value.int IntKind.u32 1] 63)) (RetB (.bool true) w) :=
  same_lit w a c [0, 1] [0, 1] 2 2 true h rfl rfl (by decide) (by decide) (by decide) (by decide)

theorem smm (w : World) (a : Option Addr) (c : Nat) (h : Sl w a c [4294967295]) : Calls Tryz.prog 8 #[.slice a 1 c, .slice (some ⟨w.heap.size, 0, none⟩) 1 1] (w.alloc (Obj.cells #[Value.int IntKind.u32 4294967295] 63)) (RetB (.bool true) w) :=
  same_lit w a c [4294967295] [4294967295] 1 1 true h rfl rfl (by decide) (by decide) (by decide) (by decide)

theorem sm001 (w : World) (a : Option Addr) (c : Nat) (h : Sl w a c [0, 0, 1]) : Calls Tryz.prog 8 #[.slice a 3 c, .slice (some ⟨w.heap.size, 0, none⟩) 3 3] (w.alloc (Obj.cells #[Value.int IntKind.u32 0, Value.int IntKind.u32 0, Value.int IntKind.u32 1] 63)) (RetB (.bool true) w) :=
  same_lit w a c [0, 0, 1] [0, 0, 1] 3 3 true h rfl rfl (by decide) (by decide) (by decide) (by decide)

theorem sm3 (w : World) (a : Option Addr) (c : Nat) (h : Sl w a c [3]) : Calls Tryz.prog 8 #[.slice a 1 c, .slice (some ⟨w.heap.size, 0, none⟩) 1 1] (w.alloc (Obj.cells #[Value.int IntKind.u32 3] 63)) (RetB (.bool true) w) :=
  same_lit w a c [3] [3] 1 1 true h rfl rfl (by decide) (by decide) (by decide) (by decide)

theorem sm1 (w : World) (a : Option Addr) (c : Nat) (h : Sl w a c [1]) : Calls Tryz.prog 8 #[.slice a 1 c, .slice (some ⟨w.heap.size, 0, none⟩) 1 1] (w.alloc (Obj.cells #[Value.int IntKind.u32 1] 63)) (RetB (.bool true) w) :=
  same_lit w a c [1] [1] 1 1 true h rfl rfl (by decide) (by decide) (by decide) (by decide)

theorem sm02 (w : World) (a : Option Addr) (c : Nat) (h : Sl w a c [0, 2]) : Calls Tryz.prog 8 #[.slice a 2 c, .slice (some ⟨w.heap.size, 0, none⟩) 2 2] (w.alloc (Obj.cells #[Value.int IntKind.u32 0, Value.int IntKind.u32 2] 63)) (RetB (.bool true) w) :=
  same_lit w a c [0, 2] [0, 2] 2 2 true h rfl rfl (by decide) (by decide) (by decide) (by decide)

theorem smt (w : World) (a : Option Addr) (c : Nat) (h : Sl w a c [1410065408, 2]) : Calls Tryz.prog 8 #[.slice a 2 c, .slice (some ⟨w.heap.size, 0, none⟩) 2 2] (w.alloc (Obj.cells #[Value.int IntKind.u32 1410065408, Value.int IntKind.u32 2] 63)) (RetB (.bool true) w) :=
  same_lit w a c [1410065408, 2] [1410065408, 2] 2 2 true h rfl rfl (by decide) (by decide) (by decide) (by decide)

theorem sm7 (w : World) (a : Option Addr) (c : Nat) (h : Sl w a c [7]) : Calls Tryz.prog 8 #[.slice a 1 c, .slice (some ⟨w.heap.size, 0, none⟩) 1 1] (w.alloc (Obj.cells #[Value.int IntKind.u32 7] 63)) (RetB (.bool true) w) :=
  same_lit w a c [7] [7] 1 1 true h rfl rfl (by decide) (by decide) (by decide) (by decide)

set_option maxRecDepth 100000 in
set_option maxHeartbeats 4000000 in
theorem l1_shown_any (w : World) (ht : Tab w) : Calls Tryz.prog 7 #[] w (RetB (.bool true) w) := by
  go_enter Tryz.func7, Tryz.ntmps7
  go_wp2_with (first
    | (go_at_call 9; (with_reducible refine (sh1a w).mono ?_); rintro e w1 ⟨aa, ca, rfl, sa, hb1⟩; have hB1 : Below w.heap.size w w1 := hb1)
    | (go_at_call 8; (with_reducible refine (sm5 w1 _ _ sa).mono ?_); rintro e w2 ⟨rfl, hb2⟩; have hB2 : Below w.heap.size w w2 := hB1.trans (hb2.mono hB1.size); replace sa := sa.on hb2)
    | (go_at_call 11; (with_reducible refine (sh1b w2).mono ?_); rintro e w3 ⟨ab, cb, rfl, sb, hb3⟩; have hB3 : Below w.heap.size w w3 := hB2.trans (hb3.mono hB2.size))
    | (go_at_call 8; (with_reducible refine (sm01 w3 _ _ sb).mono ?_); rintro e w4 ⟨rfl, hb4⟩; have hB4 : Below w.heap.size w w4 := hB3.trans (hb4.mono hB3.size); replace sb := sb.on hb4)
    | (go_at_call 13; (with_reducible refine (sh1c w4).mono ?_); rintro e w5 ⟨rfl, hb5⟩; have hB5 := hB4.trans (hb5.mono hB4.size))
    | (go_at_call 13; (with_reducible refine (sh1d w5).mono ?_); rintro e w6 ⟨rfl, hb6⟩; have hB6 := hB5.trans (hb6.mono hB5.size))
    | (go_at_call 19; (with_reducible refine (sh1e w6).mono ?_); rintro e w7 ⟨ac, cc, rfl, sc, hb7⟩; have hB7 : Below w.heap.size w w7 := hB6.trans (hb7.mono hB6.size))
    | (go_at_call 21; (with_reducible refine (sh1f w7).mono ?_); rintro e w8 ⟨ad, cd, rfl, sd, hb8⟩; have hB8 : Below w.heap.size w w8 := hB7.trans (hb8.mono hB7.size); replace sc := sc.on hb8)
    | (go_at_call 21; (with_reducible refine (sh1g w8).mono ?_); rintro e w9 ⟨ag, cg, rfl, sg, hb9⟩; have hB9 : Below w.heap.size w w9 := hB8.trans (hb9.mono hB8.size); replace sc := sc.on hb9; replace sd := sd.on hb9)
    | (go_at_call 23; (with_reducible refine (sh1h w9).mono ?_); rintro e w10 ⟨ah, ch, rfl, sh, hb10⟩; have hB10 : Below w.heap.size w w10 := hB9.trans (hb10.mono hB9.size); replace sc := sc.on hb10; replace sd := sd.on hb10)
    | (go_at_call 25; (with_reducible refine (sh1i w10).mono ?_); rintro e w11 ⟨aq, cq, ar, cr, rfl, sq, sr, hb11⟩; have hB11 : Below w.heap.size w w11 := hB10.trans (hb11.mono hB10.size); replace sc := sc.on hb11; replace sd := sd.on hb11; replace sh := sh.on hb11)
    | (go_at_call 25; (with_reducible refine (sh1j w11).mono ?_); rintro e w12 ⟨aj, cj, ak, ck, rfl, sj, sk, hb12⟩; have hB12 : Below w.heap.size w w12 := hB11.trans (hb12.mono hB11.size); replace sc := sc.on hb12; replace sd := sd.on hb12; replace sh := sh.on hb12; replace sq := sq.on hb12; replace sr := sr.on hb12)
    | (go_at_call 8; (with_reducible refine (sm01 w12 _ _ sc).mono ?_); rintro e w13 ⟨rfl, hb13⟩; have hB13 : Below w.heap.size w w13 := hB12.trans (hb13.mono hB12.size); replace sc := sc.on hb13; replace sd := sd.on hb13; replace sh := sh.on hb13; replace sq := sq.on hb13; replace sr := sr.on hb13)
    | (go_at_call 8; (with_reducible refine (smm w13 _ _ sd).mono ?_); rintro e w14 ⟨rfl, hb14⟩; have hB14 : Below w.heap.size w w14 := hB13.trans (hb14.mono hB13.size); replace sd := sd.on hb14; replace sh := sh.on hb14; replace sq := sq.on hb14; replace sr := sr.on hb14)
    | (go_at_call 8; (with_reducible refine (sm001 w14 _ _ sh).mono ?_); rintro e w15 ⟨rfl, hb15⟩; have hB15 : Below w.heap.size w w15 := hB14.trans (hb15.mono hB14.size); replace sh := sh.on hb15; replace sq := sq.on hb15; replace sr := sr.on hb15)
    | (go_at_call 8; (with_reducible refine (sm3 w15 _ _ sq).mono ?_); rintro e w16 ⟨rfl, hb16⟩; have hB16 : Below w.heap.size w w16 := hB15.trans (hb16.mono hB15.size); replace sq := sq.on hb16; replace sr := sr.on hb16)
    | (go_at_call 8; (with_reducible refine (sm1 w16 _ _ sr).mono ?_); rintro e w17 ⟨rfl, hb17⟩; have hB17 : Below w.heap.size w w17 := hB16.trans (hb17.mono hB16.size); replace sr := sr.on hb17)
    | (go_at_call 15; (with_reducible refine (sh1len w17).mono ?_); rintro e w18 ⟨rfl, hb18⟩; have hB18 : Below w.heap.size w w18 := hB17.trans (hb18.mono hB17.size))
    | (go_at_call 27; (with_reducible refine (sh1k w18).mono ?_); rintro e w19 ⟨al, cl, rfl, sl, hb19⟩; have hB19 : Below w.heap.size w w19 := hB18.trans (hb19.mono hB18.size))
    | (go_at_call 29; (with_reducible refine (sh1l w19).mono ?_); rintro e w20 ⟨an, cn, rfl, sn, hb20⟩; have hB20 : Below w.heap.size w w20 := hB19.trans (hb20.mono hB19.size); replace sl := sl.on hb20)
    | (go_at_call 27; (with_reducible refine (sh1m w20).mono ?_); rintro e w21 ⟨az, cz, rfl, sz, hb21⟩; have hB21 : Below w.heap.size w w21 := hB20.trans (hb21.mono hB20.size); replace sl := sl.on hb21)
    | (go_at_call 27; (with_reducible refine (sh1n w21).mono ?_); rintro e w22 ⟨azz, czz, rfl, szz, hb22⟩; have hB22 : Below w.heap.size w w22 := hB21.trans (hb22.mono hB21.size); replace sl := sl.on hb22)
    | (go_at_call 31; (with_reducible refine (sh1o w22).mono ?_); rintro e w23 ⟨att, ctt, rfl, stt, hb23⟩; have hB23 : Below w.heap.size w w23 := hB22.trans (hb23.mono hB22.size); replace sl := sl.on hb23)
    | (go_at_call 31; (with_reducible refine (sh1p w23).mono ?_); rintro e w24 ⟨ap, cp, rfl, sp, hb24⟩; have hB24 : Below w.heap.size w w24 := hB23.trans (hb24.mono hB23.size); replace sl := sl.on hb24; replace stt := stt.on hb24)
    | (go_at_call 31; (with_reducible refine (sh1q w24).mono ?_); rintro e w25 ⟨app, cpp, rfl, spp, hb25⟩; have hB25 : Below w.heap.size w w25 := hB24.trans (hb25.mono hB24.size); replace sl := sl.on hb25; replace stt := stt.on hb25; replace sp := sp.on hb25)
    | (go_at_call 8; (with_reducible refine (sm02 w25 _ _ sl).mono ?_); rintro e w26 ⟨rfl, hb26⟩; have hB26 : Below w.heap.size w w26 := hB25.trans (hb26.mono hB25.size); replace sl := sl.on hb26; replace stt := stt.on hb26; replace sp := sp.on hb26)
    | (go_at_call 8; (with_reducible refine (smt w26 _ _ stt).mono ?_); rintro e w27 ⟨rfl, hb27⟩; have hB27 : Below w.heap.size w w27 := hB26.trans (hb27.mono hB26.size); replace stt := stt.on hb27; replace sp := sp.on hb27)
    | (go_at_call 8; (with_reducible refine (sm1 w27 _ _ sp).mono ?_); rintro e w28 ⟨rfl, hb28⟩; have hB28 : Below w.heap.size w w28 := hB27.trans (hb28.mono hB27.size); replace sp := sp.on hb28)
    | (go_at_call 33; (with_reducible refine (sh1r w28).mono ?_); rintro e w29 ⟨ax, cx, rfl, sx, hb29⟩; have hB29 : Below w.heap.size w w29 := hB28.trans (hb29.mono hB28.size))
    | (go_at_call 33; (with_reducible refine (sh1s w29).mono ?_); rintro e w30 ⟨ay, cy, rfl, sy, hb30⟩; have hB30 : Below w.heap.size w w30 := hB29.trans (hb30.mono hB29.size); replace sx := sx.on hb30)
    | (go_at_call 8; (with_reducible refine (sm7 w30 _ _ sx).mono ?_); rintro e w31 ⟨rfl, hb31⟩; have hB31 : Below w.heap.size w w31 := hB30.trans (hb31.mono hB30.size); replace sx := sx.on hb31)
    | (go_at_call 35; (with_reducible refine (sh1dig w31 (ht.below hB31)).mono ?_); rintro e w32 ⟨rfl, hb32⟩; have hB32 : Below w.heap.size w w32 := hB31.trans (hb32.mono hB31.size)))
  go_ret
  exact RetB.of rfl hB32
end Go.Proofs.YtcdndcbfmlnpjaaGreatDoor

/- append of limbs to a list of the call's own. -/
namespace Go.Proofs.YtcdndcbfmlnpjaaGreatDoor
set_option linter.all false
open Go.RowKit

/-- A list of the call's own, to which may be appended. -/
def Row (w : World) (B : Nat) (v : Value) (l : List Nat) : Prop := w.ownsRow B 63 1 v l.length (u32s l)
theorem Row.sl {w : World} {B : Nat} {v : Value} {l : List Nat} (h : Row w B v l) (hok : Na.OK l) : ∃ a c, v = .slice a l.length c ∧ Sl w a c l ∧ Own w B a l.length := by
  have h0 := h
  rcases h.2 with ⟨rfl, hn⟩ | ⟨g, cap, cur, rfl, hb, hg, h1, h2, h3, h4⟩
  · obtain rfl : l = [] := List.eq_nil_of_length_eq_zero hn
    exact ⟨none, 0, rfl, Sl.nil _ _ _, Own.nil _ _ _⟩
  · refine ⟨some ⟨g, 0, none⟩, cap, rfl, ⟨fun _ => ⟨g, 0, rfl, (Array.getElem?_eq_some_iff.1 hg).1, fun k hk => ?_⟩, h1, hok⟩, fun _ => ⟨g, 0, rfl, hb, fun k _ => ?_⟩⟩
    · have := World.ownsRow.cellAt h0 k (by omega)
      rw [Nat.zero_add, this, u32s_get l k hk]
    · rw [Nat.zero_add]; exact World.ownsRow.frozenAt h0 k
theorem Row.empty (w : World) {B : Nat} (hB : B ≤ w.heap.size) : Row (w.alloc (.cells #[] 63)) B (.slice (some ⟨w.heap.size, 0, none⟩) 0 0) [] :=
  World.ownsRow_lit w #[] 0 hB (Nat.zero_le _) rfl
theorem Row.nil (w : World) (B : Nat) : Row w B (.slice none 0 0) [] := World.ownsRow_nil _ _ _ _
theorem Row.lt {w : World} {B : Nat} {v : Value} {l : List Nat} (h : Row w B v l) : ∀ k, v.ownBlock = some k → B ≤ k ∧ k < w.heap.size := World.ownsRow.lt h
theorem Row.mono {w : World} {B B' : Nat} {v : Value} {l : List Nat} (h : Row w B v l) (hB : B' ≤ B) : Row w B' v l := by
  refine ⟨h.1, h.2.imp id ?_⟩
  rintro ⟨g, cap, cur, h1, h2, h3⟩
  exact ⟨g, cap, cur, h1, by omega, h3⟩
theorem Row.alloc {w : World} {B : Nat} {v : Value} {l : List Nat} (h : Row w B v l) (o : Obj) : Row (w.alloc o) B v l := World.ownsRow.alloc h o

theorem app_u32 {w : World} {ops : Array Oper} {rest : List Oper} {o : Oper} {act : Act} {Q : Exit → Act → World → Prop} (hgd : o.guard = none) (s x : Operand) (t : TypeId) (ht : Tryz.prog.underlying t = some (.slice 63))
    (hop : o.op = .call { callee := .builtin .append, args := #[s, x], argTypes := #[t, t] }) (B : Nat) (v : Value) (l : List Nat) (hs : act.eval s = v) (hown : Row w B v l) (ad : Option Addr) (n c : Nat) (m : List Nat) (hx : act.eval x = .slice ad n c) (hn : m.length = n) (hm : Sl w ad c m)
    (hnil : ad = none → c = 0) (hlen : l.length + m.length ≤ 1000000) (hB : B ≤ w.heap.size)
    (hK : ∀ v' w', Hid (Row w' B v' (l ++ m)) → Hid (∀ B' w0, Below B' w0 w → B' ≤ B → Below B' w0 w') → wpList Tryz.prog ops Q rest (act.put o.dst v') w') : wpList Tryz.prog ops Q (o :: rest) act w := by
  subst hn
  obtain ⟨ti, hi, hz0, hz1, hz2⟩ := info_parts infoU32
  cases ad with
  | none =>
    have hm0 : m = [] := by
      rcases Nat.eq_zero_or_pos m.length with h | h
      · exact List.eq_nil_of_length_eq_zero h
      · obtain ⟨_, _, e, _⟩ := hm.plain h; cases e
    subst hm0
    obtain rfl := hnil rfl
    exact wpList_append_own_none hgd s x t hop B 63 ti 1 ht hi v l.length (u32s l) hs hown hx (hK v w (Lib.hid (by rw [List.append_nil]; exact hown)) (Lib.hid fun B' w0 hb _ => hb))
  | some a =>
    refine wpList_append_own w hgd s x t hop B 63 ti (.int .u32 0) 1 4 ht hi hz0 hz1 hz2 rfl (by decide) v l.length (u32s l) hs hown a m.length c (u32s m) hx (by rw [u32s_len]; omega) ?_ (u32s_one _) (by unfold maxLen; omega) (by omega) hB ?_
    · intro j u hu
      have hj : j < m.length := by have := (List.getElem?_eq_some_iff.1 hu).1; rwa [u32s_len] at this
      obtain ⟨ad', e, hc⟩ := hm.cells (by omega)
      cases e
      exact hc j u hu
    · intro v' w' h1 h2 _
      refine hK v' w' (Lib.hid ?_) (Lib.hid fun B' w0 hb hB' => hb.grown h2 (by omega) (fun k e => by have := (hown.lt k e).1; omega))
      show w'.ownsRow _ _ _ _ (l ++ m).length _
      rw [List.length_append, u32s, List.map_append]; exact h1
end Go.Proofs.YtcdndcbfmlnpjaaGreatDoor

/- Plain Lean: a number's digits are read as the number. -/
namespace Go.Proofs.YtcdndcbfmlnpjaaGreatDoor.Na
set_option linter.all false
open Go

theorem dig_byte (r : Nat) (h : r < 10) : isD (UInt8.ofNat (48 + r)) = true ∧ (UInt8.ofNat (48 + r)).toNat - 48 = r ∧ (r ≠ 0 → UInt8.ofNat (48 + r) ≠ 48) := by
  have e : (UInt8.ofNat (48 + r)).toNat = 48 + r := by rw [UInt8.toNat_ofNat']; exact Nat.mod_eq_of_lt (by omega)
  refine ⟨by simp only [isD, e, Bool.and_eq_true, decide_eq_true_eq]; omega, by rw [e]; omega, fun h0 e2 => ?_⟩
  have := congrArg UInt8.toNat e2
  rw [e] at this
  have h48 : (48 : UInt8).toNat = 48 := rfl
  omega
theorem num_snoc (t : List UInt8) (c : UInt8) : num (t ++ [c]) = 10 * num t + (c.toNat - 48) := by rw [num, List.foldl_append]; rfl
theorem dec_spec (n : Nat) : (Lib.decDigits n).all isD = true ∧ num (Lib.decDigits n) = n ∧ 0 < (Lib.decDigits n).length ∧ (n ≠ 0 → (Lib.decDigits n)[0]? ≠ some 48) ∧ (n = 0 → (Lib.decDigits n).length = 1) := by
  induction n using Nat.strongRecOn with
  | _ n ih =>
    by_cases h : n < 10
    · rw [Lib.decDigits, dif_pos h]
      obtain ⟨h1, h2, h3⟩ := dig_byte n h
      obtain ⟨c, hc⟩ : ∃ c, c = UInt8.ofNat (48 + n) := ⟨_, rfl⟩
      rw [← hc] at h1 h2 h3 ⊢
      refine ⟨by simp [h1], by simp [num, h2], by simp, fun h0 e => h3 h0 ?_, fun _ => rfl⟩
      simpa using e
    · obtain ⟨i1, i2, i3, i4, _⟩ := ih (n / 10) (by omega)
      obtain ⟨h1, h2, _⟩ := dig_byte (n % 10) (by omega)
      rw [Lib.decDigits, dif_neg h]
      obtain ⟨c, hc⟩ : ∃ c, c = UInt8.ofNat (48 + n % 10) := ⟨_, rfl⟩
      rw [← hc] at h1 h2 ⊢
      refine ⟨by rw [List.all_append, i1]; simp [h1], by rw [num_snoc, i2, h2]; omega, by simp, fun _ => ?_, fun h0 => by omega⟩
      rw [List.getElem?_append_left i3]
      exact i4 (by omega)
theorem bitLen_half {y : Nat} (h : y ≠ 0) : bitLen y = bitLen (y / 2) + 1 := by
  rw [bitLen, if_neg h, bitLen]
  by_cases h1 : y / 2 = 0
  · have : y = 1 := by omega
    subst this; rfl
  · rw [if_neg h1, Nat.log2_def y, if_pos (by omega)]
theorem bitLen_pos' {y : Nat} (h : y ≠ 0) : 0 < bitLen y := by rw [bitLen, if_neg h]; exact Nat.succ_pos _
theorem bitLen_le' {n k : Nat} (h : n < 2 ^ k) : bitLen n ≤ k := by
  by_cases h0 : n = 0
  · subst h0; exact Nat.zero_le _
  · rw [bitLen, if_neg h0]
    exact (Nat.log2_lt h0).2 h
theorem val_drop_at (q : List Nat) (m : Nat) (h : m < q.length) : val (q.drop m) = q[m] + B * val (q.drop (m + 1)) := by
  rw [List.drop_eq_getElem_cons h]; rfl
/-- What was written is read again. -/
theorem parse_dec {n : Nat} (h : n < B ^ 256) : parse (Lib.decDigits n) = (limbs n, 0) := by
  obtain ⟨h1, h2, h3, _⟩ := dec_spec n
  rw [parse, if_neg, h2, fits, if_neg]
  · have := limbs_len_le _ _ h; omega
  · rintro (e | e)
    · rw [e] at h3; simp at h3
    · rw [h1] at e; cases e
end Go.Proofs.YtcdndcbfmlnpjaaGreatDoor.Na
