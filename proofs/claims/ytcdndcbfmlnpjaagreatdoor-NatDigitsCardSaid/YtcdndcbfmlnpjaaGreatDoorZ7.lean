/- Plain Lean: a shift down. -/
import Derived.Test.YtcdndcbfmlnpjaaGreatDoorZ6
import Derived.Deep.QuietTactic
import Derived.BigQuiet
import Derived.Outline
import Derived.Lib.AtoiAll
import Derived.Lib.SlTrimSet
import Derived.Shelf.Strings.SlTrimAscii
namespace Go.Proofs.YtcdndcbfmlnpjaaGreatDoor.Na
set_option linter.all false
open Go

theorem shr_head (x y Y Y2 s : Nat) (hs : s < 32) (hx : x < B) (hY : Y = y + B * Y2) : (x + B * Y) / 2 ^ s = ((x + y * B) / 2 ^ s) % B + B * (Y / 2 ^ s) := by
  obtain ⟨p, hp⟩ : ∃ p, p = 2 ^ s := ⟨_, rfl⟩
  obtain ⟨c, hc⟩ : ∃ c, c = 2 ^ (32 - s) := ⟨_, rfl⟩
  have hB : B = p * c := by rw [hp, hc, ← Nat.pow_add, show s + (32 - s) = 32 by omega]
  have hp0 : 0 < p := by rw [hp]; exact Nat.pow_pos (by decide)
  rw [← hp]
  have e1 : (x + B * Y) / p = x / p + c * Y := by rw [hB, Nat.mul_assoc, Nat.add_mul_div_left _ _ hp0]
  have e2 : (x + y * B) / p = x / p + c * y := by rw [hB, Nat.mul_left_comm, Nat.add_mul_div_left _ _ hp0, Nat.mul_comm y]
  have hmod : Y % p = y % p := by rw [hY, hB, Nat.mul_assoc, Nat.add_mul_mod_self_left]
  have h1 : c * Y = B * (Y / p) + c * (y % p) := by
    have := congrArg (c * ·) (Nat.div_add_mod Y p)
    simp only [Nat.mul_add, hmod] at this
    rw [← this, hB, ← Nat.mul_assoc, Nat.mul_comm c p]
  have h2 : c * y = B * (y / p) + c * (y % p) := by
    have := congrArg (c * ·) (Nat.div_add_mod y p)
    simp only [Nat.mul_add] at this
    rw [← this, hB, ← Nat.mul_assoc, Nat.mul_comm c p]
  have hxc : x / p < c := by rw [Nat.div_lt_iff_lt_mul hp0, Nat.mul_comm, ← hB]; exact hx
  have hm : c * (y % p) + c ≤ B := by
    have := Nat.mul_le_mul_left c (show y % p + 1 ≤ p from Nat.mod_lt _ hp0)
    rw [Nat.mul_add, Nat.mul_one, Nat.mul_comm c p, ← hB] at this; exact this
  rw [e1, e2, h1, h2]
  have e3 : (x / p + (B * (y / p) + c * (y % p))) % B = x / p + c * (y % p) := by
    rw [show x / p + (B * (y / p) + c * (y % p)) = (x / p + c * (y % p)) + B * (y / p) by omega, Nat.add_mul_mod_self_left, Nat.mod_eq_of_lt (by omega)]
  rw [e3]; omega
theorem shr_lost (L V k s : Nat) (hL : L < B ^ k) : (L + B ^ k * V) / 2 ^ (32 * k + s) = V / 2 ^ s ∧ ((L + B ^ k * V) % 2 ^ (32 * k + s) ≠ 0 ↔ L ≠ 0 ∨ V % 2 ^ s ≠ 0) := by
  have hB : 2 ^ (32 * k) = B ^ k := by rw [Nat.pow_mul]
  have h0 : 0 < B ^ k := Nat.pow_pos (by decide)
  rw [Nat.pow_add, hB]
  constructor
  · rw [← Nat.div_div_eq_div_mul, Nat.add_mul_div_left _ _ h0, Nat.div_eq_of_lt hL, Nat.zero_add]
  · have e : (L + B ^ k * V) % (B ^ k * 2 ^ s) = L + B ^ k * (V % 2 ^ s) := by
      rw [Nat.mod_mul, Nat.add_mul_div_left _ _ h0, Nat.div_eq_of_lt hL, Nat.zero_add, Nat.add_mul_mod_self_left, Nat.mod_eq_of_lt hL]
    rw [e]
    constructor
    · intro h
      rcases Nat.eq_zero_or_pos L with hl | hl
      · rcases Nat.eq_zero_or_pos (V % 2 ^ s) with hv | hv
        · rw [hl, hv] at h; simp at h
        · right; omega
      · left; omega
    · rintro (h | h)
      · omega
      · have := Nat.mul_pos h0 (show 0 < V % 2 ^ s by omega); omega
theorem and_mask (x s : Nat) (hx : x < 4294967296) (hs : s < 32) : bits BinOp.and IntKind.u32 (x : Int) ((2 ^ s - 1 : Nat) : Int) = ((x % 2 ^ s : Nat) : Int) := by
  have h1 : 2 ^ s ≤ 2 ^ 31 := Nat.pow_le_pow_right (by decide) (by omega)
  rw [(bits_and_u32 x (2 ^ s - 1) hx (by omega)).1, Nat.and_two_pow_sub_one_eq_mod]
end Go.Proofs.YtcdndcbfmlnpjaaGreatDoor.Na

/- Shr: what is refused. -/
namespace Go.Proofs.YtcdndcbfmlnpjaaGreatDoor
set_option linter.all false
open Go.RowKit

/-- A list of the call's own, a bool and an error. -/
def GivesS (q : List Nat × Bool × Int) (w : World) (e : Ending) (w' : World) : Prop := ∃ a c, e = .returned (.tuple #[.slice a q.1.length c, .bool q.2.1, .int .i64 q.2.2]) ∧ Sl w' a c q.1 ∧ Own w' w.heap.size a q.1.length ∧ Below w.heap.size w w'
theorem gives_snil {q : List Nat × Bool × Int} {w w' : World} (b : Bool) (e : Int) (hq : q = ([], b, e)) (hb : Below w.heap.size w w') : GivesS q w (.returned (.tuple #[.slice none 0 0, .bool b, .int .i64 e])) w' := by
  rw [hq]; exact ⟨none, 0, rfl, Sl.nil _ _ _, Own.nil _ _ _, hb⟩

section
variable (a : Option Addr) (c : Nat) (l : List Nat) (n : Int) (w : World) (h : Sl w a c l) (hn : l.length ≤ 1000000) (hi : -9223372036854775808 ≤ n ∧ n ≤ 9223372036854775807)
include h hn hi

set_option maxHeartbeats 1000000 in
theorem na_shr_arg (h0 : n < 0) : Calls Tryz.prog 29 #[.slice a l.length c, .int .i64 n] w (GivesS (Na.shr l n) w) := by
  have e := Lib.hid (gives_snil false 1 (show Na.shr l n = ([], false, 1) from if_pos h0) (Below.refl w.heap.size w))
  go_enter Tryz.func29, Tryz.ntmps29
  go_wp2
  refine bodyPost_ret (v := .tuple #[.slice none 0 0, .bool false, .int .i64 1]) (by simp [results, Tryz.results29, go_sem]) rfl e.out

set_option maxHeartbeats 1000000 in
theorem na_shr_big (h0 : 0 ≤ n) (hb : Na.big l = true) : Calls Tryz.prog 29 #[.slice a l.length c, .int .i64 n] w (GivesS (Na.shr l n) w) := by
  have hB : Below w.heap.size w (w.alloc (Obj.cells #[Value.slice a l.length c] 26)) := (Below.refl _ _).alloc (Nat.le_refl _) _
  have e := Lib.hid (gives_snil false 2 (show Na.shr l n = ([], false, 2) by rw [Na.shr, if_neg (by omega), if_pos hb]) hB)
  have H1 := Lib.hid (na_over1_any h hn true hb)
  clear hb
  go_enter Tryz.func29, Tryz.ntmps29
  go_wp2_with (first | (go_at_call 40; (with_reducible refine (H1.out).mono ?_); rintro e w' ⟨rfl, rfl⟩))
  refine bodyPost_ret (v := .tuple #[.slice none 0 0, .bool false, .int .i64 2]) (by simp [results, Tryz.results29, go_sem]) rfl e.out
end
end Go.Proofs.YtcdndcbfmlnpjaaGreatDoor

/- Shr: nothing is left. -/
namespace Go.Proofs.YtcdndcbfmlnpjaaGreatDoor
set_option linter.all false
open Go.RowKit

set_option maxHeartbeats 1000000 in
theorem na_shr_all (a : Option Addr) (c : Nat) (l : List Nat) (n : Nat) (w : World) (h : Sl w a c l) (hn : l.length ≤ 1000000) (hi : n ≤ 9223372036854775807) (hb : Na.big l = false) (hp : (Na.cut l).length ≤ n / 32) :
    Calls Tryz.prog 29 #[.slice a l.length c, .int .i64 n] w (GivesS (Na.shr l n) w) := by
  have hB : Below w.heap.size w (w.alloc (Obj.cells #[Value.slice a l.length c] 26)) := (Below.refl _ _).alloc (Nat.le_refl _) _
  have H1 := Lib.hid (na_over1_any h hn false hb)
  have hl1 : (Na.cut l).length ≤ 256 := Nat.le_of_not_lt (of_decide_eq_false hb)
  have H4 := na_cut_any a c l _ (h.on hB) hn
  have S1 := h.cut
  have hv : Na.val l < 2 ^ n := by
    have h1 := Na.val_lt (Na.cut l) (Na.ok_cut l)
    rw [Na.val_cut, show Na.B ^ (Na.cut l).length = 2 ^ (32 * (Na.cut l).length) by rw [Nat.pow_mul]] at h1
    exact Nat.lt_of_lt_of_le h1 (Nat.pow_le_pow_right (by decide) (by omega))
  have hnil := Na.cut_nil_iff l
  have e2 := Lib.hid (show Na.shr l n = ([], decide (0 < (Na.cut l).length), 0) by
    rw [Na.shr, if_neg (by omega), hb, if_neg (by simp), Int.toNat_natCast, Nat.div_eq_of_lt hv, Nat.mod_eq_of_lt hv, Na.limbs_zero]
    congr 2
    apply decide_eq_decide.2
    rw [List.length_pos_iff, ne_eq, ne_eq, hnil])
  have hrt : Na.rt (Na.cut l) = (Na.cut l).length := by rw [Na.rt_cut]; rfl
  obtain ⟨q, hq⟩ : ∃ q, q = Na.cut l := ⟨_, rfl⟩
  rw [← hq] at H4 hl1 S1 hp e2 hrt
  obtain ⟨ln, hqn⟩ : ∃ n, q.length = n := ⟨_, rfl⟩
  have H5 := na_right_any a c q _ (S1.on hB) (by omega)
  rw [hrt, hqn] at H5
  rw [hqn] at H4 hl1 hp e2
  have H4' := Lib.hid H4; have H5' := Lib.hid H5
  obtain ⟨p, hpp⟩ : ∃ p, p = n / 32 := ⟨_, rfl⟩
  have hpi : (n : Int) / 32 = (p : Int) := by omega
  rw [← hpp] at hp
  have hmin : min (p : Int) (ln : Int) = (ln : Int) := by omega
  have hs1 : ln ≤ c := by have := S1.cap; omega
  clear hb hv hnil hq hqn H4 H5 hrt hpp S1
  go_enter Tryz.func29, Tryz.ntmps29
  go_wp2_with (first | (go_at_call 40; (with_reducible refine (H1.out).mono ?_); rintro e w' ⟨rfl, rfl⟩) | (go_at_call 38; (with_reducible refine (H4'.out).mono ?_); rintro e w' ⟨rfl, rfl⟩) | (go_at_call 37; (with_reducible refine (H5'.out).mono ?_); rintro e w' ⟨rfl, rfl⟩) | (at_make; refine mk_u32 rfl _ _ rfl _ _ 0 rfl rfl (by simp) (by simp) (by omega) ?_))
  intro w1 hK hgrow
  have HB1 := Lib.hid (hgrow.out _ _ hB (by simp [World.size_alloc]))
  clear hgrow hB hK
  go_wp2_with (first | (refine wpList_copy_nothing rfl _ _ 26 26 rfl 63 Tryz.underlying26 (by kernel_rfl) _ _ _ _ _ _ rfl rfl (by simp) ?_))
  all_goals exact bodyPost_ret (v := .tuple #[.slice none 0 0, .bool (decide (0 < ln)), .int .i64 0]) (by simp [results, Tryz.results29, go_sem]) rfl (gives_snil _ 0 e2.out HB1.out)
end Go.Proofs.YtcdndcbfmlnpjaaGreatDoor

/- Shr: limbs are left. -/
namespace Go.Proofs.YtcdndcbfmlnpjaaGreatDoor
set_option linter.all false
open Go.RowKit

def shrLoop (m s g : Nat) (X : List Nat) (w : World) (iv : Value) (wr : World) : Prop := ∃ (i : Nat) (o : List Nat), i ≤ m ∧ iv = .int .i64 i ∧ Hid (Blk wr g o) ∧ Hid (o.length = m) ∧ Hid (Na.OK o) ∧ Hid (o.drop i = X.drop i) ∧
  Hid (Na.val (o.take i) + Na.B ^ i * (Na.val (X.drop i) / 2 ^ s) = Na.val X / 2 ^ s) ∧ Hid (Below w.heap.size w wr)

theorem rt_pos (l : List Nat) : 0 < Na.rt l ↔ Na.val l ≠ 0 := by
  rw [Na.rt, List.length_pos_iff, ne_eq, ne_eq, Na.cut_nil_iff]

theorem Na.shr_step (X : List Nat) (i s x y : Nat) (hs : s < 32) (hi : i < X.length) (hx : X[i] = x) (hxl : x < 4294967296) (hy : ∃ r, Na.val (X.drop (i + 1)) = y + Na.B * r) (P V : Nat)
    (inv : P + Na.B ^ i * (Na.val (X.drop i) / 2 ^ s) = V) : P + Na.B ^ i * ((x + y * 4294967296) / 2 ^ s % 4294967296) + Na.B ^ (i + 1) * (Na.val (X.drop (i + 1)) / 2 ^ s) = V := by
  obtain ⟨r, hr⟩ := hy
  have h1 := Na.shr_head x y (Na.val (X.drop (i + 1))) r s hs hxl hr
  have h2 : Na.val (X.drop i) = x + Na.B * Na.val (X.drop (i + 1)) := by rw [List.drop_eq_getElem_cons hi, hx]; rfl
  rw [h2, h1] at inv
  rw [← inv, Nat.mul_add, Nat.pow_succ, Nat.mul_assoc (Na.B ^ i) Na.B, Nat.add_assoc]

theorem shrLoop.drew {m s g : Nat} {X : List Nat} {w : World} {iv : Value} {wr : World} (h : shrLoop m s g X w iv wr) (n : Nat) : shrLoop m s g X w iv (wr.drewN n) := by
  obtain ⟨i, o, h1, h2, h3, h4, h5, h6, h7, h8⟩ := h
  exact ⟨i, o, h1, h2, Lib.hid (show _ = _ from h3.out), h4, h5, h6, h7, Lib.hid (below_drewN' h8.out n)⟩
theorem Na.shr_set (X o : List Nat) (i v V s : Nat) (hi : i < o.length) (hd : o.drop i = X.drop i) (h : Na.val (o.take i) + Na.B ^ i * v + Na.B ^ (i + 1) * (Na.val (X.drop (i + 1)) / 2 ^ s) = V) :
    (o.set i v).drop (i + 1) = X.drop (i + 1) ∧ Na.val ((o.set i v).take (i + 1)) + Na.B ^ (i + 1) * (Na.val (X.drop (i + 1)) / 2 ^ s) = V := by
  constructor
  · rw [List.drop_set, if_pos (by omega)]
    have := congrArg (List.drop 1) hd
    rwa [List.drop_drop, List.drop_drop] at this
  · rw [Na.val_set_take o i v hi, h]
theorem Na.drop_get {X o : List Nat} {i j : Nat} (hd : o.drop i = X.drop i) (hj : i ≤ j) (ho : j < o.length) (hx : j < X.length) : o[j] = X[j] := by
  have h1 : (o.drop i)[j - i]? = (X.drop i)[j - i]? := by rw [hd]
  rw [List.getElem?_drop, List.getElem?_drop, show i + (j - i) = j by omega, List.getElem?_eq_getElem ho, List.getElem?_eq_getElem hx] at h1
  exact Option.some.inj h1

set_option maxHeartbeats 2000000 in
theorem na_shr_main (a : Option Addr) (c : Nat) (l : List Nat) (n : Nat) (w : World) (h : Sl w a c l) (hn : l.length ≤ 1000000) (hi : n ≤ 9223372036854775807) (hb : Na.big l = false) (hp : n / 32 < (Na.cut l).length) :
    Calls Tryz.prog 29 #[.slice a l.length c, .int .i64 n] w (GivesS (Na.shr l n) w) := by
  have hB : Below w.heap.size w (w.alloc (Obj.cells #[Value.slice a l.length c] 26)) := (Below.refl _ _).alloc (Nat.le_refl _) _
  have H1 := Lib.hid (na_over1_any h hn false hb)
  have hl1 : (Na.cut l).length ≤ 256 := Nat.le_of_not_lt (of_decide_eq_false hb)
  have H4 := na_cut_any a c l _ (h.on hB) hn
  have S1 := h.cut
  have hv := Na.val_cut (a := l)
  obtain ⟨q, hq⟩ : ∃ q, q = Na.cut l := ⟨_, rfl⟩
  rw [← hq] at H4 hl1 S1 hp hv
  obtain ⟨p, hpp⟩ : ∃ p, p = n / 32 := ⟨_, rfl⟩
  obtain ⟨s, hss⟩ : ∃ s, s = n % 32 := ⟨_, rfl⟩
  have hpi : (n : Int) / 32 = (p : Int) := by omega
  have hsi : (n : Int) % 32 = (s : Int) := by omega
  have hs32 : s < 32 := by omega
  have hnps : n = 32 * p + s := by omega
  rw [← hpp] at hp
  have hqtd := Na.val_take_drop q p (by omega)
  have hlo := Na.val_lt (q.take p) (Na.ok_take S1.ok p)
  rw [List.length_take, Nat.min_eq_left (by omega)] at hlo
  obtain ⟨hdiv, hmod⟩ := Na.shr_lost (Na.val (q.take p)) (Na.val (q.drop p)) p s hlo
  rw [← hqtd, ← hnps, hv] at hdiv hmod
  have e2 := Lib.hid (show Na.shr l n = (Na.limbs (Na.val (q.drop p) / 2 ^ s), decide (Na.val (q.take p) ≠ 0 ∨ Na.val (q.drop p) % 2 ^ s ≠ 0), 0) by
    rw [Na.shr, if_neg (by omega), hb, if_neg (by simp), Int.toNat_natCast, hdiv]
    congr 2
    exact decide_eq_decide.2 hmod)
  have H5 := na_right_any a c (q.take p) _ ((S1.on hB).take p) (by rw [List.length_take]; omega)
  rw [List.length_take, Nat.min_eq_left (by omega)] at H5
  obtain ⟨m, hqm⟩ : ∃ m, q.length = p + m := ⟨q.length - p, by omega⟩
  have hm0 : 0 < m := by omega
  rw [hqm] at H4 hl1
  obtain ⟨b, o, rfl, hbl, hcell⟩ := S1.plain (by omega)
  have hcap : p + m ≤ c := by have := S1.cap; omega
  obtain ⟨X, hX⟩ : ∃ X, X = q.drop p := ⟨_, rfl⟩
  have hXl : X.length = m := by rw [hX, List.length_drop]; omega
  have hXok : Na.OK X := by rw [hX]; exact Na.ok_drop S1.ok p
  have HCX := Lib.hid (show ∀ j v, (u32s X)[j]? = some v → w.cell? ⟨b, o + p + j, none⟩ = some v by
    intro j v hv
    have hj : j < X.length := by have := (List.getElem?_eq_some_iff.1 hv).1; rwa [u32s_len] at this
    rw [u32s_get X j hj] at hv
    have e := hcell (p + j) (by omega)
    rw [Nat.add_assoc, e, ← Option.some.inj hv]
    congr 3
    simp [hX])
  rw [← hX] at e2
  obtain ⟨r0, hr0⟩ : ∃ r, r = Na.rt (q.take p) := ⟨_, rfl⟩
  have hr1 : decide (Na.val (q.take p) ≠ 0 ∨ Na.val X % 2 ^ s ≠ 0) = (decide (0 < r0) || decide (Na.val X % 2 ^ s ≠ 0)) := by
    rw [hr0]; simp only [Bool.decide_or, rt_pos]
  rw [← hr0] at H5
  rw [hr1] at e2
  have H4' := Lib.hid H4; have H5' := Lib.hid H5
  have HXL := Lib.hid hXl; have HXO := Lib.hid hXok
  have hmin : min (p : Int) ((p : Int) + (m : Int)) = (p : Int) := by omega
  have hcp : ¬ c = p := by omega
  have hpm : ((p + m : Nat) : Int) = (p : Int) + (m : Int) := by simp
  clear hb hv hq hqtd hlo hdiv hmod H4 H5 hpp hss hnps hX hXl hXok hr0 hr1 hqm S1 hcell
  go_enter Tryz.func29, Tryz.ntmps29
  go_wp2_with (first | (go_at_call 40; (with_reducible refine (H1.out).mono ?_); rintro e w' ⟨rfl, rfl⟩) | (go_at_call 38; (with_reducible refine (H4'.out).mono ?_); rintro e w' ⟨rfl, rfl⟩) | (go_at_call 37; (with_reducible refine (H5'.out).mono ?_); rintro e w' ⟨rfl, rfl⟩) | (at_make; refine mk_u32 rfl _ _ rfl _ _ m rfl rfl (by omega) (by omega) (by omega) ?_))
  intro w1 hK hgrow
  have HB1 := Lib.hid (hgrow.out _ _ hB (by simp [World.size_alloc]))
  have hK' := Lib.hid (show Blk w1 (w.heap.size + 1) (List.replicate m 0) by have := hK.out; simpa [World.size_alloc] using this)
  clear hgrow hB hK
  go_wp2_with (first | (refine wpList_copy_splice rfl _ _ 26 26 rfl 63 Tryz.underlying26 (by kernel_rfl) _ _ _ _ _ _ rfl rfl (w.heap.size + 1) 0 (u32s (List.replicate m 0)) 63 hK'.out (u32s X) (by rw [u32s_len, HXL.out]; show _ = min _ _; omega) (fun h0 => ⟨rfl, _, rfl, fun j v hv => (by rw [add_own]; exact (HB1.out.cell (p := ⟨b, o + p + j, none⟩) hbl).trans (HCX.out j v hv))⟩) (by simp [u32s_len, HXL.out]) (u32s_one _) w.heap.size w HB1.out (by omega) ?_))
  intro w2 hg2 hB2
  have HG2 := Lib.hid (show Blk w2 (w.heap.size + 1) X by have := hg2.out; rwa [splice_all _ _ (by simp [u32s_len, HXL.out])] at this)
  have HB2 := Lib.hid hB2
  clear hg2 hB2 hK' HB1 HCX H1 H4' H5' h
  go_wp2_with fail
  have hx0 : 0 < X.length := by have := HXL.out; omega
  have cx := HG2.out.cell 0 hx0
  have hx0l : X[0]'hx0 < 4294967296 := HXO.out _ (List.getElem_mem hx0)
  obtain ⟨x0, hx0e⟩ : ∃ x, X[0]'hx0 = x := ⟨_, rfl⟩
  rw [hx0e] at cx hx0l
  obtain ⟨M, hM⟩ : ∃ M, M = 2 ^ s := ⟨_, rfl⟩
  have hM1 : 1 ≤ M := by rw [hM]; exact Nat.pow_pos (by decide)
  have hM2 : M ≤ 2147483648 := by rw [hM]; exact Nat.pow_le_pow_right (by decide) (show s ≤ 31 by omega)
  have hMi : ((2 : Int) ^ s) = (M : Int) := by rw [hM]; simp
  have HM := Lib.hid hM; have HX0 := Lib.hid hx0e; clear hM hx0e
  clear hmin hcp hpm hpi hm0
  have hand := Na.and_mask x0 s hx0l hs32
  obtain ⟨z0, hz0⟩ : ∃ z, z = x0 % 2 ^ s := ⟨_, rfl⟩
  rw [← hz0, ← HM.out, show ((M - 1 : Nat) : Int) = (M : Int) - 1 by omega] at hand
  have hvz : Na.val X % 2 ^ s = z0 := by
    rw [hz0, ← HX0.out]
    have e1 : Na.val X = X[0] + Na.B * Na.val (X.drop 1) := by
      conv => lhs; rw [← List.drop_zero (l := X), List.drop_eq_getElem_cons hx0]
      rfl
    rw [e1, show Na.B = 2 ^ s * 2 ^ (32 - s) by rw [← Nat.pow_add, show s + (32 - s) = 32 by omega], Nat.mul_assoc, Nat.add_mul_mod_self_left]
  rw [hvz] at e2
  have hdz : decide (z0 ≠ 0) = ((z0 : Int) != 0) := by
    rw [Bool.eq_iff_iff]; simp
  rw [hdz] at e2
  have HAtS := Lib.hid (show shrLoop m s (w.heap.size + 1) X w (.int .i64 ((0 : Nat) : Int)) w2 from ⟨0, X, Nat.zero_le _, rfl, HG2, HXL, HXO, Lib.hid rfl, Lib.hid (by simp [Na.val]), HB2⟩)
  clear hz0 hvz hdz HG2 HB2
  by_cases hr : 0 < r0
  all_goals
    first
    | (have hd : decide (0 < r0) = true := decide_eq_true hr
       rw [hd, Bool.true_or] at e2
       simp only [hd]
       clear hMi hand cx
       go_quiet (fail)
       clear hd
       have hMi : ((2 : Int) ^ s) = (M : Int) := by rw [HM.out]; simp
       go_wp2_with fail)
    | (have hd : decide (0 < r0) = false := decide_eq_false hr
       rw [hd, Bool.false_or] at e2
       simp only [hd]
       go_quiet (fail)
       clear hd hand cx
       go_wp2_with fail)
    go_loopw [67] (shrLoop m s (w.heap.size + 1) X w) (fun i _ => m - (intOf i).toNat)
    case atStart => exact HAtS.out.drew _
    case round =>
      clear HAtS
      obtain ⟨i, o2, hi, rfl, HBl, HOl, HOk, HDr, HInv, HBe⟩ := hrel
      by_cases hlt : i < m
      · have ho1 : i < o2.length := by have := HOl.out; omega
        have hx1 : i < X.length := by have := HXL.out; omega
        have co := HBl.out.cell i ho1
        have fo := HBl.out.frozen i
        have hxl : X[i]'hx1 < 4294967296 := HXO.out _ (List.getElem_mem hx1)
        obtain ⟨x, hxe⟩ : ∃ x, X[i]'hx1 = x := ⟨_, rfl⟩
        rw [Na.drop_get HDr.out (Nat.le_refl _) ho1 hx1] at co
        rw [hxe] at co hxl
        by_cases hlt2 : i + 1 < m
        · have ho2 : i + 1 < o2.length := by have := HOl.out; omega
          have hx2 : i + 1 < X.length := by have := HXL.out; omega
          have co2 := HBl.out.cell (i + 1) ho2
          have hyl : X[i + 1]'hx2 < 4294967296 := HXO.out _ (List.getElem_mem hx2)
          have HR := Lib.hid (show ∃ r, Na.val (X.drop (i + 1)) = X[i + 1] + Na.B * r from ⟨Na.val (X.drop (i + 1 + 1)), by rw [List.drop_eq_getElem_cons hx2]; rfl⟩)
          obtain ⟨y, hye⟩ : ∃ x, X[i + 1]'hx2 = x := ⟨_, rfl⟩
          rw [Na.drop_get HDr.out (Nat.le_succ _) ho2 hx2] at co2
          rw [hye] at co2 hyl HR
          have HS := Lib.hid (Na.shr_set X o2 i _ _ s ho1 HDr.out (Na.shr_step X i s x y hs32 hx1 hxe hxl HR.out _ _ HInv.out))
          have hor := Na.or_shift x y 32 (by omega) (by omega)
          have e32 : IntKind.u64.wrap ((y : Int) * 2 ^ 32) = (y : Int) * 4294967296 := by rw [show ((y : Int) * 2 ^ 32) = ((y * 4294967296 : Nat) : Int) by simp, Na.wrap_u64 _ (by omega)]; simp
          rw [e32] at hor
          have e33 : x + y * 2 ^ 32 = x + y * 4294967296 := rfl
          rw [e33] at hor
          have hs3 : x + y * 4294967296 < 18446744073709551616 := by omega
          have hor' : bits BinOp.or IntKind.u64 (x : Int) ((y : Int) * 4294967296) = ((x + y * 4294967296 : Nat) : Int) := hor
          obtain ⟨t, ht⟩ : ∃ t, t = x + y * 4294967296 := ⟨_, rfl⟩
          rw [← ht] at HS hor' hs3
          clear ht hor e32 e33 hxe hye
          go_wp2_with fail
          go_roundw
          case rel =>
            have hq : (t : Int) / (M : Int) % 4294967296 = ((t / 2 ^ s % 4294967296 : Nat) : Int) := by rw [← HM.out]; simp
            rw [hq]
            exact ⟨i + 1, o2.set i (t / 2 ^ s % 4294967296), by omega, by go_num, Lib.hid (HBl.out.set i _), Lib.hid (by rw [List.length_set]; exact HOl.out), Lib.hid (Na.ok_set HOk.out _ _ (Nat.mod_lt _ (by decide))), Lib.hid HS.out.1, Lib.hid HS.out.2, Lib.hid (by have hbe := HBe.out; (repeat (first | exact Below.refl _ _ | assumption | refine Below.setCell ?_ (by first | omega | (simp <;> omega)) _ | refine Below.alloc ?_ (by first | omega | (simp <;> omega)) _ | refine Below.drew ?_ | refine below_drewN' ?_ _)))⟩
          case measure => simp [intOf]; omega
        · have HS := Lib.hid (Na.shr_set X o2 i _ _ s ho1 HDr.out (Na.shr_step X i s x 0 hs32 hx1 hxe hxl ⟨0, by rw [List.drop_of_length_le (by have := HXL.out; omega)]; rfl⟩ _ _ HInv.out))
          obtain ⟨t, ht⟩ : ∃ t, t = x + 0 * 4294967296 := ⟨_, rfl⟩
          rw [← ht] at HS
          obtain rfl : t = x := by omega
          clear ht hxe
          go_wp2_with fail
          go_roundw
          case rel =>
            have hq : (t : Int) / (M : Int) % 4294967296 = ((t / 2 ^ s % 4294967296 : Nat) : Int) := by rw [← HM.out]; simp
            rw [hq]
            exact ⟨i + 1, o2.set i (t / 2 ^ s % 4294967296), by omega, by go_num, Lib.hid (HBl.out.set i _), Lib.hid (by rw [List.length_set]; exact HOl.out), Lib.hid (Na.ok_set HOk.out _ _ (Nat.mod_lt _ (by decide))), Lib.hid HS.out.1, Lib.hid HS.out.2, Lib.hid (by have hbe := HBe.out; (repeat (first | exact Below.refl _ _ | assumption | refine Below.setCell ?_ (by first | omega | (simp <;> omega)) _ | refine Below.alloc ?_ (by first | omega | (simp <;> omega)) _ | refine Below.drew ?_ | refine below_drewN' ?_ _)))⟩
          case measure => simp [intOf]; omega
      · obtain rfl : i = m := by omega
        have hv : Na.val o2 = Na.val X / 2 ^ s := by
          have := HInv.out
          rw [List.take_of_length_le (by have := HOl.out; omega), List.drop_of_length_le (by have := HXL.out; omega)] at this
          simpa [Na.val] using this
        have hcut : Na.cut o2 = Na.limbs (Na.val X / 2 ^ s) := by rw [Na.cut, hv]
        have hs3 := HBl.out.sl HOk.out (c := i) (by have := HOl.out; omega)
        have hc := na_cut_any (some ⟨w.heap.size + 1, 0, none⟩) i o2 wr hs3 (by have := HOl.out; omega)
        have hs4 := hs3.cut
        rw [HOl.out, hcut] at hc
        rw [hcut] at hs4
        have HC := Lib.hid hc; have HS4 := Lib.hid hs4
        clear hc hs4 hs3 hcut hv
        go_wp2_with (first | (go_at_call 38; (with_reducible refine (HC.out).mono ?_); rintro e w' ⟨rfl, rfl⟩))
        first
        | refine bodyPost_ret (v := .tuple #[.slice (some ⟨w.heap.size + 1, 0, none⟩) (Na.limbs (Na.val X / 2 ^ s)).length i, .bool true, .int .i64 0]) (by simp [results, Tryz.results29, go_sem]) rfl (by rw [e2.out]; exact ⟨_, _, rfl, HS4.out, HBl.out.own (by omega), HBe.out⟩)
        | refine bodyPost_ret (v := .tuple #[.slice (some ⟨w.heap.size + 1, 0, none⟩) (Na.limbs (Na.val X / 2 ^ s)).length i, .bool ((z0 : Int) != 0), .int .i64 0]) (by simp [results, Tryz.results29, go_sem]) rfl (by rw [e2.out]; exact ⟨_, _, rfl, HS4.out, HBl.out.own (by omega), HBe.out⟩)

theorem na_shr_any (a : Option Addr) (c : Nat) (l : List Nat) (n : Int) (w : World) (h : Sl w a c l) (hn : l.length ≤ 1000000) (hi : -9223372036854775808 ≤ n ∧ n ≤ 9223372036854775807) :
    Calls Tryz.prog 29 #[.slice a l.length c, .int .i64 n] w (GivesS (Na.shr l n) w) := by
  by_cases h0 : n < 0
  · exact na_shr_arg a c l n w h hn hi h0
  · cases hb : Na.big l with
    | true => exact na_shr_big a c l n w h hn hi (by omega) hb
    | false =>
      obtain ⟨n', rfl⟩ : ∃ x : Nat, n = x := ⟨n.toNat, by omega⟩
      by_cases hp : n' / 32 < (Na.cut l).length
      · exact na_shr_main a c l n' w h hn (by omega) hb hp
      · exact na_shr_all a c l n' w h hn (by omega) hb (by omega)
end Go.Proofs.YtcdndcbfmlnpjaaGreatDoor

/- Plain Lean: a text of digits as a number. -/
namespace Go.Proofs.YtcdndcbfmlnpjaaGreatDoor.Na
set_option linter.all false
open Go

def isD (c : UInt8) : Bool := decide (48 ≤ c.toNat) && decide (c.toNat ≤ 57)
def num (t : List UInt8) : Nat := t.foldl (fun a c => 10 * a + (c.toNat - 48)) 0
/-- What a text says: a number, or an error (3: its form; 2: too big). -/
def parse (t : List UInt8) : List Nat × Int := if t = [] ∨ t.all isD = false then ([], 3) else fits (num t)

theorem num_from (t : List UInt8) : ∀ a, t.foldl (fun a c => 10 * a + (c.toNat - 48)) a = a * 10 ^ t.length + num t := by
  induction t with
  | nil => intro a; simp [num]
  | cons c t ih =>
    intro a
    have h2 : num (c :: t) = (c.toNat - 48) * 10 ^ t.length + num t := by
      rw [num, List.foldl_cons, Nat.mul_zero, Nat.zero_add, ih]
    rw [List.foldl_cons, ih, h2, List.length_cons, Nat.pow_succ, Nat.add_mul]
    rw [show 10 * a * 10 ^ t.length = a * (10 ^ t.length * 10) by rw [Nat.mul_comm 10 a, Nat.mul_assoc, Nat.mul_comm 10]]
    omega
theorem num_app (a b : List UInt8) : num (a ++ b) = num a * 10 ^ b.length + num b := by
  rw [num, List.foldl_append, num_from]; rfl
theorem num_lt (t : List UInt8) (h : t.all isD = true) : num t < 10 ^ t.length := by
  induction t with
  | nil => simp [num]
  | cons c t ih =>
    rw [List.all_cons, Bool.and_eq_true] at h
    have h1 := ih h.2
    have hc : c.toNat - 48 ≤ 9 := by
      have := h.1; simp only [isD, Bool.and_eq_true, decide_eq_true_eq] at this; omega
    rw [num, List.foldl_cons, Nat.mul_zero, Nat.zero_add, num_from, List.length_cons, Nat.pow_succ]
    have := Nat.mul_le_mul_right (10 ^ t.length) hc
    omega
theorem num_ge (c : UInt8) (t : List UInt8) (h : isD c = true) (h0 : c ≠ 48) : 10 ^ t.length ≤ num (c :: t) := by
  have hc : 1 ≤ c.toNat - 48 := by
    have h1 : c.toNat ≠ 48 := fun e => h0 (UInt8.toNat_inj.1 (by rw [e]; rfl))
    simp only [isD, Bool.and_eq_true, decide_eq_true_eq] at h; omega
  rw [num, List.foldl_cons, Nat.mul_zero, Nat.zero_add, num_from]
  have := Nat.mul_le_mul_right (10 ^ t.length) hc
  omega
theorem num_trim (t : List UInt8) : num (t.dropWhile (· == 48)) = num t := by
  induction t with
  | nil => rfl
  | cons c t ih =>
    by_cases h : (c == 48) = true
    · have hc : c = 48 := by simpa using h
      subst hc
      rw [List.dropWhile_cons, if_pos (by rfl), ih]; rfl
    · rw [List.dropWhile_cons, if_neg (by simpa using h)]
end Go.Proofs.YtcdndcbfmlnpjaaGreatDoor.Na

/- Plain Lean: a text of digits, nine at a time. -/
namespace Go.Proofs.YtcdndcbfmlnpjaaGreatDoor.Na
set_option linter.all false
open Go

theorem parseUint_num (l : List UInt8) : ∀ (a : Nat), l.all isD = true → a * 10 ^ l.length + 10 ^ l.length ≤ 1000000000000000000 → Lib.parseUint10 a l = .ok (a * 10 ^ l.length + num l) := by
  induction l with
  | nil => intro a _ _; simp [Lib.parseUint10, num]
  | cons c l ih =>
    intro a hd hb
    rw [List.all_cons, Bool.and_eq_true] at hd
    have hc : 48 ≤ c.toNat ∧ c.toNat ≤ 57 := by
      have := hd.1; simp only [isD, Bool.and_eq_true, decide_eq_true_eq] at this; exact this
    have hp : 1 ≤ 10 ^ l.length := Nat.one_le_pow _ _ (by decide)
    have hn : num (c :: l) = (c.toNat - 48) * 10 ^ l.length + num l := by
      rw [num, List.foldl_cons, Nat.mul_zero, Nat.zero_add, num_from]
    rw [List.length_cons, Nat.pow_succ] at hb ⊢
    have hb2 : a * (10 ^ l.length * 10) = (a * 10) * 10 ^ l.length := by rw [Nat.mul_comm (10 ^ l.length) 10, Nat.mul_assoc]
    have hstep : (a * 10 + (c.toNat - 48)) * 10 ^ l.length + 10 ^ l.length ≤ a * (10 ^ l.length * 10) + 10 ^ l.length * 10 := by
      rw [hb2, Nat.add_mul]
      have : (c.toNat - 48) * 10 ^ l.length ≤ 9 * 10 ^ l.length := Nat.mul_le_mul_right _ (by omega)
      omega
    have ha : a ≤ 100000000000000000 := by
      have : a * 10 ≤ a * 10 * 10 ^ l.length := Nat.le_mul_of_pos_right _ hp
      omega
    rw [Lib.parseUint10, if_pos ⟨hc.1, hc.2⟩, if_neg (by omega), if_neg (by omega), ih _ hd.2 (by omega), hn, hb2, Nat.add_mul, Nat.add_assoc]

theorem atoi_num (l : List UInt8) (hd : l.all isD = true) (hne : l ≠ []) (hl : l.length ≤ 9) : Lib.atoiAll l = .ok (num l : Nat) := by
  have h4 : 10 ^ l.length ≤ 10 ^ 9 := Nat.pow_le_pow_right (by decide) hl
  have h1 := parseUint_num l 0 hd (by omega)
  rw [Nat.zero_mul, Nat.zero_add] at h1
  have h2 := num_lt l hd
  cases l with
  | nil => exact absurd rfl hne
  | cons c r =>
    rw [List.all_cons, Bool.and_eq_true] at hd
    have hc : 48 ≤ c.toNat ∧ c.toNat ≤ 57 := by
      have := hd.1; simp only [isD, Bool.and_eq_true, decide_eq_true_eq] at this; exact this
    have h43 : ¬ (c.toNat = 43 ∨ c.toNat = 45) := by omega
    have h45 : ¬ c.toNat = 45 := by omega
    have h5 : Lib.parseMag (if c.toNat = 43 ∨ c.toNat = 45 then r else c :: r) = .ok (num (c :: r)) := by
      rw [if_neg h43, Lib.parseMag, if_neg (by simp), h1]
    unfold Lib.atoiAll
    simp only []
    rw [h5]
    simp [h45]; omega

def dset : List UInt8 := [48, 49, 50, 51, 52, 53, 54, 55, 56, 57]
theorem isD_set (c : UInt8) : dset.contains c = isD c := by
  obtain ⟨k, hk⟩ : ∃ k : Nat, k = c.toNat := ⟨_, rfl⟩
  have h1 : ∀ d : UInt8, (c = d) ↔ k = d.toNat := fun d => by rw [hk]; exact UInt8.toNat_inj.symm
  rw [Bool.eq_iff_iff]
  simp only [dset, List.contains_iff_mem, List.mem_cons, List.not_mem_nil, or_false, isD, Bool.and_eq_true, decide_eq_true_eq, h1, ← hk, UInt8.toNat_ofNat]
  omega
theorem dropWhile_nil {α : Type} (p : α → Bool) (l : List α) : l.dropWhile p = [] ↔ l.all p = true := by
  induction l with
  | nil => simp
  | cons a l ih =>
    by_cases h : p a = true
    · rw [List.dropWhile_cons, if_pos h, ih, List.all_cons, h, Bool.true_and]
    · rw [List.dropWhile_cons, if_neg h, List.all_cons]; simp [h]
theorem trimS_nil (l cs : List UInt8) : Lib.trimS l cs = [] ↔ l.all (cs.contains ·) = true := by
  rw [Lib.trimS, Lib.trimLeftS, dropWhile_nil, Lib.trimRightS, List.all_reverse]
  have h := List.takeWhile_append_dropWhile (p := (cs.contains ·)) (l := l.reverse)
  have h2 : (l.reverse.takeWhile (cs.contains ·)).all (cs.contains ·) = true := by
    exact List.all_takeWhile
  have h3 : l.all (cs.contains ·) = l.reverse.all (cs.contains ·) := List.all_reverse.symm
  rw [h3]
  conv => rhs; rw [← h]
  rw [List.all_append, h2, Bool.true_and]
theorem trim_digits (l : List UInt8) : Lib.trimS l dset = [] ↔ l.all isD = true := by
  rw [trimS_nil]
  have : (fun c => dset.contains c) = isD := funext isD_set
  rw [this]

theorem all_dropWhile (l : List UInt8) (h : l.all isD = true) : (l.dropWhile (· == 48)).all isD = true := by
  rw [List.all_eq_true] at h ⊢
  exact fun x hx => h x ((List.dropWhile_sublist _).subset hx)
theorem head_dropWhile (l : List UInt8) (c : UInt8) (t : List UInt8) (h : l.dropWhile (· == 48) = c :: t) : c ≠ 48 := by
  induction l with
  | nil => simp at h
  | cons a l ih =>
    by_cases ha : (a == 48) = true
    · rw [List.dropWhile_cons, if_pos ha] at h; exact ih h
    · rw [List.dropWhile_cons, if_neg ha] at h
      injection h with h1 h2
      subst h1
      simpa using ha
theorem pow_pow_le (a b m n k : Nat) (h : a ≤ b ^ n) (hk : n * m ≤ k) (hb : 0 < b) : a ^ m ≤ b ^ k := by
  have := Nat.pow_le_pow_left h m
  rw [← Nat.pow_mul] at this
  exact Nat.le_trans this (Nat.pow_le_pow_right hb hk)
theorem pow_big (k : Nat) (h : 2560 ≤ k) : B ^ 256 ≤ 10 ^ k := pow_pow_le B 10 256 10 k (by decide) h (by decide)
theorem pow_two_big (k : Nat) (h : 8192 ≤ k) : B ^ 256 ≤ 2 ^ k := pow_pow_le B 2 256 32 k (by decide) h (by decide)
/-- A text of too many digits. -/
theorem num_long (l : List UInt8) (hd : l.all isD = true) (h : 3000 < (l.dropWhile (· == 48)).length) : fits (num l) = ([], 2) := by
  rw [← num_trim]
  have hd2 := all_dropWhile l hd
  cases e : l.dropWhile (· == 48) with
  | nil => rw [e] at h; simp at h
  | cons c t =>
    have h1 := head_dropWhile l c t e
    rw [e] at h hd2
    rw [List.all_cons, Bool.and_eq_true] at hd2
    have h2 := num_ge c t hd2.1 h1
    rw [List.length_cons] at h
    have h3 := pow_big t.length (by omega)
    rw [fits, if_pos]
    exact limbs_len_gt _ _ (Nat.le_trans h3 h2)
theorem fits_more {a b : Nat} (h : fits a = ([], 2)) (h2 : a ≤ b) : fits b = ([], 2) := by
  by_cases h1 : 256 < (limbs a).length
  · rw [fits, if_pos]
    refine limbs_len_gt _ _ (Nat.le_trans ?_ h2)
    exact Nat.le_of_not_lt fun hl => by have := (limbs_len_iff a 256).2 hl; omega
  · rw [fits, if_neg h1] at h
    injection h with _ h
    exact absurd h (by decide)
theorem num_split (l : List UInt8) (k n : Nat) : num (l.take (k + n)) = num (l.take k) * 10 ^ ((l.drop k).take n).length + num ((l.drop k).take n) := by
  rw [← num_app, List.take_add]
theorem num_pre (l : List UInt8) (k : Nat) : num (l.take k) ≤ num l := by
  have := num_app (l.take k) (l.drop k)
  rw [List.take_append_drop] at this
  rw [this]
  have := Nat.mul_le_mul_left (num (l.take k)) (Nat.one_le_pow (l.drop k).length 10 (by decide))
  omega
end Go.Proofs.YtcdndcbfmlnpjaaGreatDoor.Na

/- Parse. -/
namespace Go.Proofs.YtcdndcbfmlnpjaaGreatDoor
set_option linter.all false
open Go.RowKit

theorem trimD (s : ByteArray) (w : World) (hs : s.size ≤ 1000000000) : Calls Tryz.prog 55 #[.string s, .string ⟨#[48, 49, 50, 51, 52, 53, 54, 55, 56, 57]⟩] w (RetB (.string ⟨(Lib.trimS s.data.toList Na.dset).toArray⟩) w) :=
  (Any.strings_Trim_laid Tryz.lays160 (by kernel_rfl) s ⟨#[48, 49, 50, 51, 52, 53, 54, 55, 56, 57]⟩ w (by omega) (by decide) (Go.Proofs.ascii_of_all (by decide))).mono fun _ _ h => ⟨h.1, h.2⟩
theorem trimL0 (s : ByteArray) (w : World) : Calls Tryz.prog 56 #[.string s, .string ⟨#[48]⟩] w (Ret0 (.string ⟨(s.data.toList.dropWhile (· == 48)).toArray⟩) w) :=
  (Tryz.strings_TrimLeft_one s 48 (by decide) w).mono fun _ _ h => ⟨h.1, h.2.symm⟩
theorem na_atoi (s : ByteArray) (w : World) (hd : s.data.toList.all Na.isD = true) (h : 0 < s.size ∧ s.size ≤ 9) : Calls Tryz.prog 57 #[.string s] w (RetB (.tuple #[.int .i64 (Na.num s.data.toList : Nat), .nilIface]) w) :=
  (Tryz.strconv_Atoi_ok s (by omega) _ (Na.atoi_num s.data.toList hd (fun e => by have := congrArg List.length e; rw [bs_length, List.length_nil] at this; omega) (by rw [bs_length]; exact h.2)) w).mono fun e w' he => ⟨he.1, by
    rcases he.2 with e | ⟨t, e⟩
    · rw [e]; exact Below.refl _ _
    · rw [e]; exact Lib.bytesWorld_below _ _ _⟩

set_option maxHeartbeats 1000000 in
theorem na_parse_empty (s : ByteArray) (w : World) (h : s.size = 0) : Calls Tryz.prog 33 #[.string s] w (GivesE (Na.parse s.data.toList) w) := by
  have e0 : s.data.toList = [] := List.eq_nil_of_length_eq_zero (by rw [bs_length]; exact h)
  have e := Lib.hid (gives_nil 3 (show Na.parse s.data.toList = ([], 3) from if_pos (Or.inl e0)) (Below.refl w.heap.size w))
  have h1 : s.toList.isEmpty = true := isEmpty_of_zero h
  have h2 : s.toList = [] := List.isEmpty_iff.1 h1
  clear e0 h
  go_enter Tryz.func33, Tryz.ntmps33
  go_wp2
  refine bodyPost_ret (v := .tuple #[.slice none 0 0, .int .i64 3]) (by simp [results, Tryz.results33, go_sem]) rfl e.out

set_option maxHeartbeats 1000000 in
theorem na_parse_form (s : ByteArray) (w : World) (h : 0 < s.size) (hs : s.size ≤ 1000000000) (hd : s.data.toList.all Na.isD = false) : Calls Tryz.prog 33 #[.string s] w (GivesE (Na.parse s.data.toList) w) := by
  have e := Lib.hid (fun w' (hb : Below w.heap.size w w') => gives_nil 3 (show Na.parse s.data.toList = ([], 3) from if_pos (Or.inr hd)) hb)
  have h1 : s.toList.isEmpty = false := isEmpty_of_pos h
  have hc := trimD s w hs
  obtain ⟨T, hT⟩ : ∃ T : ByteArray, T = ⟨(Lib.trimS s.data.toList Na.dset).toArray⟩ := ⟨_, rfl⟩
  have hTn : ¬ Lib.trimS s.data.toList Na.dset = [] := fun e => by rw [Na.trim_digits, hd] at e; cases e
  have hT0 : 0 < T.size := by rw [hT, size_mk]; exact List.length_pos_iff.2 hTn
  rw [← hT] at hc
  have HC := Lib.hid hc
  have h2 : T.toList.isEmpty = false := isEmpty_of_pos hT0
  clear hc hT hTn hd
  go_enter Tryz.func33, Tryz.ntmps33
  go_wp2_with (go_at_call 55; (with_reducible refine (HC.out).mono ?_); rintro e w1 ⟨rfl, hb_w1⟩; have hB_w1 : Below (w).heap.size (w) w1 := Below.trans (by (repeat (first | exact Below.refl _ _ | assumption | refine Below.setCell ?_ (by first | omega | (simp <;> omega)) _ | refine Below.alloc ?_ (by first | omega | (simp <;> omega)) _ | refine Below.drew ?_ | refine below_drewN' ?_ _))) (hb_w1.mono (by first | omega | (simp <;> omega))); obtain ⟨hc_w1, hf_w1⟩ := bcell hb_w1; have hz_w1 := hb_w1.size; (try simp only [size_drew', size_drewN', World.size_alloc, World.size_setCell] at hz_w1))
  refine bodyPost_ret (v := .tuple #[.slice none 0 0, .int .i64 3]) (by simp [results, Tryz.results33, go_sem]) rfl (e.out _ hB_w1)

set_option maxHeartbeats 1000000 in
theorem na_parse_long (s : ByteArray) (w : World) (h : 0 < s.size) (hs : s.size ≤ 1000000000) (hd : s.data.toList.all Na.isD = true) (hl : 3000 < (s.data.toList.dropWhile (· == 48)).length) : Calls Tryz.prog 33 #[.string s] w (GivesE (Na.parse s.data.toList) w) := by
  have hne : ¬ (s.data.toList = [] ∨ s.data.toList.all Na.isD = false) := by
    rw [hd]; rintro (e | e)
    · have := congrArg List.length e; rw [bs_length, List.length_nil] at this; omega
    · cases e
  have e := Lib.hid (fun w' (hb : Below w.heap.size w w') => gives_nil 2 (show Na.parse s.data.toList = ([], 2) from (if_neg hne).trans (Na.num_long _ hd hl)) hb)
  have h1 : s.toList.isEmpty = false := isEmpty_of_pos h
  have hc := trimD s w hs
  rw [(Na.trim_digits _).2 hd] at hc
  have HC := Lib.hid (show Calls Tryz.prog 55 #[.string s, .string ⟨#[48, 49, 50, 51, 52, 53, 54, 55, 56, 57]⟩] w (RetB (.string ⟨#[]⟩) w) from hc)
  obtain ⟨T, hT⟩ : ∃ T : ByteArray, T = ⟨(s.data.toList.dropWhile (· == 48)).toArray⟩ := ⟨_, rfl⟩
  have hTs : 3000 < T.size := by rw [hT, size_mk]; exact hl
  have HL := Lib.hid (fun w => trimL0 s w)
  rw [← hT] at HL
  clear hc hT hd hl hne
  go_enter Tryz.func33, Tryz.ntmps33
  go_wp2_with (first | (go_at_call 55; (with_reducible refine (HC.out).mono ?_); rintro e w1 ⟨rfl, hb_w1⟩; have hB_w1 : Below (w).heap.size (w) w1 := Below.trans (by (repeat (first | exact Below.refl _ _ | assumption | refine Below.setCell ?_ (by first | omega | (simp <;> omega)) _ | refine Below.alloc ?_ (by first | omega | (simp <;> omega)) _ | refine Below.drew ?_ | refine below_drewN' ?_ _))) (hb_w1.mono (by first | omega | (simp <;> omega))); obtain ⟨hc_w1, hf_w1⟩ := bcell hb_w1; have hz_w1 := hb_w1.size; (try simp only [size_drew', size_drewN', World.size_alloc, World.size_setCell] at hz_w1)) | (go_at_call 56; (with_reducible refine (HL.out _).mono ?_); rintro e w' ⟨rfl, rfl⟩))
  refine bodyPost_ret (v := .tuple #[.slice none 0 0, .int .i64 2]) (by simp [results, Tryz.results33, go_sem]) rfl (e.out _ hB_w1)
end Go.Proofs.YtcdndcbfmlnpjaaGreatDoor
