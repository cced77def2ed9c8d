/- Plain Lean: a shift up by less than a limb. -/
import Derived.Test.YtjnkbifafbjckaaGreatDoorZ6
import Derived.Lib.ItoaNum
import Derived.Lib.RepeatB
import Derived.Lib.AppendIntMem
namespace Go.Proofs.YtjnkbifafbjckaaGreatDoor.Na
set_option linter.all false
open Go

theorem shift_lt (c x s : Nat) (hs : s < 32) (hc : c < 2 ^ s) (hx : x < 4294967296) : c + x * 2 ^ s < 18446744073709551616 ∧ (c + x * 2 ^ s) / 4294967296 < 2 ^ s := by
  have h1 : 2 ^ s ≤ 2 ^ 31 := Nat.pow_le_pow_right (by decide) (by omega)
  have h2 : x * 2 ^ s + 2 ^ s ≤ 4294967296 * 2 ^ s := by
    have := Nat.mul_le_mul_right (2 ^ s) (show x + 1 ≤ 4294967296 by omega)
    rwa [Nat.add_mul, Nat.one_mul] at this
  constructor
  · omega
  · rw [Nat.div_lt_iff_lt_mul (by decide)]; omega
theorem drop_set (O : List Nat) (off k v : Nat) : (O.set (off + k) v).drop off = (O.drop off).set k v := by
  rw [List.drop_set]
  rw [if_neg (by omega), Nat.add_sub_cancel_left]
theorem shift_step (O q : List Nat) (off k c x s : Nat) (hk : off + k < O.length) (inv : val ((O.drop off).take k) + B ^ k * c = val (q.take k) * 2 ^ s) (hq : val (q.take (k + 1)) = val (q.take k) + B ^ k * x) :
    val (((O.set (off + k) ((c + x * 2 ^ s) % 4294967296)).drop off).take (k + 1)) + B ^ (k + 1) * ((c + x * 2 ^ s) / 4294967296) = val (q.take (k + 1)) * 2 ^ s := by
  rw [drop_set, val_set_take _ k _ (by rw [List.length_drop]; omega), hq, Nat.pow_succ, Nat.add_mul, ← inv]
  have h := split_digit (B ^ k) (c + x * 2 ^ s)
  rw [Nat.mul_add, ← Nat.mul_assoc] at h
  simp only [B] at h ⊢
  omega
theorem shl_val (O q : List Nat) (p s N : Nat) (cc v : Nat) (hz : val (O.take p) = 0) (hp : p ≤ O.length) (h : val (O.drop p) + B ^ N * cc = val q * 2 ^ s) (hv : val q * 2 ^ s < B ^ N) (hn : v = val q * 2 ^ (32 * p + s)) : val O = v := by
  have h0 : cc = 0 := by
    rcases Nat.eq_zero_or_pos cc with h0 | h0
    · exact h0
    · have := Nat.mul_le_mul_left (B ^ N) h0
      omega
  rw [h0] at h
  rw [val_take_drop O p hp, hz, hn, Nat.pow_add, show 2 ^ (32 * p) = B ^ p by rw [Nat.pow_mul]]
  rw [Nat.mul_zero, Nat.add_zero] at h
  rw [h, Nat.zero_add, Nat.mul_left_comm]
end Go.Proofs.YtjnkbifafbjckaaGreatDoor.Na

/- shift. -/
namespace Go.Proofs.YtjnkbifafbjckaaGreatDoor
set_option linter.all false
open Go.RowKit

def shiftLoop (N s g off : Nat) (O q : List Nat) (w : World) (cv iv : Value) (wr : World) : Prop := ∃ (k c : Nat) (o : List Nat), k ≤ N ∧ iv = .int .i64 k ∧ cv = .int .u64 c ∧ Hid (c < 2 ^ s) ∧ Hid (Blk wr g o) ∧ Hid (o.length = off + N) ∧ Hid (Na.OK o) ∧ Hid (o.take off = O.take off) ∧
  Hid (Na.val ((o.drop off).take k) + Na.B ^ k * c = Na.val (q.take k) * 2 ^ s) ∧ Hid (Below g w wr)

set_option maxHeartbeats 2000000 in
theorem na_shift_any (g off N c s ca : Nat) (O q : List Nat) (a : Option Addr) (w : World) (hb : Blk w g O) (hok : Na.OK O) (hl : O.length = off + N) (hs : ∀ wr, Below g w wr → Sl wr a ca q) (hs2 : s < 32) (hq : q.length ≤ 1000000) (hN : off + N ≤ 1000000) :
    Calls Tryz.prog 141 #[.slice (some ⟨g, off, none⟩) N c, .slice a q.length ca, .int .i64 s] w (fun e w' => e = .returned (.tuple #[]) ∧ Below g w w' ∧ ∃ o', Blk w' g o' ∧ o'.length = off + N ∧ Na.OK o' ∧ o'.take off = O.take off ∧ ∃ cc, Na.val (o'.drop off) + Na.B ^ N * cc = Na.val (q.take N) * 2 ^ s) := by
  have HB0 := Lib.hid hb; have HO0 := Lib.hid hok; have HL0 := Lib.hid hl; have HS := Lib.hid hs
  clear hb hok hl hs
  go_enter Tryz.func141, Tryz.ntmps141
  go_wp2_with fail
  go_loopw [6, 10] (shiftLoop N s g off O q w) (fun _ i _ => N - (intOf i).toNat)
  case atStart => exact ⟨0, 0, O, Nat.zero_le _, rfl, rfl, Lib.hid (Nat.pow_pos (by decide)), HB0, HL0, HO0, Lib.hid rfl, Lib.hid (by simp [Na.val]), Lib.hid (Below.refl _ _)⟩
  case round =>
    clear HB0 HO0 HL0
    obtain ⟨k, cc, o, hk, rfl, rfl, HC, HBl, HOl, HOk, HTk, HInv, HBe⟩ := hrel
    by_cases hlt : k < N
    · have ho1 : off + k < o.length := by have := HOl.out; omega
      have co := HBl.out.cell (off + k) ho1
      have fo := HBl.out.frozen (off + k)
      by_cases hlq : k < q.length
      · obtain ⟨b1, o1, rfl, hb1, hc1⟩ := (HS.out wr HBe.out).plain (by omega)
        have c1 := hc1 k hlq
        have hx := (HS.out wr HBe.out).lt k hlq
        have VQ := Lib.hid (Na.val_take_succ q k hlq)
        obtain ⟨x, hxe⟩ : ∃ x, q[k]'hlq = x := ⟨_, rfl⟩
        rw [hxe] at c1 hx VQ
        obtain ⟨hl1, hl2⟩ := Na.shift_lt cc x s hs2 HC.out hx
        have hor := Na.or_shift cc x s HC.out hl1
        have HST := Lib.hid (Na.shift_step o q off k cc x s ho1 HInv.out VQ.out)
        obtain ⟨t, ht⟩ : ∃ t, t = cc + x * 2 ^ s := ⟨_, rfl⟩
        rw [← ht] at hl1 hl2 hor HST
        have HL2 := Lib.hid hl2
        clear hc1 hxe ht hl2
        go_wp2_with fail
        go_roundw
        case rel => exact ⟨k + 1, t / 4294967296, o.set (off + k) (t % 4294967296), by omega, by go_num, by first | rfl | (rw [hor]; simp) | go_num, HL2, Lib.hid (by have := HBl.out.set (off + k) (t % 4294967296); first | exact this | (rw [hor]; exact this)), Lib.hid (by rw [List.length_set]; exact HOl.out), Lib.hid (Na.ok_set HOk.out _ _ (by omega)), Lib.hid (by rw [List.take_set_of_le (by omega)]; exact HTk.out), HST, Lib.hid (by have hbe := HBe.out; (repeat (first | exact Below.refl _ _ | assumption | refine Below.setCell ?_ (by first | omega | (simp <;> omega)) _ | refine Below.alloc ?_ (by first | omega | (simp <;> omega)) _ | refine Below.drew ?_ | refine below_drewN' ?_ _)))⟩
        case measure => simp [intOf]; omega
      · have hl1 : cc < 4294967296 := Nat.lt_of_lt_of_le HC.out (Nat.le_trans (Nat.pow_le_pow_right (by decide) (show s ≤ 32 by omega)) (by decide))
        have HST := Lib.hid (Na.shift_step o q off k cc 0 s ho1 HInv.out (Na.take_more q k (by omega)))
        have e0 : cc + 0 * 2 ^ s = cc := by omega
        rw [e0] at HST
        have HL2 := Lib.hid (show cc / 4294967296 < 2 ^ s by rw [Nat.div_eq_of_lt hl1]; exact Nat.pow_pos (by decide))
        clear e0
        go_wp2_with fail
        go_roundw
        case rel => exact ⟨k + 1, cc / 4294967296, o.set (off + k) (cc % 4294967296), by omega, by go_num, by first | rfl | go_num, HL2, Lib.hid (by have := HBl.out.set (off + k) (cc % 4294967296); first | exact this | (rw [Nat.mod_eq_of_lt hl1] at this ⊢; exact this)), Lib.hid (by rw [List.length_set]; exact HOl.out), Lib.hid (Na.ok_set HOk.out _ _ (by omega)), Lib.hid (by rw [List.take_set_of_le (by omega)]; exact HTk.out), HST, Lib.hid (by have hbe := HBe.out; (repeat (first | exact Below.refl _ _ | assumption | refine Below.setCell ?_ (by first | omega | (simp <;> omega)) _ | refine Below.alloc ?_ (by first | omega | (simp <;> omega)) _ | refine Below.drew ?_ | refine below_drewN' ?_ _)))⟩
        case measure => simp [intOf]; omega
    · obtain rfl : k = N := by omega
      have HE := Lib.hid (show Na.val (o.drop off) + Na.B ^ k * cc = Na.val (q.take k) * 2 ^ s by
        have := HInv.out; rwa [List.take_of_length_le (by rw [List.length_drop, HOl.out]; omega)] at this)
      go_wp2_with fail
      refine bodyPost_end (results_none rfl _ _ _) rfl ?_
      exact ⟨rfl, HBe.out, o, HBl.out, HOl.out, HOk.out, HTk.out, cc, HE.out⟩
end Go.Proofs.YtjnkbifafbjckaaGreatDoor

/- Shl. -/
namespace Go.Proofs.YtjnkbifafbjckaaGreatDoor
set_option linter.all false
open Go.RowKit

theorem na_over1_any {w : World} {a : Option Addr} {c : Nat} {l : List Nat} (h : Sl w a c l) (hn : l.length ≤ 1000000) (r : Bool) (hr : Na.big l = r) :
    Calls Tryz.prog 137 #[.slice (some ⟨w.heap.size, 0, none⟩) 1 1] (w.alloc (Obj.cells #[Value.slice a l.length c] 85)) (Ret0 (.bool r) (w.alloc (Obj.cells #[Value.slice a l.length c] 85))) := by
  have hB : Below w.heap.size w (w.alloc (Obj.cells #[Value.slice a l.length c] 85)) := (Below.refl _ _).alloc (Nat.le_refl _) _
  have hA : Args (w.alloc (Obj.cells #[Value.slice a l.length c] 85)) w.heap.size [⟨a, c, l⟩] := by
    intro k hk
    match k, hk with
    | 0, _ =>
      refine ⟨?_, h.on hB, hn⟩
      show (match (w.heap.push _)[w.heap.size]? with | some (.cells c _ _) => if (none : Option Nat).isSome then none else c[0]? | _ => none) = _
      simp
  have := na_over_any [⟨a, c, l⟩] w.heap.size _ hA (by simp)
  have e : ([⟨a, c, l⟩] : List Arg).any (fun x => Na.big x.l) = r := by rw [← hr]; simp
  rw [e] at this; exact this

theorem gives_nil {q : List Nat × Int} {w w' : World} (e : Int) (hq : q = ([], e)) (hb : Below w.heap.size w w') : GivesE q w (.returned (.tuple #[.slice none 0 0, .int .i64 e])) w' := by
  rw [hq]; exact ⟨none, 0, rfl, Sl.nil _ _ _, Own.nil _ _ _, hb⟩

section
variable (a : Option Addr) (c : Nat) (l : List Nat) (n : Int) (w : World) (h : Sl w a c l) (hn : l.length ≤ 1000000) (hi : -9223372036854775808 ≤ n ∧ n ≤ 9223372036854775807)
include h hn hi

set_option maxHeartbeats 1000000 in
theorem na_shl_arg (h0 : n < 0) : Calls Tryz.prog 82 #[.slice a l.length c, .int .i64 n] w (GivesE (Na.shl l n) w) := by
  have e := Lib.hid (gives_nil 1 (show Na.shl l n = ([], 1) from if_pos h0) (Below.refl w.heap.size w))
  go_enter Tryz.func82, Tryz.ntmps82
  go_wp2
  refine bodyPost_ret (v := .tuple #[.slice none 0 0, .int .i64 1]) (by simp [results, Tryz.results82, go_sem]) rfl e.out

set_option maxHeartbeats 1000000 in
theorem na_shl_big (h0 : 0 ≤ n) (hb : Na.big l = true) : Calls Tryz.prog 82 #[.slice a l.length c, .int .i64 n] w (GivesE (Na.shl l n) w) := by
  have hB : Below w.heap.size w (w.alloc (Obj.cells #[Value.slice a l.length c] 85)) := (Below.refl _ _).alloc (Nat.le_refl _) _
  have e := Lib.hid (gives_nil 2 (show Na.shl l n = ([], 2) by rw [Na.shl, if_neg (by omega), if_pos hb]) hB)
  have H1 := Lib.hid (na_over1_any h hn true hb)
  clear hb
  go_enter Tryz.func82, Tryz.ntmps82
  go_wp2_with (first | (go_at_call 137; (with_reducible refine (H1.out).mono ?_); rintro e w' ⟨rfl, rfl⟩))
  refine bodyPost_ret (v := .tuple #[.slice none 0 0, .int .i64 2]) (by simp [results, Tryz.results82, go_sem]) rfl e.out

set_option maxHeartbeats 1000000 in
theorem na_shl_zero (h0 : 0 ≤ n) (hb : Na.big l = false) (hz : Na.val l = 0) : Calls Tryz.prog 82 #[.slice a l.length c, .int .i64 n] w (GivesE (Na.shl l n) w) := by
  have hB : Below w.heap.size w (w.alloc (Obj.cells #[Value.slice a l.length c] 85)) := (Below.refl _ _).alloc (Nat.le_refl _) _
  have e := Lib.hid (gives_nil 0 (show Na.shl l n = ([], 0) by rw [Na.shl, if_neg (by omega), hb, if_neg (by simp), if_pos hz]) hB)
  have H1 := Lib.hid (na_over1_any h hn false hb)
  have hr : Na.rt l = 0 := by rw [Na.rt, (Na.cut_nil_iff l).2 hz]; rfl
  have H2 := na_right_any a c l _ (h.on hB) hn
  rw [hr] at H2
  have H2' := Lib.hid (show Calls Tryz.prog 139 #[.slice a l.length c] (w.alloc (Obj.cells #[Value.slice a l.length c] 85)) (Ret0 (.int .i64 0) (w.alloc (Obj.cells #[Value.slice a l.length c] 85))) from H2)
  clear hb H2 hr
  go_enter Tryz.func82, Tryz.ntmps82
  go_wp2_with (first | (go_at_call 137; (with_reducible refine (H1.out).mono ?_); rintro e w' ⟨rfl, rfl⟩) | (go_at_call 139; (with_reducible refine (H2'.out).mono ?_); rintro e w' ⟨rfl, rfl⟩))
  refine bodyPost_ret (v := .tuple #[.slice none 0 0, .int .i64 0]) (by simp [results, Tryz.results82, go_sem]) rfl e.out

set_option maxHeartbeats 1000000 in
theorem na_shl_over (h0 : 0 ≤ n) (hb : Na.big l = false) (hz : Na.val l ≠ 0) (ho : 8192 < n ∨ 8192 < (Na.bitLen (Na.val l) : Int) + n) : Calls Tryz.prog 82 #[.slice a l.length c, .int .i64 n] w (GivesE (Na.shl l n) w) := by
  have hB : Below w.heap.size w (w.alloc (Obj.cells #[Value.slice a l.length c] 85)) := (Below.refl _ _).alloc (Nat.le_refl _) _
  have e := Lib.hid (gives_nil 2 (show Na.shl l n = ([], 2) by rw [Na.shl, if_neg (by omega), hb, if_neg (by simp), if_neg hz, if_pos ho]) hB)
  have H1 := Lib.hid (na_over1_any h hn false hb)
  have hr : Na.rt l ≠ 0 := fun e => hz ((Na.cut_nil_iff l).1 (List.eq_nil_of_length_eq_zero e))
  have H2 := na_right_any a c l _ (h.on hB) hn
  obtain ⟨rm, hrm⟩ : ∃ x, x = Na.rt l := ⟨_, rfl⟩
  rw [← hrm] at H2 hr
  have hr0 : ((rm : Int) == 0) = false := by simpa using hr
  have H2' := Lib.hid H2
  have H3 := na_len_any a c l _ (h.on hB) hn
  have hbl : Na.bitLen (Na.val l) ≤ 40000000 := by
    rw [Na.bitLen, if_neg hz]
    have h1 := Na.val_lt l h.ok
    rw [show Na.B ^ l.length = 2 ^ (32 * l.length) by rw [Nat.pow_mul]] at h1
    have := (Nat.log2_lt hz).2 h1
    omega
  obtain ⟨bl, hbe⟩ : ∃ x, x = Na.bitLen (Na.val l) := ⟨_, rfl⟩
  rw [← hbe] at H3 hbl ho
  have H3' := Lib.hid H3
  clear hb H2 hr H3 hbe hrm
  by_cases h1 : 8192 < n
  · clear ho
    go_enter Tryz.func82, Tryz.ntmps82
    go_wp2_with (first | (go_at_call 137; (with_reducible refine (H1.out).mono ?_); rintro e w' ⟨rfl, rfl⟩) | (go_at_call 139; (with_reducible refine (H2'.out).mono ?_); rintro e w' ⟨rfl, rfl⟩))
    refine bodyPost_ret (v := .tuple #[.slice none 0 0, .int .i64 2]) (by simp [results, Tryz.results82, go_sem]) rfl e.out
  · have h2 : 8192 < (bl : Int) + n := by omega
    clear ho
    go_enter Tryz.func82, Tryz.ntmps82
    go_wp2_with (first | (go_at_call 137; (with_reducible refine (H1.out).mono ?_); rintro e w' ⟨rfl, rfl⟩) | (go_at_call 139; (with_reducible refine (H2'.out).mono ?_); rintro e w' ⟨rfl, rfl⟩) | (go_at_call 140; (with_reducible refine (H3'.out).mono ?_); rintro e w' ⟨rfl, rfl⟩))
    refine bodyPost_ret (v := .tuple #[.slice none 0 0, .int .i64 2]) (by simp [results, Tryz.results82, go_sem]) rfl e.out
end
end Go.Proofs.YtjnkbifafbjckaaGreatDoor

/- make of a list of limbs, as one law without the type's row in the context. -/
namespace Go.Proofs.YtjnkbifafbjckaaGreatDoor
set_option linter.all false
open Go.RowKit

theorem mk_u32 {w : World} {ops : Array Oper} {rest : List Oper} {o : Oper} {a : Act} {Q : Exit → Act → World → Prop} (hg : o.guard = none) (l c : Operand) (hop : o.op = Op.makeSlice 85 l c)
    (L C : Int) (n : Nat) (hl : a.eval l = .int .i64 L) (hc : a.eval c = .int .i64 C) (hL : L = (n : Int)) (hC : C = (n : Int)) (hn : n ≤ 1000000)
    (hK : ∀ w', Hid (Blk w' w.heap.size (List.replicate n 0)) → Hid (∀ B w0, Below B w0 w → B ≤ w.heap.size → Below B w0 w') → wpList Tryz.prog ops Q rest (a.put o.dst (.slice (some ⟨w.heap.size, 0, none⟩) n n)) w') :
    wpList Tryz.prog ops Q (o :: rest) a w := by
  obtain ⟨ti, hi, hz0, hz1, hz2⟩ := info_parts infoU32
  refine wpList_make_full w hg l c 85 hop w.heap.size 72 ti (.int .u32 0) 1 Tryz.underlying85 hi hz0 hz1 .i64 .i64 L C n hl hc hL hC (by rw [hz2]; omega) (by unfold maxLen; omega) (Nat.le_refl _) fun w' h1 h2 => hK w' (Lib.hid ?_) (Lib.hid fun B w0 hb hB => hb.grown h2 hB (fun k e => by cases e))
  exact Blk.made (by simpa [Value.cells] using h1)
end Go.Proofs.YtjnkbifafbjckaaGreatDoor

/- Shl, the main way. -/
namespace Go.Proofs.YtjnkbifafbjckaaGreatDoor
set_option linter.all false
open Go.RowKit

def ShiftR (g off N s : Nat) (O q : List Nat) (w : World) (e : Ending) (w' : World) : Prop := e = .returned (.tuple #[]) ∧ Below g w w' ∧ ∃ o', Blk w' g o' ∧ o'.length = off + N ∧ Na.OK o' ∧ o'.take off = O.take off ∧ ∃ cc, Na.val (o'.drop off) + Na.B ^ N * cc = Na.val (q.take N) * 2 ^ s

set_option maxHeartbeats 2000000 in
theorem na_shl_main (a : Option Addr) (c : Nat) (l : List Nat) (n : Nat) (w : World) (h : Sl w a c l) (hn : l.length ≤ 1000000) (hb : Na.big l = false) (hz : Na.val l ≠ 0) (ho : n ≤ 8192 ∧ Na.bitLen (Na.val l) + n ≤ 8192) :
    Calls Tryz.prog 82 #[.slice a l.length c, .int .i64 n] w (GivesE (Na.shl l n) w) := by
  have hB : Below w.heap.size w (w.alloc (Obj.cells #[Value.slice a l.length c] 85)) := (Below.refl _ _).alloc (Nat.le_refl _) _
  have e2 := Lib.hid (show Na.shl l n = (Na.limbs (Na.val l * 2 ^ n), 0) by rw [Na.shl, if_neg (by omega), hb, if_neg (by simp), if_neg hz, if_neg (by omega), Int.toNat_natCast])
  have H1 := Lib.hid (na_over1_any h hn false hb)
  have hr : Na.rt l ≠ 0 := fun e => hz ((Na.cut_nil_iff l).1 (List.eq_nil_of_length_eq_zero e))
  have H2 := na_right_any a c l _ (h.on hB) hn
  obtain ⟨rm, hrm⟩ : ∃ x, x = Na.rt l := ⟨_, rfl⟩
  rw [← hrm] at H2 hr
  have hr0 : ((rm : Int) == 0) = false := by simpa using hr
  have H2' := Lib.hid H2
  have H3 := na_len_any a c l _ (h.on hB) hn
  obtain ⟨bl, hbe⟩ : ∃ x, x = Na.bitLen (Na.val l) := ⟨_, rfl⟩
  rw [← hbe] at H3 ho
  have H3' := Lib.hid H3
  have H4 := na_cut_any a c l _ (h.on hB) hn
  have hl1 : (Na.cut l).length ≤ 256 := Nat.le_of_not_lt (of_decide_eq_false hb)
  have S1 := h.cut
  have V1 := Lib.hid (Na.val_cut (a := l))
  obtain ⟨q, hq⟩ : ∃ q, q = Na.cut l := ⟨_, rfl⟩
  rw [← hq] at H4 hl1 S1 V1
  obtain ⟨ln, hqn⟩ : ∃ n, q.length = n := ⟨_, rfl⟩
  rw [hqn] at H4 hl1
  have HQ := Lib.hid hqn
  have H4' := Lib.hid H4
  obtain ⟨p, hp⟩ : ∃ p, p = n / 32 := ⟨_, rfl⟩
  obtain ⟨s, hs⟩ : ∃ s, s = n % 32 := ⟨_, rfl⟩
  have hpi : (n : Int) / 32 = (p : Int) := by omega
  have hsi : (n : Int) % 32 = (s : Int) := by omega
  have hs2 : s < 32 := by omega
  have hp2 : p ≤ 256 := by omega
  have HN := Lib.hid (show n = 32 * p + s by omega)
  obtain ⟨ho1, ho2⟩ := ho
  have ho3 : ¬ 8192 < (bl : Int) + n := by omega
  have ho4 : ¬ 8192 < (n : Int) := by omega
  have ho5 : bl ≤ 8192 := by omega
  clear hb hz H2 hr H3 H4 hbe hrm hq hqn hp hs ho2
  go_enter Tryz.func82, Tryz.ntmps82
  go_wp2_with (first | (go_at_call 137; (with_reducible refine (H1.out).mono ?_); rintro e w' ⟨rfl, rfl⟩) | (go_at_call 139; (with_reducible refine (H2'.out).mono ?_); rintro e w' ⟨rfl, rfl⟩) | (go_at_call 140; (with_reducible refine (H3'.out).mono ?_); rintro e w' ⟨rfl, rfl⟩) | (go_at_call 138; (with_reducible refine (H4'.out).mono ?_); rintro e w' ⟨rfl, rfl⟩) | (at_make; refine mk_u32 rfl _ _ rfl _ _ (p + ln + 1) rfl rfl rfl rfl (by omega) ?_))
  intro w1 hK hgrow
  have HB1 := Lib.hid (hgrow.out _ _ hB (by simp [World.size_alloc]))
  have hK' := Lib.hid (show Blk w1 (w.heap.size + 1) (List.replicate (p + ln + 1) 0) by have := hK.out; simpa [World.size_alloc] using this)
  clear hgrow hB hK
  have hsh : Calls Tryz.prog 141 #[.slice (some ⟨w.heap.size + 1, p, none⟩) (p + ln + 1 - p) (p + ln + 1 - p), .slice a ln c, .int .i64 s] w1 (ShiftR (w.heap.size + 1) p (ln + 1) s (List.replicate (p + ln + 1) 0) q w1) := by
    rw [show p + ln + 1 - p = ln + 1 by omega]
    have := na_shift_any (w.heap.size + 1) p (ln + 1) (ln + 1) s c (List.replicate (p + ln + 1) 0) q a w1 hK'.out (by intro x hx; rw [List.eq_of_mem_replicate hx]; decide) (by simp; omega) (fun wr hb => S1.on (HB1.out.trans (hb.mono (by omega)))) hs2 (by have := HQ.out; omega) (by omega)
    rw [HQ.out] at this; exact this
  have HSH := Lib.hid hsh
  have HCUT := Lib.hid (fun w2 (e : Ending) (hr : ShiftR (w.heap.size + 1) p (ln + 1) s (List.replicate (p + ln + 1) 0) q w1 e w2) => (by
    obtain ⟨_, hb2, o', hk2, hl2, hok2, htk, cc, hval⟩ := hr
    have hb3 : Below w.heap.size w w2 := HB1.out.trans (hb2.mono (by omega))
    have hv : Na.val o' = Na.val l * 2 ^ n := by
      have hq1 : Na.val (q.take (ln + 1)) = Na.val l := by rw [List.take_of_length_le (by rw [HQ.out]; omega), V1.out]
      have hlt : Na.val l * 2 ^ s < Na.B ^ (ln + 1) := by
        have h1 := Na.val_lt q S1.ok
        rw [V1.out, HQ.out] at h1
        have h2 : 2 ^ s ≤ Na.B := Nat.le_trans (Nat.pow_le_pow_right (by decide) (show s ≤ 32 by omega)) (by decide)
        rw [Nat.pow_succ]
        exact Nat.lt_of_lt_of_le (Nat.mul_lt_mul_of_pos_right h1 (Nat.pow_pos (by decide))) (Nat.mul_le_mul_left _ h2)
      rw [hq1] at hval
      refine Na.shl_val o' [Na.val l] p s (ln + 1) cc _ ?_ (by omega) (by rw [hval]; simp [Na.val]) (by simpa [Na.val] using hlt) (by rw [HN.out]; simp [Na.val])
      rw [htk, List.take_replicate, Na.val_zeros]
    have hcut : Na.cut o' = Na.limbs (Na.val l * 2 ^ n) := by rw [Na.cut, hv]
    have hs3 := hk2.sl hok2 (c := p + ln + 1) (by omega)
    have hc := na_cut_any (some ⟨w.heap.size + 1, 0, none⟩) (p + ln + 1) o' w2 hs3 (by omega)
    have hs4 := hs3.cut
    rw [hl2, hcut] at hc
    rw [hcut] at hs4
    exact ⟨hc, hs4, hk2.own (by omega), hb3⟩ : Calls Tryz.prog 138 #[.slice (some ⟨w.heap.size + 1, 0, none⟩) (p + ln + 1) (p + ln + 1)] w2 (Ret0 (.slice (some ⟨w.heap.size + 1, 0, none⟩) (Na.limbs (Na.val l * 2 ^ n)).length (p + ln + 1)) w2) ∧
      Sl w2 (some ⟨w.heap.size + 1, 0, none⟩) (p + ln + 1) (Na.limbs (Na.val l * 2 ^ n)) ∧ Own w2 w.heap.size (some ⟨w.heap.size + 1, 0, none⟩) (Na.limbs (Na.val l * 2 ^ n)).length ∧ Below w.heap.size w w2))
  clear hsh
  go_wp2_with (first | (go_at_call 141; (with_reducible refine (HSH.out).mono ?_); intro e w2 hr; have HX := Lib.hid (HCUT.out w2 e hr); obtain ⟨rfl, -⟩ := hr) | (go_at_call 138; (with_reducible refine (HX.out.1).mono ?_); rintro e w' ⟨rfl, rfl⟩))
  refine bodyPost_ret (v := .tuple #[.slice (some ⟨w.heap.size + 1, 0, none⟩) (Na.limbs (Na.val l * 2 ^ n)).length (p + ln + 1), .int .i64 0]) (by simp [results, Tryz.results82, go_sem]) rfl (by rw [e2.out]; exact ⟨_, _, rfl, HX.out.2.1, HX.out.2.2.1, HX.out.2.2.2⟩)

theorem na_shl_any (a : Option Addr) (c : Nat) (l : List Nat) (n : Int) (w : World) (h : Sl w a c l) (hn : l.length ≤ 1000000) (hi : -9223372036854775808 ≤ n ∧ n ≤ 9223372036854775807) :
    Calls Tryz.prog 82 #[.slice a l.length c, .int .i64 n] w (GivesE (Na.shl l n) w) := by
  by_cases h0 : n < 0
  · exact na_shl_arg a c l n w h hn hi h0
  · cases hb : Na.big l with
    | true => exact na_shl_big a c l n w h hn hi (by omega) hb
    | false =>
      by_cases hz : Na.val l = 0
      · exact na_shl_zero a c l n w h hn hi (by omega) hb hz
      · by_cases ho : 8192 < n ∨ 8192 < (Na.bitLen (Na.val l) : Int) + n
        · exact na_shl_over a c l n w h hn hi (by omega) hb hz ho
        · obtain ⟨n', rfl⟩ : ∃ x : Nat, n = x := ⟨n.toNat, by omega⟩
          exact na_shl_main a c l n' w h hn hb hz (by omega)
end Go.Proofs.YtjnkbifafbjckaaGreatDoor

/- Plain Lean: a number's digits, nine at a time. -/
namespace Go.Proofs.YtjnkbifafbjckaaGreatDoor.Na
set_option linter.all false
open Go

def padk : Nat → Nat → List UInt8
  | 0, _ => []
  | k + 1, r => padk k (r / 10) ++ [UInt8.ofNat (48 + r % 10)]
theorem padk_len (k r : Nat) : (padk k r).length = k := by
  induction k generalizing r with
  | zero => rfl
  | succ k ih => rw [padk, List.length_append, ih]; rfl
theorem dec_app (v : Nat) (hv : v ≠ 0) (k : Nat) : ∀ r, r < 10 ^ k → Lib.decDigits (v * 10 ^ k + r) = Lib.decDigits v ++ padk k r := by
  induction k with
  | zero =>
    intro r hr
    have h0 : r = 0 := by rw [Nat.pow_zero] at hr; omega
    rw [h0]; simp [padk]
  | succ k ih =>
    intro r hr
    rw [Nat.pow_succ] at hr
    have h1 : 10 * 10 ^ k ≤ v * 10 ^ (k + 1) := by
      rw [Nat.pow_succ, Nat.mul_comm (10 ^ k) 10]
      exact Nat.le_mul_of_pos_left _ (by omega)
    have h2 : 0 < 10 ^ k := Nat.pow_pos (by decide)
    rw [Lib.decDigits, dif_neg (by omega)]
    have e : v * 10 ^ (k + 1) + r = 10 * (v * 10 ^ k) + r := by rw [Nat.pow_succ, ← Nat.mul_assoc, Nat.mul_comm _ 10]
    have e1 : (v * 10 ^ (k + 1) + r) / 10 = v * 10 ^ k + r / 10 := by omega
    have e2 : (v * 10 ^ (k + 1) + r) % 10 = r % 10 := by omega
    rw [e1, e2, ih (r / 10) (by omega), padk, List.append_assoc]
theorem padk_eq (k : Nat) : ∀ r, r < 10 ^ (k + 1) → padk (k + 1) r = List.replicate (k + 1 - (Lib.decDigits r).length) 48 ++ Lib.decDigits r ∧ (Lib.decDigits r).length ≤ k + 1 := by
  induction k with
  | zero => intro r hr; rw [Lib.decDigits, dif_pos (by simpa using hr)]; simp [padk, Nat.mod_eq_of_lt (show r < 10 by simpa using hr)]
  | succ k ih =>
    intro r hr
    by_cases h : r < 10
    · rw [Lib.decDigits, dif_pos h]
      obtain ⟨e, _⟩ := ih (r / 10) (Nat.lt_of_lt_of_le (show r / 10 < 1 by omega) (Nat.one_le_pow _ _ (by decide)))
      rw [padk, e, show r / 10 = 0 by omega, Lib.decDigits, dif_pos (by decide), Nat.mod_eq_of_lt h]
      refine ⟨?_, by simp⟩
      rw [show k + 1 + 1 - [UInt8.ofNat (48 + r)].length = k + 1 - [UInt8.ofNat (48 + 0)].length + 1 by simp, List.replicate_succ']
      simp
    · rw [Nat.pow_succ] at hr
      obtain ⟨e, hl⟩ := ih (r / 10) (by omega)
      rw [Lib.decDigits, dif_neg h, padk, e, List.length_append, List.length_singleton]
      exact ⟨by rw [show k + 1 + 1 - ((Lib.decDigits (r / 10)).length + 1) = k + 1 - (Lib.decDigits (r / 10)).length by omega, List.append_assoc], by omega⟩
theorem dig_step (v : Nat) (hv : v / 1000000000 ≠ 0) : Lib.decDigits v = Lib.decDigits (v / 1000000000) ++ (List.replicate (9 - (Lib.decDigits (v % 1000000000)).length) 48 ++ Lib.decDigits (v % 1000000000)) := by
  have h1 : v % 1000000000 < 10 ^ 9 := Nat.mod_lt _ (by decide)
  rw [← (padk_eq 8 _ h1).1, ← dec_app _ hv 9 _ h1]
  congr 1
  have := Nat.div_add_mod v 1000000000
  omega
theorem dig_len (v : Nat) : (Lib.decDigits (v % 1000000000)).length ≤ 9 := (padk_eq 8 _ (Nat.mod_lt _ (by decide))).2
theorem rep48 (m : Nat) : Lib.repeatL [48] m = List.replicate m 48 := by
  induction m with
  | zero => rfl
  | succ m ih => rw [Lib.repeatL, ih, List.replicate_succ]; rfl
end Go.Proofs.YtjnkbifafbjckaaGreatDoor.Na

/- Digits. -/
namespace Go.Proofs.YtjnkbifafbjckaaGreatDoor
set_option linter.all false
open Go.RowKit

def Tab (w : World) : Prop := Lib.TabBelow Tryz.prog w.heap.size w "internal/strconv.uint64pow10" .u64 Lib.pow10Tab
theorem Tab.on {w w1 : World} (h : Tab w) (hb : Below w.heap.size w w1) : Lib.TabIs Tryz.prog w1 "internal/strconv.uint64pow10" .u64 Lib.pow10Tab := h w1 hb
theorem Tab.below {w w1 : World} (h : Tab w) (hb : Below w.heap.size w w1) : Tab w1 := fun w' hb' => h w' (hb.trans (hb'.mono hb.size))

theorem itoa_any (n : Int) (w : World) (h0 : -9223372036854775808 ≤ n) (h1 : n ≤ 9223372036854775807) (ht : Lib.TabIs Tryz.prog w "internal/strconv.uint64pow10" .u64 Lib.pow10Tab) :
    Calls Tryz.prog 172 #[.int .i64 n] w (RetB (.string ⟨(Lib.itoa n).toArray⟩) w) :=
  (Tryz.strconv_Itoa n h0 h1 w ht).mono fun e w' he => ⟨he.1, by obtain ⟨k, os, e⟩ := he.2; rw [e]; exact Lib.below_grow _ w (Nat.le_refl _) k os⟩

theorem Dc_app (a b : ByteArray) : (a ++ b).data.toList = a.data.toList ++ b.data.toList := by simp
def digLoop (N g : Nat) (w : World) (rv sv : Value) (wr : World) : Prop := ∃ (v cap : Nat) (S : ByteArray) (o : List Nat), rv = .slice (some ⟨g, 0, none⟩) (Na.limbs v).length cap ∧ (Na.limbs v).length ≤ cap ∧ sv = .string S ∧ Hid (Blk wr g o) ∧ Hid (Na.OK o) ∧ Hid ((Na.limbs v).length ≤ o.length) ∧ (Na.limbs v).length ≤ 1000000 ∧ Hid (o.length ≤ cap) ∧
  Hid (o.take (Na.limbs v).length = Na.limbs v) ∧ Hid (if v = 0 then S.data.toList = Lib.decDigits N else Lib.decDigits N = Lib.decDigits v ++ S.data.toList) ∧ Hid (Below w.heap.size w wr)
def strLen : Value → Nat
  | .string s => s.size
  | _ => 0
theorem dec_len_le (l : List Nat) (h : Na.OK l) : (Lib.decDigits (Na.val l)).length ≤ 10 * l.length + 1 := by
  have h1 := Na.val_lt l h
  have h2 : Na.B ^ l.length ≤ 10 ^ (10 * l.length) := by rw [Nat.pow_mul]; exact Nat.pow_le_pow_left (by decide) _
  exact (Na.padk_eq (10 * l.length) _ (Nat.lt_of_lt_of_le h1 (Nat.le_trans h2 (Nat.pow_le_pow_right (by decide) (by omega))))).2

set_option maxHeartbeats 1000000 in
theorem na_digits_zero (a : Option Addr) (c : Nat) (l : List Nat) (w : World) (h : Sl w a c l) (hn : l.length ≤ 1000000) (hz : Na.val l = 0) :
    Calls Tryz.prog 134 #[.slice a l.length c] w (RetB (.string ⟨(Lib.decDigits (Na.val l)).toArray⟩) w) := by
  have H1 := na_trim_any a c l w h hn
  have e1 : Na.cut l = [] := (Na.cut_nil_iff l).2 hz
  rw [e1] at H1
  have H1' := Lib.hid (show Calls Tryz.prog 135 #[.slice a l.length c] w (GivesB [] w) from H1)
  have e2 := Lib.hid (show (⟨(Lib.decDigits (Na.val l)).toArray⟩ : ByteArray) = ⟨#[48]⟩ by rw [hz, Lib.decDigits, dif_pos (by decide)]; rfl)
  clear H1 e1 hz
  go_enter Tryz.func134, Tryz.ntmps134
  go_wp2_with (first | (go_at_call 135; (with_reducible refine (H1'.out).mono ?_); rintro e w1 ⟨g, rfl, hg, hk, hb⟩))
  go_ret
  exact RetB.of (by rw [e2.out]; rfl) hb

set_option maxHeartbeats 2000000 in
theorem na_digits_pos (a : Option Addr) (c : Nat) (l : List Nat) (w : World) (h : Sl w a c l) (hn : l.length ≤ 1000000) (hz : Na.val l ≠ 0) (ht : Tab w) :
    Calls Tryz.prog 134 #[.slice a l.length c] w (RetB (.string ⟨(Lib.decDigits (Na.val l)).toArray⟩) w) := by
  have H1 := Lib.hid (na_trim_any a c l w h hn)
  have hlen : (Na.cut l).length ≤ 1000000 := Nat.le_trans (Na.rt_le h.ok).1 hn
  have hdl := dec_len_le l h.ok
  have hpos : 0 < (Na.cut l).length := by
    rcases Nat.eq_zero_or_pos (Na.cut l).length with e | e
    · exact absurd ((Na.cut_nil_iff l).1 (List.eq_nil_of_length_eq_zero e)) hz
    · exact e
  obtain ⟨N, hN⟩ : ∃ N, N = Na.val l := ⟨_, rfl⟩
  have hcut : Na.cut l = Na.limbs N := by rw [hN]; rfl
  rw [hcut] at H1 hlen hpos
  rw [← hN] at hdl hz ⊢
  obtain ⟨L, hL⟩ : ∃ L, L = (Lib.decDigits N).length := ⟨_, rfl⟩
  rw [← hL] at hdl
  have hL2 : L ≤ 20000000 := by omega
  have HL := Lib.hid hL
  have HZ := Lib.hid hz
  have HT := Lib.hid ht
  have hz0 : (((Na.limbs N).length : Int) == 0) = false := by simp only [beq_eq_false_iff_ne, ne_eq]; omega
  clear hN hcut hL hz ht hdl
  go_enter Tryz.func134, Tryz.ntmps134
  go_wp2_with (first | (go_at_call 135; (with_reducible refine (H1.out).mono ?_); rintro e w1 ⟨g, rfl, hg, hk, hb⟩))
  have HK := Lib.hid hk; have HB := Lib.hid hb
  clear hk hb H1
  go_loopw [3, 4] (digLoop N g w) (fun _ s _ => L + 1 - strLen s)
  case atStart => exact ⟨N, (Na.limbs N).length, ⟨#[]⟩, Na.limbs N, rfl, Nat.le_refl _, rfl, HK, Lib.hid (Na.ok_limbs N), Lib.hid (Nat.le_refl _), hlen, Lib.hid (Nat.le_refl _), Lib.hid (List.take_length), Lib.hid (by rw [if_neg HZ.out]; simp), HB⟩
  case round =>
    clear HK HB hlen hpos
    obtain ⟨v, cap, S, o, rfl, hcap, rfl, HBl, HOk, HOl, hlen, HOc, HTk, HInv, HBe⟩ := hrel
    by_cases hv : v = 0
    · subst hv
      have HE := Lib.hid (show (⟨(Lib.decDigits N).toArray⟩ : ByteArray) = S by have := HInv.out; rw [if_pos rfl] at this; rw [← this])
      have e0 := Lib.hid (show (Na.limbs 0).length = 0 by rw [Na.limbs_zero]; rfl)
      rw [e0.out]
      go_wp2_with fail
      go_ret
      exact RetB.of (by rw [HE.out]; rfl) HBe.out
    · have hpos : 0 < (Na.limbs v).length := by
        rcases Nat.eq_zero_or_pos (Na.limbs v).length with e | e
        · exact absurd (Na.limbs_nil.1 (List.eq_nil_of_length_eq_zero e)) hv
        · exact e
      have hinv := HInv.out
      rw [if_neg hv] at hinv
      have hS := congrArg List.length hinv
      rw [List.length_append, bs_length, ← HL.out] at hS
      obtain ⟨r, hr⟩ : ∃ r, r = v % 1000000000 := ⟨_, rfl⟩
      obtain ⟨u, hu⟩ : ∃ u, u = v / 1000000000 := ⟨_, rfl⟩
      have hrl : r < 1000000000 := by rw [hr]; exact Nat.mod_lt _ (by decide)
      have hsh := na_short_any g (Na.limbs v).length cap 1000000000 o wr HBl.out HOk.out HOl.out hlen (by decide) (by decide)
      rw [HTk.out, Na.val_limbs, ← hr, ← hu] at hsh
      have HSH := Lib.hid (show Calls Tryz.prog 176 #[.slice (some ⟨g, 0, none⟩) (Na.limbs v).length cap, .int .u32 1000000000] wr _ from hsh)
      obtain ⟨I, hI⟩ : ∃ I : ByteArray, I = ⟨(Lib.decDigits r).toArray⟩ := ⟨_, rfl⟩
      have hIl : I.data.toList = Lib.decDigits r := by rw [hI]
      have hIs : I.size = (Lib.decDigits r).length := by rw [hI, size_mk]
      have hI9 : I.size ≤ 9 := by rw [hIs, hr]; exact Na.dig_len v
      have hI1 : 0 < I.size := by rw [hIs, Lib.decDigits]; split <;> simp
      have HI := Lib.hid (fun w' (hb : Below w.heap.size w w') => (by
        have := itoa_any (r : Int) w' (by omega) (by omega) (HT.out.on hb)
        rw [show Lib.itoa (r : Int) = Lib.decDigits r by rw [Lib.itoa, if_neg (by omega), Int.toNat_natCast], ← hI] at this
        exact this : Calls Tryz.prog 172 #[.int .i64 r] w' (RetB (.string I) w')))
      have HCUT := Lib.hid (fun w' o' (hk : Blk w' g o') (hl : o'.length = o.length) (hok : Na.OK o') (hv : Na.val (o'.take (Na.limbs v).length) = u) => (by
        have hll : (o'.take (Na.limbs v).length).length = (Na.limbs v).length := by rw [List.length_take, hl]; have := HOl.out; omega
        have hcu : Na.cut (o'.take (Na.limbs v).length) = Na.limbs u := by rw [Na.cut, hv]
        have hs := (hk.sl hok (c := cap) (by rw [hl]; exact HOc.out)).take (Na.limbs v).length
        have hc := na_cut_any (some ⟨g, 0, none⟩) cap (o'.take (Na.limbs v).length) w' hs (by omega)
        have hrt := Na.rt_le (Na.ok_take hok (Na.limbs v).length)
        rw [hll, hcu] at hc
        have hle : (Na.limbs u).length ≤ (Na.limbs v).length := by have := hrt.1; rw [hll, Na.rt, hcu] at this; exact this
        refine ⟨hc, hle, ?_⟩
        have e := hrt.2
        rw [hcu, Na.rt, hcu, List.take_take, Nat.min_eq_left hle] at e
        exact e.symm : Calls Tryz.prog 138 #[.slice (some ⟨g, 0, none⟩) (Na.limbs v).length cap] w' (Ret0 (.slice (some ⟨g, 0, none⟩) (Na.limbs u).length cap) w') ∧ (Na.limbs u).length ≤ (Na.limbs v).length ∧ o'.take (Na.limbs u).length = Na.limbs u))
      have hSs : S.size ≤ L := by omega
      by_cases hu0 : u = 0
      · have HU := Lib.hid (show Lib.decDigits N = Lib.decDigits r ++ S.data.toList by
          have hvr : v = r := by rw [hu] at hu0; rw [hr]; omega
          rw [← hvr]; exact hinv)
        have hSl : L = I.size + S.size := by rw [HL.out, HU.out, List.length_append, bs_length, hIs]
        have e0 := Lib.hid (show (Na.limbs u).length = 0 by rw [hu0, Na.limbs_zero]; rfl)
        have HU0 := Lib.hid hu0
        have HIL := Lib.hid hIl
        have s1 : ¬ 9223372036854775807 < I.size + S.size := by omega
        clear hsh hinv hS hr hu hI hIl hIs hu0 HInv
        go_wp2_with (first | (go_at_call 176; (with_reducible refine (HSH.out).mono ?_); rintro e w2 ⟨rfl, hb2, o', hk2, hl2, hok2, hv2⟩; have hB2 : Below w.heap.size w w2 := HBe.out.trans (hb2.mono hg)) | (go_at_call 172; (with_reducible refine (HI.out w2 hB2).mono ?_); rintro e w3 ⟨rfl, hb3⟩; have HX := Lib.hid (HCUT.out w3 o' (hk2.on hb3) hl2 hok2 hv2); have hx1 := HX.out.1; rw [e0.out] at hx1; have HX1 := Lib.hid hx1; clear hx1 hv2) | (go_at_call 138; (with_reducible refine (HX1.out).mono ?_); rintro e w' ⟨rfl, rfl⟩))
        go_roundw
        case rel => exact ⟨u, cap, I ++ S, o', by rw [e0.out], by rw [e0.out]; omega, rfl, Lib.hid (hk2.on hb3), Lib.hid hok2, Lib.hid (by rw [e0.out]; omega), by rw [e0.out]; omega, Lib.hid (by rw [hl2]; exact HOc.out), Lib.hid HX.out.2.2, Lib.hid (by rw [if_pos HU0.out, Dc_app, HIL.out, HU.out]), Lib.hid (hB2.trans (hb3.mono hB2.size))⟩
        case measure => simp [strLen, ByteArray.size_append]; omega
      · obtain ⟨Z, hZ⟩ : ∃ Z : ByteArray, Z = ⟨(List.replicate (9 - I.size) (48 : UInt8)).toArray⟩ := ⟨_, rfl⟩
        have hZs : Z.size = 9 - I.size := by rw [hZ, size_mk, List.length_replicate]
        have hup : 0 < (Na.limbs u).length := by
          rcases Nat.eq_zero_or_pos (Na.limbs u).length with e | e
          · exact absurd (Na.limbs_nil.1 (List.eq_nil_of_length_eq_zero e)) hu0
          · exact e
        have HU := Lib.hid (show Lib.decDigits N = Lib.decDigits u ++ (Z ++ I ++ S).data.toList by
          have := Na.dig_step v (by rw [← hu]; exact hu0)
          rw [← hr, ← hu, ← hIs] at this
          rw [hinv, this, Dc_app, Dc_app, hIl, hZ, List.append_assoc])
        have hSl : L = (Lib.decDigits u).length + (Z.size + I.size + S.size) := by rw [HL.out, HU.out, List.length_append, bs_length, ByteArray.size_append, ByteArray.size_append]
        have HRP := Lib.hid (fun w' => (by
          have := Tryz.strings_Repeat ⟨#[48]⟩ (9 - I.size) w' (by omega) (by show 1 * _ ≤ _; omega)
          rw [show ((9 - I.size : Nat) : Int) = 9 - (I.size : Int) by omega, show (⟨(Lib.repeatL (⟨#[48]⟩ : ByteArray).data.toList (9 - I.size)).toArray⟩ : ByteArray) = Z by rw [hZ, ← Na.rep48]] at this
          exact this : Calls Tryz.prog 171 #[.string ⟨#[48]⟩, .int .i64 (9 - (I.size : Int))] w' (RetB (.string Z) w')))
        have HU0 := Lib.hid hu0
        have s1 : ¬ 9223372036854775807 < Z.size + I.size := by omega
        have s2 : ¬ 9223372036854775807 < Z.size + I.size + S.size := by omega
        clear hsh hinv hS hr hu hI hIl hIs hu0 HInv hZ hZs
        go_wp2_with (first | (go_at_call 176; (with_reducible refine (HSH.out).mono ?_); rintro e w2 ⟨rfl, hb2, o', hk2, hl2, hok2, hv2⟩; have hB2 : Below w.heap.size w w2 := HBe.out.trans (hb2.mono hg)) | (go_at_call 172; (with_reducible refine (HI.out w2 hB2).mono ?_); rintro e w3 ⟨rfl, hb3⟩; have HX := Lib.hid (HCUT.out w3 o' (hk2.on hb3) hl2 hok2 hv2); have HL2 := Lib.hid hl2; clear hl2 hv2) | (go_at_call 138; (with_reducible refine (HX.out.1).mono ?_); rintro e w' ⟨rfl, rfl⟩) | (go_at_call 171; (with_reducible refine (HRP.out w3).mono ?_); rintro e w4 ⟨rfl, hb4⟩))
        go_roundw
        case rel => exact ⟨u, cap, Z ++ I ++ S, o', rfl, by have := HX.out.2.1; omega, rfl, Lib.hid ((hk2.on hb3).on hb4), Lib.hid hok2, Lib.hid (by have h1 := HX.out.2.1; have h2 := HOl.out; rw [HL2.out]; omega), by have := HX.out.2.1; omega, Lib.hid (by rw [HL2.out]; exact HOc.out), Lib.hid HX.out.2.2, Lib.hid (by rw [if_neg HU0.out]; exact HU.out), Lib.hid ((hB2.trans (hb3.mono hB2.size)).trans (hb4.mono (Nat.le_trans hB2.size hb3.size)))⟩
        case measure => simp [strLen, ByteArray.size_append]; omega

theorem na_digits_any (a : Option Addr) (c : Nat) (l : List Nat) (w : World) (h : Sl w a c l) (hn : l.length ≤ 1000000) (ht : Tab w) :
    Calls Tryz.prog 134 #[.slice a l.length c] w (RetB (.string ⟨(Lib.decDigits (Na.val l)).toArray⟩) w) := by
  by_cases hz : Na.val l = 0
  · exact na_digits_zero a c l w h hn hz
  · exact na_digits_pos a c l w h hn hz ht
end Go.Proofs.YtjnkbifafbjckaaGreatDoor
