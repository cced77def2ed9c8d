/- Shl. -/
import Derived.Test.YtjnkbifafbjckaaGreatDoorZ4
import Derived.Lib.ItoaNum
import Derived.Lib.RepeatB
import Derived.Lib.AppendIntMem
import Derived.Test.YtjnkbifafbjckaaGreatDoorRows
import Derived.ProofKit
import Derived.Lib.LaidTab
import Derived.Test.YtjnkbifafbjckaaGreatDoorZ1
import Derived.Lib.AtoiAll
import Derived.Lib.SlTrimSet
import Derived.WalkKit
import Derived.Lib.Strings
import Derived.Lib.TrimByte
namespace Go.Proofs.YtjnkbifafbjckaaGreatDoor
set_option linter.all false
open Go.RowKit

theorem na_over1_any {w : World} {a : Option Addr} {c : Nat} {l : List Nat} (h : Sl w a c l) (hn : l.length ≤ 1000000) (r : Bool) (hr : Na.big l = r) :
    Calls Tryz.prog 137 #[.slice (some ⟨w.heap.size, 0, none⟩) 1 1] (w.alloc (Obj.cells #[Value.slice a l.length c] 85)) (Ret0 (.bool r) (w.alloc (Obj.cells #[Value.slice a l.length c] 85))) := by
  have hB : Below w.heap.size w (w.alloc (Obj.cells #[Value.slice a l.length c] 85)) := (Below.refl _ _).alloc (Nat.le_refl _) _
  have hA : Args (w.alloc (Obj.cells #[Value.slice a l.length c] 85)) w.heap.size [⟨a, c, l⟩] := by
    intro k hk
    match k, hk with
    | 0, _ =>
      refine ⟨?_, h.on hB, hn⟩
      show (match (w.heap.push _)[w.heap.size]? with | some (.cells c _ _) => if (none : Option Nat).isSome then none else c[0]? | _ => none) = _
      simp
  have := na_over_any [⟨a, c, l⟩] w.heap.size _ hA (by simp)
  have e : ([⟨a, c, l⟩] : List Arg).any (fun x => Na.big x.l) = r := by rw [← hr]; simp
  rw [e] at this; exact this

theorem gives_nil {q : List Nat × Int} {w w' : World} (e : Int) (hq : q = ([], e)) (hb : Below w.heap.size w w') : GivesE q w (.returned (.tuple #[.slice none 0 0, .int .i64 e])) w' := by
  rw [hq]; exact ⟨none, 0, rfl, Sl.nil _ _ _, Own.nil _ _ _, hb⟩

section
variable (a : Option Addr) (c : Nat) (l : List Nat) (n : Int) (w : World) (h : Sl w a c l) (hn : l.length ≤ 1000000) (hi : -9223372036854775808 ≤ n ∧ n ≤ 9223372036854775807)
include h hn hi

set_option maxHeartbeats 1000000 in
theorem na_shl_arg (h0 : n < 0) : Calls Tryz.prog 82 #[.slice a l.length c, .int .i64 n] w (GivesE (Na.shl l n) w) := by
  have e := Lib.hid (gives_nil 1 (show Na.shl l n = ([], 1) from if_pos h0) (Below.refl w.heap.size w))
  go_enter Tryz.func82, Tryz.ntmps82
  go_wp2
  refine bodyPost_ret (v := .tuple #[.slice none 0 0, .int .i64 1]) (by simp [results, Tryz.results82, go_sem]) rfl e.out

set_option maxHeartbeats 1000000 in
theorem na_shl_big (h0 : 0 ≤ n) (hb : Na.big l = true) : Calls Tryz.prog 82 #[.slice a l.length c, .int .i64 n] w (GivesE (Na.shl l n) w) := by
  have hB : Below w.heap.size w (w.alloc (Obj.cells #[Value.slice a l.length c] 85)) := (Below.refl _ _).alloc (Nat.le_refl _) _
  have e := Lib.hid (gives_nil 2 (show Na.shl l n = ([], 2) by rw [Na.shl, if_neg (by omega), if_pos hb]) hB)
  have H1 := Lib.hid (na_over1_any h hn true hb)
  clear hb
  go_enter Tryz.func82, Tryz.ntmps82
  go_wp2_with (first | (go_at_call 137; (with_reducible refine (H1.out).mono ?_); rintro e w' ⟨rfl, rfl⟩))
  refine bodyPost_ret (v := .tuple #[.slice none 0 0, .int .i64 2]) (by simp [results, Tryz.results82, go_sem]) rfl e.out

set_option maxHeartbeats 1000000 in
theorem na_shl_zero (h0 : 0 ≤ n) (hb : Na.big l = false) (hz : Na.val l = 0) : Calls Tryz.prog 82 #[.slice a l.length c, .int .i64 n] w (GivesE (Na.shl l n) w) := by
  have hB : Below w.heap.size w (w.alloc (Obj.cells #[Value.slice a l.length c] 85)) := (Below.refl _ _).alloc (Nat.le_refl _) _
  have e := Lib.hid (gives_nil 0 (show Na.shl l n = ([], 0) by rw [Na.shl, if_neg (by omega), hb, if_neg (by simp), if_pos hz]) hB)
  have H1 := Lib.hid (na_over1_any h hn false hb)
  have hr : Na.rt l = 0 := by rw [Na.rt, (Na.cut_nil_iff l).2 hz]; rfl
  have H2 := na_right_any a c l _ (h.on hB) hn
  rw [hr] at H2
  have H2' := Lib.hid (show Calls Tryz.prog 139 #[.slice a l.length c] (w.alloc (Obj.cells #[Value.slice a l.length c] 85)) (Ret0 (.int .i64 0) (w.alloc (Obj.cells #[Value.slice a l.length c] 85))) from H2)
  clear hb H2 hr
  go_enter Tryz.func82, Tryz.ntmps82
  go_wp2_with (first | (go_at_call 137; (with_reducible refine (H1.out).mono ?_); rintro e w' ⟨rfl, rfl⟩) | (go_at_call 139; (with_reducible refine (H2'.out).mono ?_); rintro e w' ⟨rfl, rfl⟩))
  refine bodyPost_ret (v := .tuple #[.slice none 0 0, .int .i64 0]) (by simp [results, Tryz.results82, go_sem]) rfl e.out

set_option maxHeartbeats 1000000 in
theorem na_shl_over (h0 : 0 ≤ n) (hb : Na.big l = false) (hz : Na.val l ≠ 0) (ho : 8192 < n ∨ 8192 < (Na.bitLen (Na.val l) : Int) + n) : Calls Tryz.prog 82 #[.slice a l.length c, .int .i64 n] w (GivesE (Na.shl l n) w) := by
  have hB : Below w.heap.size w (w.alloc (Obj.cells #[Value.slice a l.length c] 85)) := (Below.refl _ _).alloc (Nat.le_refl _) _
  have e := Lib.hid (gives_nil 2 (show Na.shl l n = ([], 2) by rw [Na.shl, if_neg (by omega), hb, if_neg (by simp), if_neg hz, if_pos ho]) hB)
  have H1 := Lib.hid (na_over1_any h hn false hb)
  have hr : Na.rt l ≠ 0 := fun e => hz ((Na.cut_nil_iff l).1 (List.eq_nil_of_length_eq_zero e))
  have H2 := na_right_any a c l _ (h.on hB) hn
  obtain ⟨rm, hrm⟩ : ∃ x, x = Na.rt l := ⟨_, rfl⟩
  rw [← hrm] at H2 hr
  have hr0 : ((rm : Int) == 0) = false := by simpa using hr
  have H2' := Lib.hid H2
  have H3 := na_len_any a c l _ (h.on hB) hn
  have hbl : Na.bitLen (Na.val l) ≤ 40000000 := by
    rw [Na.bitLen, if_neg hz]
    have h1 := Na.val_lt l h.ok
    rw [show Na.B ^ l.length = 2 ^ (32 * l.length) by rw [Nat.pow_mul]] at h1
    have := (Nat.log2_lt hz).2 h1
    omega
  obtain ⟨bl, hbe⟩ : ∃ x, x = Na.bitLen (Na.val l) := ⟨_, rfl⟩
  rw [← hbe] at H3 hbl ho
  have H3' := Lib.hid H3
  clear hb H2 hr H3 hbe hrm
  by_cases h1 : 8192 < n
  · clear ho
    go_enter Tryz.func82, Tryz.ntmps82
    go_wp2_with (first | (go_at_call 137; (with_reducible refine (H1.out).mono ?_); rintro e w' ⟨rfl, rfl⟩) | (go_at_call 139; (with_reducible refine (H2'.out).mono ?_); rintro e w' ⟨rfl, rfl⟩))
    refine bodyPost_ret (v := .tuple #[.slice none 0 0, .int .i64 2]) (by simp [results, Tryz.results82, go_sem]) rfl e.out
  · have h2 : 8192 < (bl : Int) + n := by omega
    clear ho
    go_enter Tryz.func82, Tryz.ntmps82
    go_wp2_with (first | (go_at_call 137; (with_reducible refine (H1.out).mono ?_); rintro e w' ⟨rfl, rfl⟩) | (go_at_call 139; (with_reducible refine (H2'.out).mono ?_); rintro e w' ⟨rfl, rfl⟩) | (go_at_call 140; (with_reducible refine (H3'.out).mono ?_); rintro e w' ⟨rfl, rfl⟩))
    refine bodyPost_ret (v := .tuple #[.slice none 0 0, .int .i64 2]) (by simp [results, Tryz.results82, go_sem]) rfl e.out
end
end Go.Proofs.YtjnkbifafbjckaaGreatDoor

/- make of a list of limbs, as one law without the type's row in the context. -/
namespace Go.Proofs.YtjnkbifafbjckaaGreatDoor
set_option linter.all false
open Go.RowKit

theorem mk_u32 {w : World} {ops : Array Oper} {rest : List Oper} {o : Oper} {a : Act} {Q : Exit → Act → World → Prop} (hg : o.guard = none) (l c : Operand) (hop : o.op = Op.makeSlice 85 l c)
    (L C : Int) (n : Nat) (hl : a.eval l = .int .i64 L) (hc : a.eval c = .int .i64 C) (hL : L = (n : Int)) (hC : C = (n : Int)) (hn : n ≤ 1000000)
    (hK : ∀ w', Hid (Blk w' w.heap.size (List.replicate n 0)) → Hid (∀ B w0, Below B w0 w → B ≤ w.heap.size → Below B w0 w') → wpList Tryz.prog ops Q rest (a.put o.dst (.slice (some ⟨w.heap.size, 0, none⟩) n n)) w') :
    wpList Tryz.prog ops Q (o :: rest) a w := by
  obtain ⟨ti, hi, hz0, hz1, hz2⟩ := info_parts infoU32
  refine wpList_make_full w hg l c 85 hop w.heap.size 72 ti (.int .u32 0) 1 Tryz.underlying85 hi hz0 hz1 .i64 .i64 L C n hl hc hL hC (by rw [hz2]; omega) (by unfold maxLen; omega) (Nat.le_refl _) fun w' h1 h2 => hK w' (Lib.hid ?_) (Lib.hid fun B w0 hb hB => hb.grown h2 hB (fun k e => by cases e))
  exact Blk.made (by simpa [Value.cells] using h1)
end Go.Proofs.YtjnkbifafbjckaaGreatDoor

/- Shl, the main way. -/
namespace Go.Proofs.YtjnkbifafbjckaaGreatDoor
set_option linter.all false
open Go.RowKit

def ShiftR (g off N s : Nat) (O q : List Nat) (w : World) (e : Ending) (w' : World) : Prop := e = .returned (.tuple #[]) ∧ Below g w w' ∧ ∃ o', Blk w' g o' ∧ o'.length = off + N ∧ Na.OK o' ∧ o'.take off = O.take off ∧ ∃ cc, Na.val (o'.drop off) + Na.B ^ N * cc = Na.val (q.take N) * 2 ^ s

set_option maxHeartbeats 2000000 in
theorem na_shl_main (a : Option Addr) (c : Nat) (l : List Nat) (n : Nat) (w : World) (h : Sl w a c l) (hn : l.length ≤ 1000000) (hb : Na.big l = false) (hz : Na.val l ≠ 0) (ho : n ≤ 8192 ∧ Na.bitLen (Na.val l) + n ≤ 8192) :
    Calls Tryz.prog 82 #[.slice a l.length c, .int .i64 n] w (GivesE (Na.shl l n) w) := by
  have hB : Below w.heap.size w (w.alloc (Obj.cells #[Value.slice a l.length c] 85)) := (Below.refl _ _).alloc (Nat.le_refl _) _
  have e2 := Lib.hid (show Na.shl l n = (Na.limbs (Na.val l * 2 ^ n), 0) by rw [Na.shl, if_neg (by omega), hb, if_neg (by simp), if_neg hz, if_neg (by omega), Int.toNat_natCast])
  have H1 := Lib.hid (na_over1_any h hn false hb)
  have hr : Na.rt l ≠ 0 := fun e => hz ((Na.cut_nil_iff l).1 (List.eq_nil_of_length_eq_zero e))
  have H2 := na_right_any a c l _ (h.on hB) hn
  obtain ⟨rm, hrm⟩ : ∃ x, x = Na.rt l := ⟨_, rfl⟩
  rw [← hrm] at H2 hr
  have hr0 : ((rm : Int) == 0) = false := by simpa using hr
  have H2' := Lib.hid H2
  have H3 := na_len_any a c l _ (h.on hB) hn
  obtain ⟨bl, hbe⟩ : ∃ x, x = Na.bitLen (Na.val l) := ⟨_, rfl⟩
  rw [← hbe] at H3 ho
  have H3' := Lib.hid H3
  have H4 := na_cut_any a c l _ (h.on hB) hn
  have hl1 : (Na.cut l).length ≤ 256 := Nat.le_of_not_lt (of_decide_eq_false hb)
  have S1 := h.cut
  have V1 := Lib.hid (Na.val_cut (a := l))
  obtain ⟨q, hq⟩ : ∃ q, q = Na.cut l := ⟨_, rfl⟩
  rw [← hq] at H4 hl1 S1 V1
  obtain ⟨ln, hqn⟩ : ∃ n, q.length = n := ⟨_, rfl⟩
  rw [hqn] at H4 hl1
  have HQ := Lib.hid hqn
  have H4' := Lib.hid H4
  obtain ⟨p, hp⟩ : ∃ p, p = n / 32 := ⟨_, rfl⟩
  obtain ⟨s, hs⟩ : ∃ s, s = n % 32 := ⟨_, rfl⟩
  have hpi : (n : Int) / 32 = (p : Int) := by omega
  have hsi : (n : Int) % 32 = (s : Int) := by omega
  have hs2 : s < 32 := by omega
  have hp2 : p ≤ 256 := by omega
  have HN := Lib.hid (show n = 32 * p + s by omega)
  obtain ⟨ho1, ho2⟩ := ho
  have ho3 : ¬ 8192 < (bl : Int) + n := by omega
  have ho4 : ¬ 8192 < (n : Int) := by omega
  have ho5 : bl ≤ 8192 := by omega
  clear hb hz H2 hr H3 H4 hbe hrm hq hqn hp hs ho2
  go_enter Tryz.func82, Tryz.ntmps82
  go_wp2_with (first | (go_at_call 137; (with_reducible refine (H1.out).mono ?_); rintro e w' ⟨rfl, rfl⟩) | (go_at_call 139; (with_reducible refine (H2'.out).mono ?_); rintro e w' ⟨rfl, rfl⟩) | (go_at_call 140; (with_reducible refine (H3'.out).mono ?_); rintro e w' ⟨rfl, rfl⟩) | (go_at_call 138; (with_reducible refine (H4'.out).mono ?_); rintro e w' ⟨rfl, rfl⟩) | (at_make; refine mk_u32 rfl _ _ rfl _ _ (p + ln + 1) rfl rfl rfl rfl (by omega) ?_))
  intro w1 hK hgrow
  have HB1 := Lib.hid (hgrow.out _ _ hB (by simp [World.size_alloc]))
  have hK' := Lib.hid (show Blk w1 (w.heap.size + 1) (List.replicate (p + ln + 1) 0) by have := hK.out; simpa [World.size_alloc] using this)
  clear hgrow hB hK
  have hsh : Calls Tryz.prog 141 #[.slice (some ⟨w.heap.size + 1, p, none⟩) (p + ln + 1 - p) (p + ln + 1 - p), .slice a ln c, .int .i64 s] w1 (ShiftR (w.heap.size + 1) p (ln + 1) s (List.replicate (p + ln + 1) 0) q w1) := by
    rw [show p + ln + 1 - p = ln + 1 by omega]
    have := na_shift_any (w.heap.size + 1) p (ln + 1) (ln + 1) s c (List.replicate (p + ln + 1) 0) q a w1 hK'.out (by intro x hx; rw [List.eq_of_mem_replicate hx]; decide) (by simp; omega) (fun wr hb => S1.on (HB1.out.trans (hb.mono (by omega)))) hs2 (by have := HQ.out; omega) (by omega)
    rw [HQ.out] at this; exact this
  have HSH := Lib.hid hsh
  have HCUT := Lib.hid (fun w2 (e : Ending) (hr : ShiftR (w.heap.size + 1) p (ln + 1) s (List.replicate (p + ln + 1) 0) q w1 e w2) => (by
    obtain ⟨_, hb2, o', hk2, hl2, hok2, htk, cc, hval⟩ := hr
    have hb3 : Below w.heap.size w w2 := HB1.out.trans (hb2.mono (by omega))
    have hv : Na.val o' = Na.val l * 2 ^ n := by
      have hq1 : Na.val (q.take (ln + 1)) = Na.val l := by rw [List.take_of_length_le (by rw [HQ.out]; omega), V1.out]
      have hlt : Na.val l * 2 ^ s < Na.B ^ (ln + 1) := by
        have h1 := Na.val_lt q S1.ok
        rw [V1.out, HQ.out] at h1
        have h2 : 2 ^ s ≤ Na.B := Nat.le_trans (Nat.pow_le_pow_right (by decide) (show s ≤ 32 by omega)) (by decide)
        rw [Nat.pow_succ]
        exact Nat.lt_of_lt_of_le (Nat.mul_lt_mul_of_pos_right h1 (Nat.pow_pos (by decide))) (Nat.mul_le_mul_left _ h2)
      rw [hq1] at hval
      refine Na.shl_val o' [Na.val l] p s (ln + 1) cc _ ?_ (by omega) (by rw [hval]; simp [Na.val]) (by simpa [Na.val] using hlt) (by rw [HN.out]; simp [Na.val])
      rw [htk, List.take_replicate, Na.val_zeros]
    have hcut : Na.cut o' = Na.limbs (Na.val l * 2 ^ n) := by rw [Na.cut, hv]
    have hs3 := hk2.sl hok2 (c := p + ln + 1) (by omega)
    have hc := na_cut_any (some ⟨w.heap.size + 1, 0, none⟩) (p + ln + 1) o' w2 hs3 (by omega)
    have hs4 := hs3.cut
    rw [hl2, hcut] at hc
    rw [hcut] at hs4
    exact ⟨hc, hs4, hk2.own (by omega), hb3⟩ : Calls Tryz.prog 138 #[.slice (some ⟨w.heap.size + 1, 0, none⟩) (p + ln + 1) (p + ln + 1)] w2 (Ret0 (.slice (some ⟨w.heap.size + 1, 0, none⟩) (Na.limbs (Na.val l * 2 ^ n)).length (p + ln + 1)) w2) ∧
      Sl w2 (some ⟨w.heap.size + 1, 0, none⟩) (p + ln + 1) (Na.limbs (Na.val l * 2 ^ n)) ∧ Own w2 w.heap.size (some ⟨w.heap.size + 1, 0, none⟩) (Na.limbs (Na.val l * 2 ^ n)).length ∧ Below w.heap.size w w2))
  clear hsh
  go_wp2_with (first | (go_at_call 141; (with_reducible refine (HSH.out).mono ?_); intro e w2 hr; have HX := Lib.hid (HCUT.out w2 e hr); obtain ⟨rfl, -⟩ := hr) | (go_at_call 138; (with_reducible refine (HX.out.1).mono ?_); rintro e w' ⟨rfl, rfl⟩))
  refine bodyPost_ret (v := .tuple #[.slice (some ⟨w.heap.size + 1, 0, none⟩) (Na.limbs (Na.val l * 2 ^ n)).length (p + ln + 1), .int .i64 0]) (by simp [results, Tryz.results82, go_sem]) rfl (by rw [e2.out]; exact ⟨_, _, rfl, HX.out.2.1, HX.out.2.2.1, HX.out.2.2.2⟩)

theorem na_shl_any (a : Option Addr) (c : Nat) (l : List Nat) (n : Int) (w : World) (h : Sl w a c l) (hn : l.length ≤ 1000000) (hi : -9223372036854775808 ≤ n ∧ n ≤ 9223372036854775807) :
    Calls Tryz.prog 82 #[.slice a l.length c, .int .i64 n] w (GivesE (Na.shl l n) w) := by
  by_cases h0 : n < 0
  · exact na_shl_arg a c l n w h hn hi h0
  · cases hb : Na.big l with
    | true => exact na_shl_big a c l n w h hn hi (by omega) hb
    | false =>
      by_cases hz : Na.val l = 0
      · exact na_shl_zero a c l n w h hn hi (by omega) hb hz
      · by_cases ho : 8192 < n ∨ 8192 < (Na.bitLen (Na.val l) : Int) + n
        · exact na_shl_over a c l n w h hn hi (by omega) hb hz ho
        · obtain ⟨n', rfl⟩ : ∃ x : Nat, n = x := ⟨n.toNat, by omega⟩
          exact na_shl_main a c l n' w h hn hb hz (by omega)
end Go.Proofs.YtjnkbifafbjckaaGreatDoor

/- Plain Lean: a number's digits, nine at a time. -/
namespace Go.Proofs.YtjnkbifafbjckaaGreatDoor.Na
set_option linter.all false
open Go

def padk : Nat → Nat → List UInt8
  | 0, _ => []
  | k + 1, r => padk k (r / 10) ++ [UInt8.ofNat (48 + r % 10)]
theorem padk_eq (k : Nat) : ∀ r, r < 10 ^ (k + 1) → padk (k + 1) r = List.replicate (k + 1 - (Lib.decDigits r).length) 48 ++ Lib.decDigits r ∧ (Lib.decDigits r).length ≤ k + 1 := by
  induction k with
  | zero => intro r hr; rw [Lib.decDigits, dif_pos (by simpa using hr)]; simp [padk, Nat.mod_eq_of_lt (show r < 10 by simpa using hr)]
  | succ k ih =>
    intro r hr
    by_cases h : r < 10
    · rw [Lib.decDigits, dif_pos h]
      obtain ⟨e, _⟩ := ih (r / 10) (Nat.lt_of_lt_of_le (show r / 10 < 1 by omega) (Nat.one_le_pow _ _ (by decide)))
      rw [padk, e, show r / 10 = 0 by omega, Lib.decDigits, dif_pos (by decide), Nat.mod_eq_of_lt h]
      refine ⟨?_, by simp⟩
      rw [show k + 1 + 1 - [UInt8.ofNat (48 + r)].length = k + 1 - [UInt8.ofNat (48 + 0)].length + 1 by simp, List.replicate_succ']
      simp
    · rw [Nat.pow_succ] at hr
      obtain ⟨e, hl⟩ := ih (r / 10) (by omega)
      rw [Lib.decDigits, dif_neg h, padk, e, List.length_append, List.length_singleton]
      exact ⟨by rw [show k + 1 + 1 - ((Lib.decDigits (r / 10)).length + 1) = k + 1 - (Lib.decDigits (r / 10)).length by omega, List.append_assoc], by omega⟩
end Go.Proofs.YtjnkbifafbjckaaGreatDoor.Na

/- Digits. -/
namespace Go.Proofs.YtjnkbifafbjckaaGreatDoor
set_option linter.all false
open Go.RowKit

def Tab (w : World) : Prop := Lib.TabBelow Tryz.prog w.heap.size w "internal/strconv.uint64pow10" .u64 Lib.pow10Tab
theorem Tab.on {w w1 : World} (h : Tab w) (hb : Below w.heap.size w w1) : Lib.TabIs Tryz.prog w1 "internal/strconv.uint64pow10" .u64 Lib.pow10Tab := h w1 hb
theorem Tab.below {w w1 : World} (h : Tab w) (hb : Below w.heap.size w w1) : Tab w1 := fun w' hb' => h w' (hb.trans (hb'.mono hb.size))

def strLen : Value → Nat
  | .string s => s.size
  | _ => 0
theorem dec_len_le (l : List Nat) (h : Na.OK l) : (Lib.decDigits (Na.val l)).length ≤ 10 * l.length + 1 := by
  have h1 := Na.val_lt l h
  have h2 : Na.B ^ l.length ≤ 10 ^ (10 * l.length) := by rw [Nat.pow_mul]; exact Nat.pow_le_pow_left (by decide) _
  exact (Na.padk_eq (10 * l.length) _ (Nat.lt_of_lt_of_le h1 (Nat.le_trans h2 (Nat.pow_le_pow_right (by decide) (by omega))))).2

end Go.Proofs.YtjnkbifafbjckaaGreatDoor

/- What the cards of chapter 1 take of the listed variables: the table of powers of ten. -/
namespace Go.Proofs.YtjnkbifafbjckaaGreatDoor
set_option linter.all false
open Go.ChangeShapes Go.WideShapes Go.ChangeAt Go.RowKit

theorem own : ownKnob Tryz.prog.godebug = none := by kernel_rfl
end Go.Proofs.YtjnkbifafbjckaaGreatDoor

/- One block alone may turn. -/
namespace Go.Proofs.YtjnkbifafbjckaaGreatDoor
set_option linter.all false
open Go.RowKit

/-- Of the blocks that were there only one may have turned. -/
structure Onl (g : Nat) (w wr : World) : Prop where
  below : Below g w wr
  block : ∀ k, k ≠ g → k < w.heap.size → wr.heap[k]? = w.heap[k]?
theorem Onl.refl (g : Nat) (w : World) : Onl g w w := ⟨Below.refl _ _, fun _ _ _ => rfl⟩
theorem Onl.trans {g : Nat} {a b c : World} (h : Onl g a b) (k : Onl g b c) : Onl g a c := ⟨h.below.trans k.below, fun i hi hl => (k.block i hi (Nat.lt_of_lt_of_le hl h.below.size)).trans (h.block i hi hl)⟩
theorem Onl.setCell {g : Nat} {a b : World} (h : Onl g a b) (i : Nat) (u : Value) : Onl g a (b.setCell ⟨g, i, none⟩ u) :=
  ⟨h.below.setCell (Nat.le_refl _) u, fun k hk hl => (Below.heap_setCell _ _ _ _ hk).trans (h.block k hk hl)⟩
theorem Onl.drew {g : Nat} {a b : World} (h : Onl g a b) (n : Nat) : Onl g a (b.drewN n) := ⟨below_drewN' h.below n, h.block⟩
theorem Onl.up {g B : Nat} {a b : World} (h : Onl g a b) (hB : B ≤ g) : Below B a b := h.below.mono hB
end Go.Proofs.YtjnkbifafbjckaaGreatDoor

/- Plain Lean: a shift down. -/
namespace Go.Proofs.YtjnkbifafbjckaaGreatDoor.Na
set_option linter.all false
open Go

theorem shr_head (x y Y Y2 s : Nat) (hs : s < 32) (hx : x < B) (hY : Y = y + B * Y2) : (x + B * Y) / 2 ^ s = ((x + y * B) / 2 ^ s) % B + B * (Y / 2 ^ s) := by
  obtain ⟨p, hp⟩ : ∃ p, p = 2 ^ s := ⟨_, rfl⟩
  obtain ⟨c, hc⟩ : ∃ c, c = 2 ^ (32 - s) := ⟨_, rfl⟩
  have hB : B = p * c := by rw [hp, hc, ← Nat.pow_add, show s + (32 - s) = 32 by omega]
  have hp0 : 0 < p := by rw [hp]; exact Nat.pow_pos (by decide)
  rw [← hp]
  have e1 : (x + B * Y) / p = x / p + c * Y := by rw [hB, Nat.mul_assoc, Nat.add_mul_div_left _ _ hp0]
  have e2 : (x + y * B) / p = x / p + c * y := by rw [hB, Nat.mul_left_comm, Nat.add_mul_div_left _ _ hp0, Nat.mul_comm y]
  have hmod : Y % p = y % p := by rw [hY, hB, Nat.mul_assoc, Nat.add_mul_mod_self_left]
  have h1 : c * Y = B * (Y / p) + c * (y % p) := by
    have := congrArg (c * ·) (Nat.div_add_mod Y p)
    simp only [Nat.mul_add, hmod] at this
    rw [← this, hB, ← Nat.mul_assoc, Nat.mul_comm c p]
  have h2 : c * y = B * (y / p) + c * (y % p) := by
    have := congrArg (c * ·) (Nat.div_add_mod y p)
    simp only [Nat.mul_add] at this
    rw [← this, hB, ← Nat.mul_assoc, Nat.mul_comm c p]
  have hxc : x / p < c := by rw [Nat.div_lt_iff_lt_mul hp0, Nat.mul_comm, ← hB]; exact hx
  have hm : c * (y % p) + c ≤ B := by
    have := Nat.mul_le_mul_left c (show y % p + 1 ≤ p from Nat.mod_lt _ hp0)
    rw [Nat.mul_add, Nat.mul_one, Nat.mul_comm c p, ← hB] at this; exact this
  rw [e1, e2, h1, h2]
  have e3 : (x / p + (B * (y / p) + c * (y % p))) % B = x / p + c * (y % p) := by
    rw [show x / p + (B * (y / p) + c * (y % p)) = (x / p + c * (y % p)) + B * (y / p) by omega, Nat.add_mul_mod_self_left, Nat.mod_eq_of_lt (by omega)]
  rw [e3]; omega
theorem shr_lost (L V k s : Nat) (hL : L < B ^ k) : (L + B ^ k * V) / 2 ^ (32 * k + s) = V / 2 ^ s ∧ ((L + B ^ k * V) % 2 ^ (32 * k + s) ≠ 0 ↔ L ≠ 0 ∨ V % 2 ^ s ≠ 0) := by
  have hB : 2 ^ (32 * k) = B ^ k := by rw [Nat.pow_mul]
  have h0 : 0 < B ^ k := Nat.pow_pos (by decide)
  rw [Nat.pow_add, hB]
  constructor
  · rw [← Nat.div_div_eq_div_mul, Nat.add_mul_div_left _ _ h0, Nat.div_eq_of_lt hL, Nat.zero_add]
  · have e : (L + B ^ k * V) % (B ^ k * 2 ^ s) = L + B ^ k * (V % 2 ^ s) := by
      rw [Nat.mod_mul, Nat.add_mul_div_left _ _ h0, Nat.div_eq_of_lt hL, Nat.zero_add, Nat.add_mul_mod_self_left, Nat.mod_eq_of_lt hL]
    rw [e]
    constructor
    · intro h
      rcases Nat.eq_zero_or_pos L with hl | hl
      · rcases Nat.eq_zero_or_pos (V % 2 ^ s) with hv | hv
        · rw [hl, hv] at h; simp at h
        · right; omega
      · left; omega
    · rintro (h | h)
      · omega
      · have := Nat.mul_pos h0 (show 0 < V % 2 ^ s by omega); omega
theorem and_mask (x s : Nat) (hx : x < 4294967296) (hs : s < 32) : bits BinOp.and IntKind.u32 (x : Int) ((2 ^ s - 1 : Nat) : Int) = ((x % 2 ^ s : Nat) : Int) := by
  have h1 : 2 ^ s ≤ 2 ^ 31 := Nat.pow_le_pow_right (by decide) (by omega)
  rw [(bits_and_u32 x (2 ^ s - 1) hx (by omega)).1, Nat.and_two_pow_sub_one_eq_mod]
end Go.Proofs.YtjnkbifafbjckaaGreatDoor.Na

/- Plain Lean: a text of digits as a number. -/
namespace Go.Proofs.YtjnkbifafbjckaaGreatDoor.Na
set_option linter.all false
open Go

def isD (c : UInt8) : Bool := decide (48 ≤ c.toNat) && decide (c.toNat ≤ 57)
def num (t : List UInt8) : Nat := t.foldl (fun a c => 10 * a + (c.toNat - 48)) 0
/-- What a text says: a number, or an error (3: its form; 2: too big). -/
def parse (t : List UInt8) : List Nat × Int := if t = [] ∨ t.all isD = false then ([], 3) else fits (num t)

theorem num_from (t : List UInt8) : ∀ a, t.foldl (fun a c => 10 * a + (c.toNat - 48)) a = a * 10 ^ t.length + num t := by
  induction t with
  | nil => intro a; simp [num]
  | cons c t ih =>
    intro a
    have h2 : num (c :: t) = (c.toNat - 48) * 10 ^ t.length + num t := by
      rw [num, List.foldl_cons, Nat.mul_zero, Nat.zero_add, ih]
    rw [List.foldl_cons, ih, h2, List.length_cons, Nat.pow_succ, Nat.add_mul]
    rw [show 10 * a * 10 ^ t.length = a * (10 ^ t.length * 10) by rw [Nat.mul_comm 10 a, Nat.mul_assoc, Nat.mul_comm 10]]
    omega
theorem num_app (a b : List UInt8) : num (a ++ b) = num a * 10 ^ b.length + num b := by
  rw [num, List.foldl_append, num_from]; rfl
theorem num_lt (t : List UInt8) (h : t.all isD = true) : num t < 10 ^ t.length := by
  induction t with
  | nil => simp [num]
  | cons c t ih =>
    rw [List.all_cons, Bool.and_eq_true] at h
    have h1 := ih h.2
    have hc : c.toNat - 48 ≤ 9 := by
      have := h.1; simp only [isD, Bool.and_eq_true, decide_eq_true_eq] at this; omega
    rw [num, List.foldl_cons, Nat.mul_zero, Nat.zero_add, num_from, List.length_cons, Nat.pow_succ]
    have := Nat.mul_le_mul_right (10 ^ t.length) hc
    omega
theorem num_ge (c : UInt8) (t : List UInt8) (h : isD c = true) (h0 : c ≠ 48) : 10 ^ t.length ≤ num (c :: t) := by
  have hc : 1 ≤ c.toNat - 48 := by
    have h1 : c.toNat ≠ 48 := fun e => h0 (UInt8.toNat_inj.1 (by rw [e]; rfl))
    simp only [isD, Bool.and_eq_true, decide_eq_true_eq] at h; omega
  rw [num, List.foldl_cons, Nat.mul_zero, Nat.zero_add, num_from]
  have := Nat.mul_le_mul_right (10 ^ t.length) hc
  omega
theorem num_trim (t : List UInt8) : num (t.dropWhile (· == 48)) = num t := by
  induction t with
  | nil => rfl
  | cons c t ih =>
    by_cases h : (c == 48) = true
    · have hc : c = 48 := by simpa using h
      subst hc
      rw [List.dropWhile_cons, if_pos (by rfl), ih]; rfl
    · rw [List.dropWhile_cons, if_neg (by simpa using h)]
end Go.Proofs.YtjnkbifafbjckaaGreatDoor.Na

/- Plain Lean: a text of digits, nine at a time. -/
namespace Go.Proofs.YtjnkbifafbjckaaGreatDoor.Na
set_option linter.all false
open Go

theorem parseUint_num (l : List UInt8) : ∀ (a : Nat), l.all isD = true → a * 10 ^ l.length + 10 ^ l.length ≤ 1000000000000000000 → Lib.parseUint10 a l = .ok (a * 10 ^ l.length + num l) := by
  induction l with
  | nil => intro a _ _; simp [Lib.parseUint10, num]
  | cons c l ih =>
    intro a hd hb
    rw [List.all_cons, Bool.and_eq_true] at hd
    have hc : 48 ≤ c.toNat ∧ c.toNat ≤ 57 := by
      have := hd.1; simp only [isD, Bool.and_eq_true, decide_eq_true_eq] at this; exact this
    have hp : 1 ≤ 10 ^ l.length := Nat.one_le_pow _ _ (by decide)
    have hn : num (c :: l) = (c.toNat - 48) * 10 ^ l.length + num l := by
      rw [num, List.foldl_cons, Nat.mul_zero, Nat.zero_add, num_from]
    rw [List.length_cons, Nat.pow_succ] at hb ⊢
    have hb2 : a * (10 ^ l.length * 10) = (a * 10) * 10 ^ l.length := by rw [Nat.mul_comm (10 ^ l.length) 10, Nat.mul_assoc]
    have hstep : (a * 10 + (c.toNat - 48)) * 10 ^ l.length + 10 ^ l.length ≤ a * (10 ^ l.length * 10) + 10 ^ l.length * 10 := by
      rw [hb2, Nat.add_mul]
      have : (c.toNat - 48) * 10 ^ l.length ≤ 9 * 10 ^ l.length := Nat.mul_le_mul_right _ (by omega)
      omega
    have ha : a ≤ 100000000000000000 := by
      have : a * 10 ≤ a * 10 * 10 ^ l.length := Nat.le_mul_of_pos_right _ hp
      omega
    rw [Lib.parseUint10, if_pos ⟨hc.1, hc.2⟩, if_neg (by omega), if_neg (by omega), ih _ hd.2 (by omega), hn, hb2, Nat.add_mul, Nat.add_assoc]

theorem atoi_num (l : List UInt8) (hd : l.all isD = true) (hne : l ≠ []) (hl : l.length ≤ 9) : Lib.atoiAll l = .ok (num l : Nat) := by
  have h4 : 10 ^ l.length ≤ 10 ^ 9 := Nat.pow_le_pow_right (by decide) hl
  have h1 := parseUint_num l 0 hd (by omega)
  rw [Nat.zero_mul, Nat.zero_add] at h1
  have h2 := num_lt l hd
  cases l with
  | nil => exact absurd rfl hne
  | cons c r =>
    rw [List.all_cons, Bool.and_eq_true] at hd
    have hc : 48 ≤ c.toNat ∧ c.toNat ≤ 57 := by
      have := hd.1; simp only [isD, Bool.and_eq_true, decide_eq_true_eq] at this; exact this
    have h43 : ¬ (c.toNat = 43 ∨ c.toNat = 45) := by omega
    have h45 : ¬ c.toNat = 45 := by omega
    have h5 : Lib.parseMag (if c.toNat = 43 ∨ c.toNat = 45 then r else c :: r) = .ok (num (c :: r)) := by
      rw [if_neg h43, Lib.parseMag, if_neg (by simp), h1]
    unfold Lib.atoiAll
    simp only []
    rw [h5]
    simp [h45]; omega

def dset : List UInt8 := [48, 49, 50, 51, 52, 53, 54, 55, 56, 57]
theorem isD_set (c : UInt8) : dset.contains c = isD c := by
  obtain ⟨k, hk⟩ : ∃ k : Nat, k = c.toNat := ⟨_, rfl⟩
  have h1 : ∀ d : UInt8, (c = d) ↔ k = d.toNat := fun d => by rw [hk]; exact UInt8.toNat_inj.symm
  rw [Bool.eq_iff_iff]
  simp only [dset, List.contains_iff_mem, List.mem_cons, List.not_mem_nil, or_false, isD, Bool.and_eq_true, decide_eq_true_eq, h1, ← hk, UInt8.toNat_ofNat]
  omega
theorem dropWhile_nil {α : Type} (p : α → Bool) (l : List α) : l.dropWhile p = [] ↔ l.all p = true := by
  induction l with
  | nil => simp
  | cons a l ih =>
    by_cases h : p a = true
    · rw [List.dropWhile_cons, if_pos h, ih, List.all_cons, h, Bool.true_and]
    · rw [List.dropWhile_cons, if_neg h, List.all_cons]; simp [h]
theorem trimS_nil (l cs : List UInt8) : Lib.trimS l cs = [] ↔ l.all (cs.contains ·) = true := by
  rw [Lib.trimS, Lib.trimLeftS, dropWhile_nil, Lib.trimRightS, List.all_reverse]
  have h := List.takeWhile_append_dropWhile (p := (cs.contains ·)) (l := l.reverse)
  have h2 : (l.reverse.takeWhile (cs.contains ·)).all (cs.contains ·) = true := by
    exact List.all_takeWhile
  have h3 : l.all (cs.contains ·) = l.reverse.all (cs.contains ·) := List.all_reverse.symm
  rw [h3]
  conv => rhs; rw [← h]
  rw [List.all_append, h2, Bool.true_and]
theorem trim_digits (l : List UInt8) : Lib.trimS l dset = [] ↔ l.all isD = true := by
  rw [trimS_nil]
  have : (fun c => dset.contains c) = isD := funext isD_set
  rw [this]

theorem all_dropWhile (l : List UInt8) (h : l.all isD = true) : (l.dropWhile (· == 48)).all isD = true := by
  rw [List.all_eq_true] at h ⊢
  exact fun x hx => h x ((List.dropWhile_sublist _).subset hx)
theorem head_dropWhile (l : List UInt8) (c : UInt8) (t : List UInt8) (h : l.dropWhile (· == 48) = c :: t) : c ≠ 48 := by
  induction l with
  | nil => simp at h
  | cons a l ih =>
    by_cases ha : (a == 48) = true
    · rw [List.dropWhile_cons, if_pos ha] at h; exact ih h
    · rw [List.dropWhile_cons, if_neg ha] at h
      injection h with h1 h2
      subst h1
      simpa using ha
theorem pow_pow_le (a b m n k : Nat) (h : a ≤ b ^ n) (hk : n * m ≤ k) (hb : 0 < b) : a ^ m ≤ b ^ k := by
  have := Nat.pow_le_pow_left h m
  rw [← Nat.pow_mul] at this
  exact Nat.le_trans this (Nat.pow_le_pow_right hb hk)
theorem pow_big (k : Nat) (h : 2560 ≤ k) : B ^ 256 ≤ 10 ^ k := pow_pow_le B 10 256 10 k (by decide) h (by decide)
/-- A text of too many digits. -/
theorem num_long (l : List UInt8) (hd : l.all isD = true) (h : 3000 < (l.dropWhile (· == 48)).length) : fits (num l) = ([], 2) := by
  rw [← num_trim]
  have hd2 := all_dropWhile l hd
  cases e : l.dropWhile (· == 48) with
  | nil => rw [e] at h; simp at h
  | cons c t =>
    have h1 := head_dropWhile l c t e
    rw [e] at h hd2
    rw [List.all_cons, Bool.and_eq_true] at hd2
    have h2 := num_ge c t hd2.1 h1
    rw [List.length_cons] at h
    have h3 := pow_big t.length (by omega)
    rw [fits, if_pos]
    exact limbs_len_gt _ _ (Nat.le_trans h3 h2)
theorem fits_more {a b : Nat} (h : fits a = ([], 2)) (h2 : a ≤ b) : fits b = ([], 2) := by
  by_cases h1 : 256 < (limbs a).length
  · rw [fits, if_pos]
    refine limbs_len_gt _ _ (Nat.le_trans ?_ h2)
    exact Nat.le_of_not_lt fun hl => by have := (limbs_len_iff a 256).2 hl; omega
  · rw [fits, if_neg h1] at h
    injection h with _ h
    exact absurd h (by decide)
theorem num_split (l : List UInt8) (k n : Nat) : num (l.take (k + n)) = num (l.take k) * 10 ^ ((l.drop k).take n).length + num ((l.drop k).take n) := by
  rw [← num_app, List.take_add]
theorem num_pre (l : List UInt8) (k : Nat) : num (l.take k) ≤ num l := by
  have := num_app (l.take k) (l.drop k)
  rw [List.take_append_drop] at this
  rw [this]
  have := Nat.mul_le_mul_left (num (l.take k)) (Nat.one_le_pow (l.drop k).length 10 (by decide))
  omega
end Go.Proofs.YtjnkbifafbjckaaGreatDoor.Na

/- Plain Lean: decimals as lists of digits; no program in sight. -/
namespace Go.Proofs.YtjnkbifafbjckaaGreatDoor.Dc
set_option linter.all false

abbrev Bs := List UInt8

def isDig (c : UInt8) : Bool := decide (48 ≤ (c.toNat : Int)) && decide ((c.toNat : Int) ≤ 57)

/-- Digits alone. -/
def allDig (l : Bs) : Bool := l.all isDig

/-- Is a decimal right? -/
def right (l : Bs) (x : Int) : Bool :=
  if l = [] then x == 0
  else decide (l.length ≤ 1100) && (decide (-100000 ≤ x) && (decide (x ≤ 100000) && (allDig l && ((l[0]? != some 48) && (l[l.length - 1]? != some 48)))))

theorem right_nil (l : Bs) (x : Int) (h : l.length = 0) : right l x = (x == 0) := by
  have : l = [] := List.length_eq_zero_iff.1 h
  simp [right, this]

theorem right_false (l : Bs) (x : Int) (h : 0 < l.length) (h' : 1100 < l.length ∨ x < -100000 ∨ 100000 < x ∨ allDig l = false ∨ l[0]? = some 48 ∨ l[l.length - 1]? = some 48) : right l x = false := by
  have hne : l ≠ [] := by intro e; simp [e] at h
  rw [right, if_neg hne]
  rcases h' with h' | h' | h' | h' | h' | h'
  · rw [decide_eq_false (by omega)]; rfl
  · rw [decide_eq_false (p := -100000 ≤ x) (by omega)]; simp
  · rw [decide_eq_false (p := x ≤ 100000) (by omega)]; simp
  · rw [h']; simp
  · rw [h']; simp
  · rw [h']; simp

theorem right_true (l : Bs) (x : Int) (h : 0 < l.length) (h1 : l.length ≤ 1100) (h2 : -100000 ≤ x) (h3 : x ≤ 100000) (h4 : allDig l = true) (h5 : l[0]? ≠ some 48) (h6 : l[l.length - 1]? ≠ some 48) : right l x = true := by
  have hne : l ≠ [] := by intro e; simp [e] at h
  rw [right, if_neg hne, h4]
  simp [h1, h2, h3, h5, h6]

theorem get?_bytes (s : ByteArray) (k : Nat) (h : k < s.size) : s.data.toList[k]? = some s[k] := by
  simp [ByteArray.getElem_eq_getElem_data, h]
theorem last?_bytes (s : ByteArray) (h : 0 < s.size) : s.data.toList[s.data.toList.length - 1]? = some s[s.size - 1] := by
  rw [show s.data.toList.length = s.size by simp]; exact get?_bytes s _ (by omega)
theorem u8_of_int {c d : UInt8} (h : (c.toNat : Int) = d.toNat) : c = d := UInt8.toNat_inj.1 (by omega)
theorem int_of_u8 {c d : UInt8} (h : c = d) : (c.toNat : Int) = d.toNat := by rw [h]

theorem right_bytes_false (s : ByteArray) (x : Int) (h0 : 0 < s.size) (h : 1100 < s.size ∨ x < -100000 ∨ 100000 < x ∨ (s[0].toNat : Int) = 48 ∨ (s[s.size - 1].toNat : Int) = 48) : right s.data.toList x = false := by
  have hl : s.data.toList.length = s.size := by simp
  refine right_false _ _ (by omega) ?_
  rcases h with h | h | h | h | h
  · exact .inl (by omega)
  · exact .inr (.inl h)
  · exact .inr (.inr (.inl h))
  · exact .inr (.inr (.inr (.inr (.inl (by rw [get?_bytes s 0 h0]; exact congrArg some (u8_of_int h))))))
  · exact .inr (.inr (.inr (.inr (.inr (by rw [last?_bytes s h0]; exact congrArg some (u8_of_int h))))))

theorem right_bytes_nodig (s : ByteArray) (x : Int) (k : Nat) (hk : k < s.size) (h : isDig s[k] = false) : right s.data.toList x = false := by
  have hl : s.data.toList.length = s.size := by simp
  refine right_false _ _ (by omega) (.inr (.inr (.inr (.inl ?_))))
  rw [allDig, List.all_eq_false]
  exact ⟨s[k], List.mem_of_getElem? (get?_bytes s k hk), by simp [h]⟩

theorem right_bytes_true (s : ByteArray) (x : Int) (h0 : 0 < s.size) (a1 : s.size ≤ 1100) (a2 : -100000 ≤ x) (a3 : x ≤ 100000) (a4 : ¬ (s[0].toNat : Int) = 48) (a5 : ¬ (s[s.size - 1].toNat : Int) = 48) (a6 : allDig s.data.toList = true) : right s.data.toList x = true := by
  have hl : s.data.toList.length = s.size := by simp
  exact right_true _ _ (by omega) (by omega) a2 a3 a6 (by rw [get?_bytes s 0 h0]; intro h; exact a4 (int_of_u8 (Option.some.inj h))) (by rw [last?_bytes s h0]; intro h; exact a5 (int_of_u8 (Option.some.inj h)))

theorem hasSuffix_zero (s : ByteArray) (h0 : 0 < s.size) : Lib.hasSuffix s.data.toList [48] = decide ((s[s.size - 1].toNat : Int) = 48) := by
  have h1 := last?_bytes s h0
  have hne : s.data.toList ≠ [] := by intro e; rw [e] at h1; cases h1
  rw [Lib.hasSuffix, Bool.eq_iff_iff, List.isSuffixOf_iff_suffix, decide_eq_true_iff]
  constructor
  · rintro ⟨t, ht⟩
    rw [← ht] at h1
    simp at h1
    rw [← h1]; rfl
  · intro h
    have h2 : s[s.size - 1] = 48 := u8_of_int (by simpa using h)
    refine ⟨s.data.toList.dropLast, ?_⟩
    have h3 := List.dropLast_concat_getLast hne
    have h4 : s.data.toList.getLast hne = 48 := by
      have h5 := List.getLast?_eq_getElem? (l := s.data.toList)
      rw [h1, List.getLast?_eq_some_getLast hne, h2] at h5
      exact Option.some.inj h5
    rw [h4] at h3
    exact h3

theorem right_plain_false (s : ByteArray) (x : Int) (h0 : 0 < s.size) (h : allDig s.data.toList = false) : right s.data.toList x = false := by
  have hl : s.data.toList.length = s.size := by simp
  exact right_false _ _ (by omega) (.inr (.inr (.inr (.inl h))))

/-- How many digits stand ahead of the point. -/
def point (l : Bs) (x : Int) : Int := if right l x then l.length + x else 0
theorem point_eq (s : ByteArray) (x : Int) : point s.data.toList x = if right s.data.toList x then (s.size : Int) + x else 0 := by
  simp [point]
theorem right_len {l : Bs} {x : Int} (h : right l x = true) : l.length ≤ 1100 := by
  rw [right] at h
  split at h
  · rename_i e; simp [e]
  · simp only [Bool.and_eq_true, decide_eq_true_eq] at h; exact h.1
theorem right_exp {l : Bs} {x : Int} (h : right l x = true) : -100000 ≤ x ∧ x ≤ 100000 := by
  rw [right] at h
  split at h
  · have : x = 0 := by simpa using h
    omega
  · simp only [Bool.and_eq_true, decide_eq_true_eq] at h; exact ⟨h.2.1, h.2.2.1⟩
theorem right_dig {l : Bs} {x : Int} (h : right l x = true) : allDig l = true := by
  rw [right] at h
  split at h
  · rename_i e; simp [e, allDig]
  · simp only [Bool.and_eq_true, decide_eq_true_eq] at h; exact h.2.2.2.1

end Go.Proofs.YtjnkbifafbjckaaGreatDoor.Dc

/- Plain Lean: what is made of digits. -/
namespace Go.Proofs.YtjnkbifafbjckaaGreatDoor.Dc
set_option linter.all false

/-- What a decimal's call returns: a decimal, and an error's number. -/
structure Res where
  n : Bool
  l : Bs
  x : Int
  e : Int

def Res.val (r : Res) : Value := .tuple #[.agg #[.bool r.n, .string ⟨r.l.toArray⟩, .int .i64 r.x], .int .i64 r.e]

def lead (l : Bs) : Bs := Lib.trimLeftB l 48
def core (l : Bs) : Bs := Lib.trimRightB (lead l) 48
def tz (l : Bs) : Nat := (lead l).length - (core l).length

def mk (n : Bool) (l : Bs) (x : Int) : Res :=
  if allDig l = true then
    if core l = [] then ⟨n, [], 0, 0⟩
    else if right (core l) (x + tz l) = true then ⟨n, core l, x + tz l, 0⟩
    else ⟨false, [], 0, 2⟩
  else ⟨false, [], 0, 3⟩

theorem mk_bad {n : Bool} {l : Bs} {x : Int} (h : ¬ allDig l = true) : mk n l x = ⟨false, [], 0, 3⟩ := by rw [mk, if_neg h]
theorem mk_zero {n : Bool} {l : Bs} {x : Int} (h : allDig l = true) (h1 : core l = []) : mk n l x = ⟨n, [], 0, 0⟩ := by rw [mk, if_pos h, if_pos h1]
theorem mk_ok {n : Bool} {l : Bs} {x : Int} (h : allDig l = true) (h1 : core l ≠ []) (h2 : right (core l) (x + tz l) = true) : mk n l x = ⟨n, core l, x + tz l, 0⟩ := by rw [mk, if_pos h, if_neg h1, if_pos h2]
theorem mk_over {n : Bool} {l : Bs} {x : Int} (h : allDig l = true) (h1 : core l ≠ []) (h2 : ¬ right (core l) (x + tz l) = true) : mk n l x = ⟨false, [], 0, 2⟩ := by rw [mk, if_pos h, if_neg h1, if_neg h2]

theorem dropWhile_all (a r : Bs) (h : ∀ c ∈ a, c = 48) : (a ++ r).dropWhile (· == 48) = r.dropWhile (· == 48) :=
  List.dropWhile_append_of_pos (fun c hc => by simp [h c hc])
theorem dropWhile_head (b : Bs) (h : ∀ c, b[0]? = some c → c ≠ 48) : b.dropWhile (· == 48) = b := by
  cases b with
  | nil => rfl
  | cons c b => rw [List.dropWhile_cons_of_neg]; simpa using h c rfl

theorem tz_int (l : Bs) : (tz l : Int) = (lead l).length - (core l).length := by
  have : (core l).length ≤ (lead l).length := by
    rw [core, Lib.trimRightB, List.length_reverse]
    have := (List.dropWhile_sublist (· == 48) (l := (lead l).reverse)).length_le
    simpa using this
  unfold tz; omega

theorem core_split (l a b z : Bs) (hl : l = a ++ (b ++ z)) (ha : ∀ c ∈ a, c = 48) (hz : ∀ c ∈ z, c = 48) (hb : b ≠ []) (h1 : ∀ c, b[0]? = some c → c ≠ 48) (h2 : ∀ c, b[b.length - 1]? = some c → c ≠ 48) :
    lead l = b ++ z ∧ core l = b := by
  have e1 : lead l = b ++ z := by
    rw [lead, Lib.trimLeftB, hl, dropWhile_all _ _ ha]
    refine dropWhile_head _ fun c hc => h1 c ?_
    have : 0 < b.length := List.length_pos_iff.2 hb
    rwa [List.getElem?_append_left this] at hc
  refine ⟨e1, ?_⟩
  rw [core, e1, Lib.trimRightB, List.reverse_append, dropWhile_all _ _ (fun c hc => hz c (by simpa using hc)), dropWhile_head, List.reverse_reverse]
  intro c hc
  refine h2 c ?_
  have : 0 < b.length := List.length_pos_iff.2 hb
  rwa [List.getElem?_reverse this] at hc

theorem core_zero (l : Bs) (h : ∀ c ∈ l, c = 48) : core l = [] := by
  have : lead l = [] := by
    rw [lead, Lib.trimLeftB]; have := dropWhile_all l [] h; simpa using this
  rw [core, this]; rfl

theorem lead_mem {l : Bs} {c : UInt8} (h : c ∈ lead l) : c ∈ l := by
  rw [lead, Lib.trimLeftB] at h
  exact (List.dropWhile_sublist _).mem h
theorem core_mem {l : Bs} {c : UInt8} (h : c ∈ core l) : c ∈ l := by
  rw [core, Lib.trimRightB, List.mem_reverse] at h
  have := (List.dropWhile_sublist _).mem h
  exact lead_mem (by simpa using this)
theorem core_len (l : Bs) : (core l).length ≤ (lead l).length := by
  rw [core, Lib.trimRightB, List.length_reverse]
  have := (List.dropWhile_sublist (· == 48) (l := (lead l).reverse)).length_le
  simpa using this
theorem lead_len (l : Bs) : (lead l).length ≤ l.length := by
  rw [lead, Lib.trimLeftB]
  exact (List.dropWhile_sublist _).length_le
theorem tz_le (l : Bs) : tz l ≤ l.length := by have := lead_len l; unfold tz; omega

/-- The last sign of the core is no nought, nor is the first. -/
theorem dropWhile_get0 (l : Bs) (c : UInt8) (h : (l.dropWhile (· == 48))[0]? = some c) : c ≠ 48 := by
  induction l with
  | nil => simp at h
  | cons a l ih =>
    by_cases ha : a = 48
    · rw [List.dropWhile_cons_of_pos (by simpa using ha)] at h; exact ih h
    · rw [List.dropWhile_cons_of_neg (by simpa using ha)] at h
      simp at h; rw [← h]; exact ha
theorem core_last (l : Bs) (c : UInt8) (h : (core l)[(core l).length - 1]? = some c) : c ≠ 48 := by
  rw [core, Lib.trimRightB] at h
  generalize hd : (lead l).reverse.dropWhile (· == 48) = d at h
  have hd0 := fun c => dropWhile_get0 (lead l).reverse c
  rw [hd] at hd0
  cases d with
  | nil => simp at h
  | cons a d =>
    rw [List.getElem?_reverse (by simp)] at h
    exact hd0 c (by simpa using h)
theorem lead_core (l : Bs) (h : core l ≠ []) : ∃ z, lead l = core l ++ z ∧ ∀ c ∈ z, c = 48 := by
  have hs := List.takeWhile_append_dropWhile (p := (· == 48)) (l := (lead l).reverse)
  refine ⟨((lead l).reverse.takeWhile (· == 48)).reverse, ?_, ?_⟩
  · rw [core, Lib.trimRightB, ← List.reverse_append, hs, List.reverse_reverse]
  · intro c hc
    rw [List.mem_reverse] at hc
    have := List.all_eq_true.1 (List.all_takeWhile (l := (lead l).reverse) (p := (· == 48))) c hc
    simpa using this
theorem core_first (l : Bs) (c : UInt8) (hne : core l ≠ []) (h : (core l)[0]? = some c) : c ≠ 48 := by
  obtain ⟨z, hz, _⟩ := lead_core l hne
  have h2 : (lead l)[0]? = some c := by
    rw [hz, List.getElem?_append_left (List.length_pos_iff.2 hne)]; exact h
  rw [lead, Lib.trimLeftB] at h2
  exact dropWhile_get0 _ _ h2
theorem core_dig {l : Bs} (h : allDig l = true) : allDig (core l) = true := by
  rw [allDig, List.all_eq_true] at *
  exact fun c hc => h c (core_mem hc)

/-- Rightness of a core: the bounds alone. -/
theorem right_core {l : Bs} (x : Int) (h : allDig l = true) (hne : core l ≠ []) : right (core l) x = true ↔ ((core l).length ≤ 1100 ∧ -100000 ≤ x ∧ x ≤ 100000) := by
  constructor
  · intro hr; exact ⟨right_len hr, right_exp hr⟩
  · rintro ⟨a, b, c⟩
    exact right_true _ _ (List.length_pos_iff.2 hne) a b c (core_dig h) (fun e => core_first l _ hne e rfl) (fun e => core_last l _ e rfl)

/-- Far off: not right, whatever noughts are cut off. -/
theorem far_not {l : Bs} {x : Int} (hl : l.length ≤ 1000000000) (hne : core l ≠ []) (h : x < -1099511627776 ∨ 1099511627776 ≤ x) : ¬ right (core l) (x + tz l) = true ∧ ¬ right (core l) x = true := by
  have h1 := tz_le l
  exact ⟨fun hr => by have := right_exp hr; omega, fun hr => by have := right_exp hr; omega⟩

/-- Is it a nought's sign? -/
def is0 (c : UInt8) : Bool := c == 48
theorem is0_mem {l : Bs} (h : l.all is0 = true) : ∀ c ∈ l, c = 48 := by
  intro c hc
  have := List.all_eq_true.1 h c hc
  simpa [is0] using this
theorem is0_iff (c : UInt8) : is0 c = true ↔ (c.toNat : Int) = 48 := by
  constructor
  · intro h; have : c = 48 := by simpa [is0] using h
    rw [this]; rfl
  · intro h; have : c = 48 := u8_of_int (by simpa using h)
    rw [this]; rfl

theorem cut_core_zero (l : Bs) (f : Nat) (h1 : (l.take f).all is0 = true) (h2 : (l.drop f).all is0 = true) : core l = [] := by
  refine core_zero l fun c hc => ?_
  rw [← List.take_append_drop f l] at hc
  rcases List.mem_append.1 hc with h | h
  · exact is0_mem h1 c h
  · exact is0_mem h2 c h

theorem cut_core (s : ByteArray) (f t : Nat) (hft : f < t) (hts : t ≤ s.size) (h1 : (s.data.toList.take f).all is0 = true) (h2 : (s.data.toList.drop t).all is0 = true)
    (h3 : ¬ (s[f].toNat : Int) = 48) (h4 : ¬ (s[t - 1].toNat : Int) = 48) : core s.data.toList = (s.extract f t).data.toList ∧ (tz s.data.toList : Int) = s.size - t := by
  have hl : s.data.toList.length = s.size := by simp
  have hb : (s.extract f t).data.toList = (s.data.toList.drop f).take (t - f) := Lib.extract_data s f t
  have hlen : ((s.data.toList.drop f).take (t - f)).length = t - f := by rw [List.length_take, List.length_drop, hl]; omega
  have hsp : s.data.toList = s.data.toList.take f ++ ((s.data.toList.drop f).take (t - f) ++ s.data.toList.drop t) := by
    have e1 := List.take_append_drop f s.data.toList
    have e2 := List.take_append_drop (t - f) (s.data.toList.drop f)
    rw [List.drop_drop, show f + (t - f) = t by omega] at e2
    rw [e2, e1]
  have hg : ∀ i, i < t - f → ((s.data.toList.drop f).take (t - f))[i]? = s.data.toList[f + i]? := fun i hi => by
    rw [List.getElem?_take_of_lt hi, List.getElem?_drop]
  obtain ⟨c1, c2⟩ := core_split s.data.toList (s.data.toList.take f) ((s.data.toList.drop f).take (t - f)) (s.data.toList.drop t) hsp (is0_mem h1) (is0_mem h2)
    (by intro e; rw [e] at hlen; simp at hlen; omega)
    (fun c hc => by
      rw [hg 0 (by omega), Nat.add_zero, get?_bytes s f (by omega)] at hc
      intro e; exact h3 (by rw [Option.some.inj hc, e]; rfl))
    (fun c hc => by
      rw [hlen, hg (t - f - 1) (by omega), show f + (t - f - 1) = t - 1 by omega, get?_bytes s (t - 1) (by omega)] at hc
      intro e; exact h4 (by rw [Option.some.inj hc, e]; rfl))
  refine ⟨by rw [c2, hb], ?_⟩
  rw [tz_int, c1, c2, List.length_append, hlen, List.length_drop, hl]; omega

end Go.Proofs.YtjnkbifafbjckaaGreatDoor.Dc
