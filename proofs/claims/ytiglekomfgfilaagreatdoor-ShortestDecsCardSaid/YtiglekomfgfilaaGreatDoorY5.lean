/- Shl. -/
import Derived.Test.YtiglekomfgfilaaGreatDoorY4
import Derived.Lib.ItoaNum
import Derived.Lib.RepeatB
import Derived.Lib.AppendIntMem
import Derived.Test.YtiglekomfgfilaaGreatDoorRows
import Derived.ProofKit
import Derived.Lib.LaidTab
import Derived.Lib.AtoiAll
import Derived.Lib.SlTrimSet
namespace Go.Proofs.YtiglekomfgfilaaGreatDoor
set_option maxRecDepth 100000
set_option maxHeartbeats 1000000
set_option linter.all false
open Go.RowKit
theorem na_over1_any {w : World} {a : Option Addr} {c : Nat} {l : List Nat} (h : Sl w a c l) (hn : l.length ≤ 1000000) (r : Bool) (hr : Na.big l = r) :
    Calls Tryz.prog 112 #[.slice (some ⟨w.heap.size, 0, none⟩) 1 1] (w.alloc (Obj.cells #[Value.slice a l.length c] 100)) (Ret0 (.bool r) (w.alloc (Obj.cells #[Value.slice a l.length c] 100))) := by
  have hB : Below w.heap.size w (w.alloc (Obj.cells #[Value.slice a l.length c] 100)) := (Below.refl _ _).alloc (Nat.le_refl _) _
  have hA : Args (w.alloc (Obj.cells #[Value.slice a l.length c] 100)) w.heap.size [⟨a, c, l⟩] := by
    intro k hk
    match k, hk with
    | 0, _ =>
      refine ⟨?_, h.on hB, hn⟩
      show (match (w.heap.push _)[w.heap.size]? with | some (.cells c _ _) => if (none : Option Nat).isSome then none else c[0]? | _ => none) = _
      simp
  have := na_over_any [⟨a, c, l⟩] w.heap.size _ hA (by simp)
  have e : ([⟨a, c, l⟩] : List Arg).any (fun x => Na.big x.l) = r := by rw [← hr]; simp
  rw [e] at this; exact this
theorem gives_nil {q : List Nat × Int} {w w' : World} (e : Int) (hq : q = ([], e)) (hb : Below w.heap.size w w') : GivesE q w (.returned (.tuple #[.slice none 0 0, .int .i64 e])) w' := by
  rw [hq]; exact ⟨none, 0, rfl, Sl.nil _ _ _, Own.nil _ _ _, hb⟩
section
variable (a : Option Addr) (c : Nat) (l : List Nat) (n : Int) (w : World) (h : Sl w a c l) (hn : l.length ≤ 1000000) (hi : -9223372036854775808 ≤ n ∧ n ≤ 9223372036854775807)
include h hn hi
theorem na_shl_arg (h0 : n < 0) : Calls Tryz.prog 90 #[.slice a l.length c, .int .i64 n] w (GivesE (Na.shl l n) w) := by
  have e := Lib.hid (gives_nil 1 (show Na.shl l n = ([], 1) from if_pos h0) (Below.refl w.heap.size w))
  go_enter Tryz.func90, Tryz.ntmps90
  go_wp2
  refine bodyPost_ret (v := .tuple #[.slice none 0 0, .int .i64 1]) (by simp [results, Tryz.results90, go_sem]) rfl e.out
theorem na_shl_big (h0 : 0 ≤ n) (hb : Na.big l = true) : Calls Tryz.prog 90 #[.slice a l.length c, .int .i64 n] w (GivesE (Na.shl l n) w) := by
  have hB : Below w.heap.size w (w.alloc (Obj.cells #[Value.slice a l.length c] 100)) := (Below.refl _ _).alloc (Nat.le_refl _) _
  have e := Lib.hid (gives_nil 2 (show Na.shl l n = ([], 2) by rw [Na.shl, if_neg (by omega), if_pos hb]) hB)
  have H1 := Lib.hid (na_over1_any h hn true hb)
  clear hb
  go_enter Tryz.func90, Tryz.ntmps90
  go_wp2_with (first | (go_at_call 112; (with_reducible refine (H1.out).mono ?_); rintro e w' ⟨rfl, rfl⟩))
  refine bodyPost_ret (v := .tuple #[.slice none 0 0, .int .i64 2]) (by simp [results, Tryz.results90, go_sem]) rfl e.out
theorem na_shl_zero (h0 : 0 ≤ n) (hb : Na.big l = false) (hz : Na.val l = 0) : Calls Tryz.prog 90 #[.slice a l.length c, .int .i64 n] w (GivesE (Na.shl l n) w) := by
  have hB : Below w.heap.size w (w.alloc (Obj.cells #[Value.slice a l.length c] 100)) := (Below.refl _ _).alloc (Nat.le_refl _) _
  have e := Lib.hid (gives_nil 0 (show Na.shl l n = ([], 0) by rw [Na.shl, if_neg (by omega), hb, if_neg (by simp), if_pos hz]) hB)
  have H1 := Lib.hid (na_over1_any h hn false hb)
  have hr : Na.rt l = 0 := by rw [Na.rt, (Na.cut_nil_iff l).2 hz]; rfl
  have H2 := na_right_any a c l _ (h.on hB) hn
  rw [hr] at H2
  have H2' := Lib.hid (show Calls Tryz.prog 113 #[.slice a l.length c] (w.alloc (Obj.cells #[Value.slice a l.length c] 100)) (Ret0 (.int .i64 0) (w.alloc (Obj.cells #[Value.slice a l.length c] 100))) from H2)
  clear hb H2 hr
  go_enter Tryz.func90, Tryz.ntmps90
  go_wp2_with (first | (go_at_call 112; (with_reducible refine (H1.out).mono ?_); rintro e w' ⟨rfl, rfl⟩) | (go_at_call 113; (with_reducible refine (H2'.out).mono ?_); rintro e w' ⟨rfl, rfl⟩))
  refine bodyPost_ret (v := .tuple #[.slice none 0 0, .int .i64 0]) (by simp [results, Tryz.results90, go_sem]) rfl e.out
theorem na_shl_over (h0 : 0 ≤ n) (hb : Na.big l = false) (hz : Na.val l ≠ 0) (ho : 8192 < n ∨ 8192 < (Na.bitLen (Na.val l) : Int) + n) : Calls Tryz.prog 90 #[.slice a l.length c, .int .i64 n] w (GivesE (Na.shl l n) w) := by
  have hB : Below w.heap.size w (w.alloc (Obj.cells #[Value.slice a l.length c] 100)) := (Below.refl _ _).alloc (Nat.le_refl _) _
  have e := Lib.hid (gives_nil 2 (show Na.shl l n = ([], 2) by rw [Na.shl, if_neg (by omega), hb, if_neg (by simp), if_neg hz, if_pos ho]) hB)
  have H1 := Lib.hid (na_over1_any h hn false hb)
  have hr : Na.rt l ≠ 0 := fun e => hz ((Na.cut_nil_iff l).1 (List.eq_nil_of_length_eq_zero e))
  have H2 := na_right_any a c l _ (h.on hB) hn
  obtain ⟨rm, hrm⟩ : ∃ x, x = Na.rt l := ⟨_, rfl⟩
  rw [← hrm] at H2 hr
  have hr0 : ((rm : Int) == 0) = false := by simpa using hr
  have H2' := Lib.hid H2
  have H3 := na_len_any a c l _ (h.on hB) hn
  have hbl : Na.bitLen (Na.val l) ≤ 40000000 := by
    rw [Na.bitLen, if_neg hz]
    have h1 := Na.val_lt l h.ok
    rw [show Na.B ^ l.length = 2 ^ (32 * l.length) by rw [Nat.pow_mul]] at h1
    have := (Nat.log2_lt hz).2 h1
    omega
  obtain ⟨bl, hbe⟩ : ∃ x, x = Na.bitLen (Na.val l) := ⟨_, rfl⟩
  rw [← hbe] at H3 hbl ho
  have H3' := Lib.hid H3
  clear hb H2 hr H3 hbe hrm
  by_cases h1 : 8192 < n
  · clear ho
    go_enter Tryz.func90, Tryz.ntmps90
    go_wp2_with (first | (go_at_call 112; (with_reducible refine (H1.out).mono ?_); rintro e w' ⟨rfl, rfl⟩) | (go_at_call 113; (with_reducible refine (H2'.out).mono ?_); rintro e w' ⟨rfl, rfl⟩))
    refine bodyPost_ret (v := .tuple #[.slice none 0 0, .int .i64 2]) (by simp [results, Tryz.results90, go_sem]) rfl e.out
  · have h2 : 8192 < (bl : Int) + n := by omega
    clear ho
    go_enter Tryz.func90, Tryz.ntmps90
    go_wp2_with (first | (go_at_call 112; (with_reducible refine (H1.out).mono ?_); rintro e w' ⟨rfl, rfl⟩) | (go_at_call 113; (with_reducible refine (H2'.out).mono ?_); rintro e w' ⟨rfl, rfl⟩) | (go_at_call 114; (with_reducible refine (H3'.out).mono ?_); rintro e w' ⟨rfl, rfl⟩))
    refine bodyPost_ret (v := .tuple #[.slice none 0 0, .int .i64 2]) (by simp [results, Tryz.results90, go_sem]) rfl e.out
end
end Go.Proofs.YtiglekomfgfilaaGreatDoor

/- make of a list of limbs, as one law without the type's row in the context. -/
namespace Go.Proofs.YtiglekomfgfilaaGreatDoor
set_option linter.all false
open Go.RowKit
theorem mk_u32 {w : World} {ops : Array Oper} {rest : List Oper} {o : Oper} {a : Act} {Q : Exit → Act → World → Prop} (hg : o.guard = none) (l c : Operand) (hop : o.op = Op.makeSlice 100 l c)
    (L C : Int) (n : Nat) (hl : a.eval l = .int .i64 L) (hc : a.eval c = .int .i64 C) (hL : L = (n : Int)) (hC : C = (n : Int)) (hn : n ≤ 1000000)
    (hK : ∀ w', Hid (Blk w' w.heap.size (List.replicate n 0)) → Hid (∀ B w0, Below B w0 w → B ≤ w.heap.size → Below B w0 w') → wpList Tryz.prog ops Q rest (a.put o.dst (.slice (some ⟨w.heap.size, 0, none⟩) n n)) w') :
    wpList Tryz.prog ops Q (o :: rest) a w := by
  obtain ⟨ti, hi, hz0, hz1, hz2⟩ := info_parts infoU32
  refine wpList_make_full w hg l c 100 hop w.heap.size 81 ti (.int .u32 0) 1 Tryz.underlying100 hi hz0 hz1 .i64 .i64 L C n hl hc hL hC (by rw [hz2]; omega) (by unfold maxLen; omega) (Nat.le_refl _) fun w' h1 h2 => hK w' (Lib.hid ?_) (Lib.hid fun B w0 hb hB => hb.grown h2 hB (fun k e => by cases e))
  exact Blk.made (by simpa [Value.cells] using h1)
end Go.Proofs.YtiglekomfgfilaaGreatDoor

/- Shl, the main way. -/
namespace Go.Proofs.YtiglekomfgfilaaGreatDoor
set_option maxRecDepth 100000
set_option maxHeartbeats 2000000
set_option linter.all false
open Go.RowKit
def ShiftR (g off N s : Nat) (O q : List Nat) (w : World) (e : Ending) (w' : World) : Prop := e = .returned (.tuple #[]) ∧ Below g w w' ∧ ∃ o', Blk w' g o' ∧ o'.length = off + N ∧ Na.OK o' ∧ o'.take off = O.take off ∧ ∃ cc, Na.val (o'.drop off) + Na.B ^ N * cc = Na.val (q.take N) * 2 ^ s
theorem na_shl_main (a : Option Addr) (c : Nat) (l : List Nat) (n : Nat) (w : World) (h : Sl w a c l) (hn : l.length ≤ 1000000) (hb : Na.big l = false) (hz : Na.val l ≠ 0) (ho : n ≤ 8192 ∧ Na.bitLen (Na.val l) + n ≤ 8192) :
    Calls Tryz.prog 90 #[.slice a l.length c, .int .i64 n] w (GivesE (Na.shl l n) w) := by
  have hB : Below w.heap.size w (w.alloc (Obj.cells #[Value.slice a l.length c] 100)) := (Below.refl _ _).alloc (Nat.le_refl _) _
  have e2 := Lib.hid (show Na.shl l n = (Na.limbs (Na.val l * 2 ^ n), 0) by rw [Na.shl, if_neg (by omega), hb, if_neg (by simp), if_neg hz, if_neg (by omega), Int.toNat_natCast])
  have H1 := Lib.hid (na_over1_any h hn false hb)
  have hr : Na.rt l ≠ 0 := fun e => hz ((Na.cut_nil_iff l).1 (List.eq_nil_of_length_eq_zero e))
  have H2 := na_right_any a c l _ (h.on hB) hn
  obtain ⟨rm, hrm⟩ : ∃ x, x = Na.rt l := ⟨_, rfl⟩
  rw [← hrm] at H2 hr
  have hr0 : ((rm : Int) == 0) = false := by simpa using hr
  have H2' := Lib.hid H2
  have H3 := na_len_any a c l _ (h.on hB) hn
  obtain ⟨bl, hbe⟩ : ∃ x, x = Na.bitLen (Na.val l) := ⟨_, rfl⟩
  rw [← hbe] at H3 ho
  have H3' := Lib.hid H3
  have H4 := na_cut_any a c l _ (h.on hB) hn
  have hl1 : (Na.cut l).length ≤ 256 := Nat.le_of_not_lt (of_decide_eq_false hb)
  have S1 := h.cut
  have V1 := Lib.hid (Na.val_cut (a := l))
  obtain ⟨q, hq⟩ : ∃ q, q = Na.cut l := ⟨_, rfl⟩
  rw [← hq] at H4 hl1 S1 V1
  obtain ⟨ln, hqn⟩ : ∃ n, q.length = n := ⟨_, rfl⟩
  rw [hqn] at H4 hl1
  have HQ := Lib.hid hqn
  have H4' := Lib.hid H4
  obtain ⟨p, hp⟩ : ∃ p, p = n / 32 := ⟨_, rfl⟩
  obtain ⟨s, hs⟩ : ∃ s, s = n % 32 := ⟨_, rfl⟩
  have hpi : (n : Int) / 32 = (p : Int) := by omega
  have hsi : (n : Int) % 32 = (s : Int) := by omega
  have hs2 : s < 32 := by omega
  have hp2 : p ≤ 256 := by omega
  have HN := Lib.hid (show n = 32 * p + s by omega)
  obtain ⟨ho1, ho2⟩ := ho
  have ho3 : ¬ 8192 < (bl : Int) + n := by omega
  have ho4 : ¬ 8192 < (n : Int) := by omega
  have ho5 : bl ≤ 8192 := by omega
  clear hb hz H2 hr H3 H4 hbe hrm hq hqn hp hs ho2
  go_enter Tryz.func90, Tryz.ntmps90
  go_wp2_with (first | (go_at_call 112; (with_reducible refine (H1.out).mono ?_); rintro e w' ⟨rfl, rfl⟩) | (go_at_call 113; (with_reducible refine (H2'.out).mono ?_); rintro e w' ⟨rfl, rfl⟩) | (go_at_call 114; (with_reducible refine (H3'.out).mono ?_); rintro e w' ⟨rfl, rfl⟩) | (go_at_call 115; (with_reducible refine (H4'.out).mono ?_); rintro e w' ⟨rfl, rfl⟩) | (at_make; refine mk_u32 rfl _ _ rfl _ _ (p + ln + 1) rfl rfl rfl rfl (by omega) ?_))
  intro w1 hK hgrow
  have HB1 := Lib.hid (hgrow.out _ _ hB (by simp [World.size_alloc]))
  have hK' := Lib.hid (show Blk w1 (w.heap.size + 1) (List.replicate (p + ln + 1) 0) by have := hK.out; simpa [World.size_alloc] using this)
  clear hgrow hB hK
  have hsh : Calls Tryz.prog 116 #[.slice (some ⟨w.heap.size + 1, p, none⟩) (p + ln + 1 - p) (p + ln + 1 - p), .slice a ln c, .int .i64 s] w1 (ShiftR (w.heap.size + 1) p (ln + 1) s (List.replicate (p + ln + 1) 0) q w1) := by
    rw [show p + ln + 1 - p = ln + 1 by omega]
    have := na_shift_any (w.heap.size + 1) p (ln + 1) (ln + 1) s c (List.replicate (p + ln + 1) 0) q a w1 hK'.out (by intro x hx; rw [List.eq_of_mem_replicate hx]; decide) (by simp; omega) (fun wr hb => S1.on (HB1.out.trans (hb.mono (by omega)))) hs2 (by have := HQ.out; omega) (by omega)
    rw [HQ.out] at this; exact this
  have HSH := Lib.hid hsh
  have HCUT := Lib.hid (fun w2 (e : Ending) (hr : ShiftR (w.heap.size + 1) p (ln + 1) s (List.replicate (p + ln + 1) 0) q w1 e w2) => (by
    obtain ⟨_, hb2, o', hk2, hl2, hok2, htk, cc, hval⟩ := hr
    have hb3 : Below w.heap.size w w2 := HB1.out.trans (hb2.mono (by omega))
    have hv : Na.val o' = Na.val l * 2 ^ n := by
      have hq1 : Na.val (q.take (ln + 1)) = Na.val l := by rw [List.take_of_length_le (by rw [HQ.out]; omega), V1.out]
      have hlt : Na.val l * 2 ^ s < Na.B ^ (ln + 1) := by
        have h1 := Na.val_lt q S1.ok
        rw [V1.out, HQ.out] at h1
        have h2 : 2 ^ s ≤ Na.B := Nat.le_trans (Nat.pow_le_pow_right (by decide) (show s ≤ 32 by omega)) (by decide)
        rw [Nat.pow_succ]
        exact Nat.lt_of_lt_of_le (Nat.mul_lt_mul_of_pos_right h1 (Nat.pow_pos (by decide))) (Nat.mul_le_mul_left _ h2)
      rw [hq1] at hval
      refine Na.shl_val o' [Na.val l] p s (ln + 1) cc _ ?_ (by omega) (by rw [hval]; simp [Na.val]) (by simpa [Na.val] using hlt) (by rw [HN.out]; simp [Na.val])
      rw [htk, List.take_replicate, Na.val_zeros]
    have hcut : Na.cut o' = Na.limbs (Na.val l * 2 ^ n) := by rw [Na.cut, hv]
    have hs3 := hk2.sl hok2 (c := p + ln + 1) (by omega)
    have hc := na_cut_any (some ⟨w.heap.size + 1, 0, none⟩) (p + ln + 1) o' w2 hs3 (by omega)
    have hs4 := hs3.cut
    rw [hl2, hcut] at hc
    rw [hcut] at hs4
    exact ⟨hc, hs4, hk2.own (by omega), hb3⟩ : Calls Tryz.prog 115 #[.slice (some ⟨w.heap.size + 1, 0, none⟩) (p + ln + 1) (p + ln + 1)] w2 (Ret0 (.slice (some ⟨w.heap.size + 1, 0, none⟩) (Na.limbs (Na.val l * 2 ^ n)).length (p + ln + 1)) w2) ∧
      Sl w2 (some ⟨w.heap.size + 1, 0, none⟩) (p + ln + 1) (Na.limbs (Na.val l * 2 ^ n)) ∧ Own w2 w.heap.size (some ⟨w.heap.size + 1, 0, none⟩) (Na.limbs (Na.val l * 2 ^ n)).length ∧ Below w.heap.size w w2))
  clear hsh
  go_wp2_with (first | (go_at_call 116; (with_reducible refine (HSH.out).mono ?_); intro e w2 hr; have HX := Lib.hid (HCUT.out w2 e hr); obtain ⟨rfl, -⟩ := hr) | (go_at_call 115; (with_reducible refine (HX.out.1).mono ?_); rintro e w' ⟨rfl, rfl⟩))
  refine bodyPost_ret (v := .tuple #[.slice (some ⟨w.heap.size + 1, 0, none⟩) (Na.limbs (Na.val l * 2 ^ n)).length (p + ln + 1), .int .i64 0]) (by simp [results, Tryz.results90, go_sem]) rfl (by rw [e2.out]; exact ⟨_, _, rfl, HX.out.2.1, HX.out.2.2.1, HX.out.2.2.2⟩)
theorem na_shl_any (a : Option Addr) (c : Nat) (l : List Nat) (n : Int) (w : World) (h : Sl w a c l) (hn : l.length ≤ 1000000) (hi : -9223372036854775808 ≤ n ∧ n ≤ 9223372036854775807) :
    Calls Tryz.prog 90 #[.slice a l.length c, .int .i64 n] w (GivesE (Na.shl l n) w) := by
  by_cases h0 : n < 0
  · exact na_shl_arg a c l n w h hn hi h0
  · cases hb : Na.big l with
    | true => exact na_shl_big a c l n w h hn hi (by omega) hb
    | false =>
      by_cases hz : Na.val l = 0
      · exact na_shl_zero a c l n w h hn hi (by omega) hb hz
      · by_cases ho : 8192 < n ∨ 8192 < (Na.bitLen (Na.val l) : Int) + n
        · exact na_shl_over a c l n w h hn hi (by omega) hb hz ho
        · obtain ⟨n', rfl⟩ : ∃ x : Nat, n = x := ⟨n.toNat, by omega⟩
          exact na_shl_main a c l n' w h hn hb hz (by omega)
end Go.Proofs.YtiglekomfgfilaaGreatDoor

/- Plain Lean: a number's digits, nine at a time. -/
namespace Go.Proofs.YtiglekomfgfilaaGreatDoor.Na
set_option linter.all false
open Go
def padk : Nat → Nat → List UInt8
  | 0, _ => []
  | k + 1, r => padk k (r / 10) ++ [UInt8.ofNat (48 + r % 10)]
theorem dec_app (v : Nat) (hv : v ≠ 0) (k : Nat) : ∀ r, r < 10 ^ k → Lib.decDigits (v * 10 ^ k + r) = Lib.decDigits v ++ padk k r := by
  induction k with
  | zero =>
    intro r hr
    have h0 : r = 0 := by rw [Nat.pow_zero] at hr; omega
    rw [h0]; simp [padk]
  | succ k ih =>
    intro r hr
    rw [Nat.pow_succ] at hr
    have h1 : 10 * 10 ^ k ≤ v * 10 ^ (k + 1) := by
      rw [Nat.pow_succ, Nat.mul_comm (10 ^ k) 10]
      exact Nat.le_mul_of_pos_left _ (by omega)
    have h2 : 0 < 10 ^ k := Nat.pow_pos (by decide)
    rw [Lib.decDigits, dif_neg (by omega)]
    have e : v * 10 ^ (k + 1) + r = 10 * (v * 10 ^ k) + r := by rw [Nat.pow_succ, ← Nat.mul_assoc, Nat.mul_comm _ 10]
    have e1 : (v * 10 ^ (k + 1) + r) / 10 = v * 10 ^ k + r / 10 := by omega
    have e2 : (v * 10 ^ (k + 1) + r) % 10 = r % 10 := by omega
    rw [e1, e2, ih (r / 10) (by omega), padk, List.append_assoc]
theorem padk_eq (k : Nat) : ∀ r, r < 10 ^ (k + 1) → padk (k + 1) r = List.replicate (k + 1 - (Lib.decDigits r).length) 48 ++ Lib.decDigits r ∧ (Lib.decDigits r).length ≤ k + 1 := by
  induction k with
  | zero => intro r hr; rw [Lib.decDigits, dif_pos (by simpa using hr)]; simp [padk, Nat.mod_eq_of_lt (show r < 10 by simpa using hr)]
  | succ k ih =>
    intro r hr
    by_cases h : r < 10
    · rw [Lib.decDigits, dif_pos h]
      obtain ⟨e, _⟩ := ih (r / 10) (Nat.lt_of_lt_of_le (show r / 10 < 1 by omega) (Nat.one_le_pow _ _ (by decide)))
      rw [padk, e, show r / 10 = 0 by omega, Lib.decDigits, dif_pos (by decide), Nat.mod_eq_of_lt h]
      refine ⟨?_, by simp⟩
      rw [show k + 1 + 1 - [UInt8.ofNat (48 + r)].length = k + 1 - [UInt8.ofNat (48 + 0)].length + 1 by simp, List.replicate_succ']
      simp
    · rw [Nat.pow_succ] at hr
      obtain ⟨e, hl⟩ := ih (r / 10) (by omega)
      rw [Lib.decDigits, dif_neg h, padk, e, List.length_append, List.length_singleton]
      exact ⟨by rw [show k + 1 + 1 - ((Lib.decDigits (r / 10)).length + 1) = k + 1 - (Lib.decDigits (r / 10)).length by omega, List.append_assoc], by omega⟩
theorem dig_step (v : Nat) (hv : v / 1000000000 ≠ 0) : Lib.decDigits v = Lib.decDigits (v / 1000000000) ++ (List.replicate (9 - (Lib.decDigits (v % 1000000000)).length) 48 ++ Lib.decDigits (v % 1000000000)) := by
  have h1 : v % 1000000000 < 10 ^ 9 := Nat.mod_lt _ (by decide)
  rw [← (padk_eq 8 _ h1).1, ← dec_app _ hv 9 _ h1]
  congr 1
  have := Nat.div_add_mod v 1000000000
  omega
theorem dig_len (v : Nat) : (Lib.decDigits (v % 1000000000)).length ≤ 9 := (padk_eq 8 _ (Nat.mod_lt _ (by decide))).2
theorem rep48 (m : Nat) : Lib.repeatL [48] m = List.replicate m 48 := by
  induction m with
  | zero => rfl
  | succ m ih => rw [Lib.repeatL, ih, List.replicate_succ]; rfl
end Go.Proofs.YtiglekomfgfilaaGreatDoor.Na

/- Digits. -/
namespace Go.Proofs.YtiglekomfgfilaaGreatDoor
set_option maxRecDepth 100000
set_option maxHeartbeats 2000000
set_option linter.all false
open Go.RowKit
def Tab (w : World) : Prop := Lib.TabBelow Tryz.prog w.heap.size w "internal/strconv.uint64pow10" .u64 Lib.pow10Tab
theorem Tab.on {w w1 : World} (h : Tab w) (hb : Below w.heap.size w w1) : Lib.TabIs Tryz.prog w1 "internal/strconv.uint64pow10" .u64 Lib.pow10Tab := h w1 hb
theorem Tab.below {w w1 : World} (h : Tab w) (hb : Below w.heap.size w w1) : Tab w1 := fun w' hb' => h w' (hb.trans (hb'.mono hb.size))
theorem itoa_any (n : Int) (w : World) (h0 : -9223372036854775808 ≤ n) (h1 : n ≤ 9223372036854775807) (ht : Lib.TabIs Tryz.prog w "internal/strconv.uint64pow10" .u64 Lib.pow10Tab) :
    Calls Tryz.prog 75 #[.int .i64 n] w (RetB (.string ⟨(Lib.itoa n).toArray⟩) w) :=
  (Tryz.strconv_Itoa n h0 h1 w ht).mono fun e w' he => ⟨he.1, by obtain ⟨k, os, e⟩ := he.2; rw [e]; exact Lib.below_grow _ w (Nat.le_refl _) k os⟩
theorem Dc_app (a b : ByteArray) : (a ++ b).data.toList = a.data.toList ++ b.data.toList := by simp
def digLoop (N g : Nat) (w : World) (rv sv : Value) (wr : World) : Prop := ∃ (v cap : Nat) (S : ByteArray) (o : List Nat), rv = .slice (some ⟨g, 0, none⟩) (Na.limbs v).length cap ∧ (Na.limbs v).length ≤ cap ∧ sv = .string S ∧ Hid (Blk wr g o) ∧ Hid (Na.OK o) ∧ Hid ((Na.limbs v).length ≤ o.length) ∧ (Na.limbs v).length ≤ 1000000 ∧ Hid (o.length ≤ cap) ∧
  Hid (o.take (Na.limbs v).length = Na.limbs v) ∧ Hid (if v = 0 then S.data.toList = Lib.decDigits N else Lib.decDigits N = Lib.decDigits v ++ S.data.toList) ∧ Hid (Below w.heap.size w wr)
def strLen : Value → Nat
  | .string s => s.size
  | _ => 0
theorem dec_len_le (l : List Nat) (h : Na.OK l) : (Lib.decDigits (Na.val l)).length ≤ 10 * l.length + 1 := by
  have h1 := Na.val_lt l h
  have h2 : Na.B ^ l.length ≤ 10 ^ (10 * l.length) := by rw [Nat.pow_mul]; exact Nat.pow_le_pow_left (by decide) _
  exact (Na.padk_eq (10 * l.length) _ (Nat.lt_of_lt_of_le h1 (Nat.le_trans h2 (Nat.pow_le_pow_right (by decide) (by omega))))).2
theorem na_digits_zero (a : Option Addr) (c : Nat) (l : List Nat) (w : World) (h : Sl w a c l) (hn : l.length ≤ 1000000) (hz : Na.val l = 0) :
    Calls Tryz.prog 95 #[.slice a l.length c] w (RetB (.string ⟨(Lib.decDigits (Na.val l)).toArray⟩) w) := by
  have H1 := na_trim_any a c l w h hn
  have e1 : Na.cut l = [] := (Na.cut_nil_iff l).2 hz
  rw [e1] at H1
  have H1' := Lib.hid (show Calls Tryz.prog 96 #[.slice a l.length c] w (GivesB [] w) from H1)
  have e2 := Lib.hid (show (⟨(Lib.decDigits (Na.val l)).toArray⟩ : ByteArray) = ⟨#[48]⟩ by rw [hz, Lib.decDigits, dif_pos (by decide)]; rfl)
  clear H1 e1 hz
  go_enter Tryz.func95, Tryz.ntmps95
  go_wp2_with (first | (go_at_call 96; (with_reducible refine (H1'.out).mono ?_); rintro e w1 ⟨g, rfl, hg, hk, hb⟩))
  go_ret
  exact RetB.of (by rw [e2.out]; rfl) hb
theorem na_digits_pos (a : Option Addr) (c : Nat) (l : List Nat) (w : World) (h : Sl w a c l) (hn : l.length ≤ 1000000) (hz : Na.val l ≠ 0) (ht : Tab w) :
    Calls Tryz.prog 95 #[.slice a l.length c] w (RetB (.string ⟨(Lib.decDigits (Na.val l)).toArray⟩) w) := by
  have H1 := Lib.hid (na_trim_any a c l w h hn)
  have hlen : (Na.cut l).length ≤ 1000000 := Nat.le_trans (Na.rt_le h.ok).1 hn
  have hdl := dec_len_le l h.ok
  have hpos : 0 < (Na.cut l).length := by
    rcases Nat.eq_zero_or_pos (Na.cut l).length with e | e
    · exact absurd ((Na.cut_nil_iff l).1 (List.eq_nil_of_length_eq_zero e)) hz
    · exact e
  obtain ⟨N, hN⟩ : ∃ N, N = Na.val l := ⟨_, rfl⟩
  have hcut : Na.cut l = Na.limbs N := by rw [hN]; rfl
  rw [hcut] at H1 hlen hpos
  rw [← hN] at hdl hz ⊢
  obtain ⟨L, hL⟩ : ∃ L, L = (Lib.decDigits N).length := ⟨_, rfl⟩
  rw [← hL] at hdl
  have hL2 : L ≤ 20000000 := by omega
  have HL := Lib.hid hL
  have HZ := Lib.hid hz
  have HT := Lib.hid ht
  have hz0 : (((Na.limbs N).length : Int) == 0) = false := by simp only [beq_eq_false_iff_ne, ne_eq]; omega
  clear hN hcut hL hz ht hdl
  go_enter Tryz.func95, Tryz.ntmps95
  go_wp2_with (first | (go_at_call 96; (with_reducible refine (H1.out).mono ?_); rintro e w1 ⟨g, rfl, hg, hk, hb⟩))
  have HK := Lib.hid hk; have HB := Lib.hid hb
  clear hk hb H1
  go_loopw [3, 4] (digLoop N g w) (fun _ s _ => L + 1 - strLen s)
  case atStart => exact ⟨N, (Na.limbs N).length, ⟨#[]⟩, Na.limbs N, rfl, Nat.le_refl _, rfl, HK, Lib.hid (Na.ok_limbs N), Lib.hid (Nat.le_refl _), hlen, Lib.hid (Nat.le_refl _), Lib.hid (List.take_length), Lib.hid (by rw [if_neg HZ.out]; simp), HB⟩
  case round =>
    clear HK HB hlen hpos
    obtain ⟨v, cap, S, o, rfl, hcap, rfl, HBl, HOk, HOl, hlen, HOc, HTk, HInv, HBe⟩ := hrel
    by_cases hv : v = 0
    · subst hv
      have HE := Lib.hid (show (⟨(Lib.decDigits N).toArray⟩ : ByteArray) = S by have := HInv.out; rw [if_pos rfl] at this; rw [← this])
      have e0 := Lib.hid (show (Na.limbs 0).length = 0 by rw [Na.limbs_zero]; rfl)
      rw [e0.out]
      go_wp2_with fail
      go_ret
      exact RetB.of (by rw [HE.out]; rfl) HBe.out
    · have hpos : 0 < (Na.limbs v).length := by
        rcases Nat.eq_zero_or_pos (Na.limbs v).length with e | e
        · exact absurd (Na.limbs_nil.1 (List.eq_nil_of_length_eq_zero e)) hv
        · exact e
      have hinv := HInv.out
      rw [if_neg hv] at hinv
      have hS := congrArg List.length hinv
      rw [List.length_append, bs_length, ← HL.out] at hS
      obtain ⟨r, hr⟩ : ∃ r, r = v % 1000000000 := ⟨_, rfl⟩
      obtain ⟨u, hu⟩ : ∃ u, u = v / 1000000000 := ⟨_, rfl⟩
      have hrl : r < 1000000000 := by rw [hr]; exact Nat.mod_lt _ (by decide)
      have hsh := na_short_any g (Na.limbs v).length cap 1000000000 o wr HBl.out HOk.out HOl.out hlen (by decide) (by decide)
      rw [HTk.out, Na.val_limbs, ← hr, ← hu] at hsh
      have HSH := Lib.hid (show Calls Tryz.prog 120 #[.slice (some ⟨g, 0, none⟩) (Na.limbs v).length cap, .int .u32 1000000000] wr _ from hsh)
      obtain ⟨I, hI⟩ : ∃ I : ByteArray, I = ⟨(Lib.decDigits r).toArray⟩ := ⟨_, rfl⟩
      have hIl : I.data.toList = Lib.decDigits r := by rw [hI]
      have hIs : I.size = (Lib.decDigits r).length := by rw [hI, size_mk]
      have hI9 : I.size ≤ 9 := by rw [hIs, hr]; exact Na.dig_len v
      have hI1 : 0 < I.size := by rw [hIs, Lib.decDigits]; split <;> simp
      have HI := Lib.hid (fun w' (hb : Below w.heap.size w w') => (by
        have := itoa_any (r : Int) w' (by omega) (by omega) (HT.out.on hb)
        rw [show Lib.itoa (r : Int) = Lib.decDigits r by rw [Lib.itoa, if_neg (by omega), Int.toNat_natCast], ← hI] at this
        exact this : Calls Tryz.prog 75 #[.int .i64 r] w' (RetB (.string I) w')))
      have HCUT := Lib.hid (fun w' o' (hk : Blk w' g o') (hl : o'.length = o.length) (hok : Na.OK o') (hv : Na.val (o'.take (Na.limbs v).length) = u) => (by
        have hll : (o'.take (Na.limbs v).length).length = (Na.limbs v).length := by rw [List.length_take, hl]; have := HOl.out; omega
        have hcu : Na.cut (o'.take (Na.limbs v).length) = Na.limbs u := by rw [Na.cut, hv]
        have hs := (hk.sl hok (c := cap) (by rw [hl]; exact HOc.out)).take (Na.limbs v).length
        have hc := na_cut_any (some ⟨g, 0, none⟩) cap (o'.take (Na.limbs v).length) w' hs (by omega)
        have hrt := Na.rt_le (Na.ok_take hok (Na.limbs v).length)
        rw [hll, hcu] at hc
        have hle : (Na.limbs u).length ≤ (Na.limbs v).length := by have := hrt.1; rw [hll, Na.rt, hcu] at this; exact this
        refine ⟨hc, hle, ?_⟩
        have e := hrt.2
        rw [hcu, Na.rt, hcu, List.take_take, Nat.min_eq_left hle] at e
        exact e.symm : Calls Tryz.prog 115 #[.slice (some ⟨g, 0, none⟩) (Na.limbs v).length cap] w' (Ret0 (.slice (some ⟨g, 0, none⟩) (Na.limbs u).length cap) w') ∧ (Na.limbs u).length ≤ (Na.limbs v).length ∧ o'.take (Na.limbs u).length = Na.limbs u))
      have hSs : S.size ≤ L := by omega
      by_cases hu0 : u = 0
      · have HU := Lib.hid (show Lib.decDigits N = Lib.decDigits r ++ S.data.toList by
          have hvr : v = r := by rw [hu] at hu0; rw [hr]; omega
          rw [← hvr]; exact hinv)
        have hSl : L = I.size + S.size := by rw [HL.out, HU.out, List.length_append, bs_length, hIs]
        have e0 := Lib.hid (show (Na.limbs u).length = 0 by rw [hu0, Na.limbs_zero]; rfl)
        have HU0 := Lib.hid hu0
        have HIL := Lib.hid hIl
        have s1 : ¬ 9223372036854775807 < I.size + S.size := by omega
        clear hsh hinv hS hr hu hI hIl hIs hu0 HInv
        go_wp2_with (first | (go_at_call 120; (with_reducible refine (HSH.out).mono ?_); rintro e w2 ⟨rfl, hb2, o', hk2, hl2, hok2, hv2⟩; have hB2 : Below w.heap.size w w2 := HBe.out.trans (hb2.mono hg)) | (go_at_call 75; (with_reducible refine (HI.out w2 hB2).mono ?_); rintro e w3 ⟨rfl, hb3⟩; have HX := Lib.hid (HCUT.out w3 o' (hk2.on hb3) hl2 hok2 hv2); have hx1 := HX.out.1; rw [e0.out] at hx1; have HX1 := Lib.hid hx1; clear hx1 hv2) | (go_at_call 115; (with_reducible refine (HX1.out).mono ?_); rintro e w' ⟨rfl, rfl⟩))
        go_roundw
        case rel => exact ⟨u, cap, I ++ S, o', by rw [e0.out], by rw [e0.out]; omega, rfl, Lib.hid (hk2.on hb3), Lib.hid hok2, Lib.hid (by rw [e0.out]; omega), by rw [e0.out]; omega, Lib.hid (by rw [hl2]; exact HOc.out), Lib.hid HX.out.2.2, Lib.hid (by rw [if_pos HU0.out, Dc_app, HIL.out, HU.out]), Lib.hid (hB2.trans (hb3.mono hB2.size))⟩
        case measure => simp [strLen, ByteArray.size_append]; omega
      · obtain ⟨Z, hZ⟩ : ∃ Z : ByteArray, Z = ⟨(List.replicate (9 - I.size) (48 : UInt8)).toArray⟩ := ⟨_, rfl⟩
        have hZs : Z.size = 9 - I.size := by rw [hZ, size_mk, List.length_replicate]
        have hup : 0 < (Na.limbs u).length := by
          rcases Nat.eq_zero_or_pos (Na.limbs u).length with e | e
          · exact absurd (Na.limbs_nil.1 (List.eq_nil_of_length_eq_zero e)) hu0
          · exact e
        have HU := Lib.hid (show Lib.decDigits N = Lib.decDigits u ++ (Z ++ I ++ S).data.toList by
          have := Na.dig_step v (by rw [← hu]; exact hu0)
          rw [← hr, ← hu, ← hIs] at this
          rw [hinv, this, Dc_app, Dc_app, hIl, hZ, List.append_assoc])
        have hSl : L = (Lib.decDigits u).length + (Z.size + I.size + S.size) := by rw [HL.out, HU.out, List.length_append, bs_length, ByteArray.size_append, ByteArray.size_append]
        have HRP := Lib.hid (fun w' => (by
          have := Tryz.strings_Repeat ⟨#[48]⟩ (9 - I.size) w' (by omega) (by show 1 * _ ≤ _; omega)
          rw [show ((9 - I.size : Nat) : Int) = 9 - (I.size : Int) by omega, show (⟨(Lib.repeatL (⟨#[48]⟩ : ByteArray).data.toList (9 - I.size)).toArray⟩ : ByteArray) = Z by rw [hZ, ← Na.rep48]] at this
          exact this : Calls Tryz.prog 74 #[.string ⟨#[48]⟩, .int .i64 (9 - (I.size : Int))] w' (RetB (.string Z) w')))
        have HU0 := Lib.hid hu0
        have s1 : ¬ 9223372036854775807 < Z.size + I.size := by omega
        have s2 : ¬ 9223372036854775807 < Z.size + I.size + S.size := by omega
        clear hsh hinv hS hr hu hI hIl hIs hu0 HInv hZ hZs
        go_wp2_with (first | (go_at_call 120; (with_reducible refine (HSH.out).mono ?_); rintro e w2 ⟨rfl, hb2, o', hk2, hl2, hok2, hv2⟩; have hB2 : Below w.heap.size w w2 := HBe.out.trans (hb2.mono hg)) | (go_at_call 75; (with_reducible refine (HI.out w2 hB2).mono ?_); rintro e w3 ⟨rfl, hb3⟩; have HX := Lib.hid (HCUT.out w3 o' (hk2.on hb3) hl2 hok2 hv2); have HL2 := Lib.hid hl2; clear hl2 hv2) | (go_at_call 115; (with_reducible refine (HX.out.1).mono ?_); rintro e w' ⟨rfl, rfl⟩) | (go_at_call 74; (with_reducible refine (HRP.out w3).mono ?_); rintro e w4 ⟨rfl, hb4⟩))
        go_roundw
        case rel => exact ⟨u, cap, Z ++ I ++ S, o', rfl, by have := HX.out.2.1; omega, rfl, Lib.hid ((hk2.on hb3).on hb4), Lib.hid hok2, Lib.hid (by have h1 := HX.out.2.1; have h2 := HOl.out; rw [HL2.out]; omega), by have := HX.out.2.1; omega, Lib.hid (by rw [HL2.out]; exact HOc.out), Lib.hid HX.out.2.2, Lib.hid (by rw [if_neg HU0.out]; exact HU.out), Lib.hid ((hB2.trans (hb3.mono hB2.size)).trans (hb4.mono (Nat.le_trans hB2.size hb3.size)))⟩
        case measure => simp [strLen, ByteArray.size_append]; omega
theorem na_digits_any (a : Option Addr) (c : Nat) (l : List Nat) (w : World) (h : Sl w a c l) (hn : l.length ≤ 1000000) (ht : Tab w) :
    Calls Tryz.prog 95 #[.slice a l.length c] w (RetB (.string ⟨(Lib.decDigits (Na.val l)).toArray⟩) w) := by
  by_cases hz : Na.val l = 0
  · exact na_digits_zero a c l w h hn hz
  · exact na_digits_pos a c l w h hn hz ht
end Go.Proofs.YtiglekomfgfilaaGreatDoor

/- What the cards of chapter 1 take of the listed variables: the table of powers of ten. -/
namespace Go.Proofs.YtiglekomfgfilaaGreatDoor
set_option linter.all false
open Go.ChangeShapes Go.WideShapes Go.ChangeAt Go.RowKit
theorem own : ownKnob Tryz.prog.godebug = none := by kernel_rfl
theorem gTab : Tryz.prog.globalNamed "internal/strconv.uint64pow10" = some 3 := by kernel_rfl
theorem tab_of_laid {W : World} (h2 : laidMetH Tryz.prog [("internal/strconv.uint64pow10", Rows.laid_internal_strconv_uint64pow10)] W) : Tab W := by
  have h3 : Lib.TabIs Tryz.prog W "internal/strconv.uint64pow10" .u64 [1, 10, 100, 1000, 10000, 100000, 1000000, 10000000, 100000000, 1000000000, 10000000000, 100000000000, 1000000000000, 10000000000000, 100000000000000, 1000000000000000, 10000000000000000, 100000000000000000, 1000000000000000000, 10000000000000000000] :=
    Lib.tabIs_of_head (rest := []) gTab (show (Tryz.prog.globals[3]?).map (·.type) = some 221 by kernel_rfl) Tryz.underlying221 Tryz.underlying22 (show Tryz.prog.cellsOf 22 = 1 by kernel_rfl) (show Tryz.prog.cellsOf 221 = 20 by kernel_rfl) h2
  have h4 : Lib.TabIs Tryz.prog W "internal/strconv.uint64pow10" .u64 Lib.pow10Tab := by
    rw [show Lib.pow10Tab = [1, 10, 100, 1000, 10000, 100000, 1000000, 10000000, 100000000, 1000000000, 10000000000, 100000000000, 1000000000000, 10000000000000, 100000000000000, 1000000000000000, 10000000000000000, 100000000000000000, 1000000000000000000, 10000000000000000000] from by kernel_rfl]; exact h3
  exact Lib.tabBelow_of_tabIs h4
end Go.Proofs.YtiglekomfgfilaaGreatDoor

/- Plain Lean: a shift down. -/
namespace Go.Proofs.YtiglekomfgfilaaGreatDoor.Na
set_option linter.all false
open Go
theorem shr_head (x y Y Y2 s : Nat) (hs : s < 32) (hx : x < B) (hY : Y = y + B * Y2) : (x + B * Y) / 2 ^ s = ((x + y * B) / 2 ^ s) % B + B * (Y / 2 ^ s) := by
  obtain ⟨p, hp⟩ : ∃ p, p = 2 ^ s := ⟨_, rfl⟩
  obtain ⟨c, hc⟩ : ∃ c, c = 2 ^ (32 - s) := ⟨_, rfl⟩
  have hB : B = p * c := by rw [hp, hc, ← Nat.pow_add, show s + (32 - s) = 32 by omega]
  have hp0 : 0 < p := by rw [hp]; exact Nat.pow_pos (by decide)
  rw [← hp]
  have e1 : (x + B * Y) / p = x / p + c * Y := by rw [hB, Nat.mul_assoc, Nat.add_mul_div_left _ _ hp0]
  have e2 : (x + y * B) / p = x / p + c * y := by rw [hB, Nat.mul_left_comm, Nat.add_mul_div_left _ _ hp0, Nat.mul_comm y]
  have hmod : Y % p = y % p := by rw [hY, hB, Nat.mul_assoc, Nat.add_mul_mod_self_left]
  have h1 : c * Y = B * (Y / p) + c * (y % p) := by
    have := congrArg (c * ·) (Nat.div_add_mod Y p)
    simp only [Nat.mul_add, hmod] at this
    rw [← this, hB, ← Nat.mul_assoc, Nat.mul_comm c p]
  have h2 : c * y = B * (y / p) + c * (y % p) := by
    have := congrArg (c * ·) (Nat.div_add_mod y p)
    simp only [Nat.mul_add] at this
    rw [← this, hB, ← Nat.mul_assoc, Nat.mul_comm c p]
  have hxc : x / p < c := by rw [Nat.div_lt_iff_lt_mul hp0, Nat.mul_comm, ← hB]; exact hx
  have hm : c * (y % p) + c ≤ B := by
    have := Nat.mul_le_mul_left c (show y % p + 1 ≤ p from Nat.mod_lt _ hp0)
    rw [Nat.mul_add, Nat.mul_one, Nat.mul_comm c p, ← hB] at this; exact this
  rw [e1, e2, h1, h2]
  have e3 : (x / p + (B * (y / p) + c * (y % p))) % B = x / p + c * (y % p) := by
    rw [show x / p + (B * (y / p) + c * (y % p)) = (x / p + c * (y % p)) + B * (y / p) by omega, Nat.add_mul_mod_self_left, Nat.mod_eq_of_lt (by omega)]
  rw [e3]; omega
theorem shr_lost (L V k s : Nat) (hL : L < B ^ k) : (L + B ^ k * V) / 2 ^ (32 * k + s) = V / 2 ^ s ∧ ((L + B ^ k * V) % 2 ^ (32 * k + s) ≠ 0 ↔ L ≠ 0 ∨ V % 2 ^ s ≠ 0) := by
  have hB : 2 ^ (32 * k) = B ^ k := by rw [Nat.pow_mul]
  have h0 : 0 < B ^ k := Nat.pow_pos (by decide)
  rw [Nat.pow_add, hB]
  constructor
  · rw [← Nat.div_div_eq_div_mul, Nat.add_mul_div_left _ _ h0, Nat.div_eq_of_lt hL, Nat.zero_add]
  · have e : (L + B ^ k * V) % (B ^ k * 2 ^ s) = L + B ^ k * (V % 2 ^ s) := by
      rw [Nat.mod_mul, Nat.add_mul_div_left _ _ h0, Nat.div_eq_of_lt hL, Nat.zero_add, Nat.add_mul_mod_self_left, Nat.mod_eq_of_lt hL]
    rw [e]
    constructor
    · intro h
      rcases Nat.eq_zero_or_pos L with hl | hl
      · rcases Nat.eq_zero_or_pos (V % 2 ^ s) with hv | hv
        · rw [hl, hv] at h; simp at h
        · right; omega
      · left; omega
    · rintro (h | h)
      · omega
      · have := Nat.mul_pos h0 (show 0 < V % 2 ^ s by omega); omega
theorem and_mask (x s : Nat) (hx : x < 4294967296) (hs : s < 32) : bits BinOp.and IntKind.u32 (x : Int) ((2 ^ s - 1 : Nat) : Int) = ((x % 2 ^ s : Nat) : Int) := by
  have h1 : 2 ^ s ≤ 2 ^ 31 := Nat.pow_le_pow_right (by decide) (by omega)
  rw [(bits_and_u32 x (2 ^ s - 1) hx (by omega)).1, Nat.and_two_pow_sub_one_eq_mod]
end Go.Proofs.YtiglekomfgfilaaGreatDoor.Na

/- Plain Lean: a text of digits as a number. -/
namespace Go.Proofs.YtiglekomfgfilaaGreatDoor.Na
set_option linter.all false
open Go
def isD (c : UInt8) : Bool := decide (48 ≤ c.toNat) && decide (c.toNat ≤ 57)
def num (t : List UInt8) : Nat := t.foldl (fun a c => 10 * a + (c.toNat - 48)) 0
def parse (t : List UInt8) : List Nat × Int := if t = [] ∨ t.all isD = false then ([], 3) else fits (num t)
theorem num_from (t : List UInt8) : ∀ a, t.foldl (fun a c => 10 * a + (c.toNat - 48)) a = a * 10 ^ t.length + num t := by
  induction t with
  | nil => intro a; simp [num]
  | cons c t ih =>
    intro a
    have h2 : num (c :: t) = (c.toNat - 48) * 10 ^ t.length + num t := by
      rw [num, List.foldl_cons, Nat.mul_zero, Nat.zero_add, ih]
    rw [List.foldl_cons, ih, h2, List.length_cons, Nat.pow_succ, Nat.add_mul]
    rw [show 10 * a * 10 ^ t.length = a * (10 ^ t.length * 10) by rw [Nat.mul_comm 10 a, Nat.mul_assoc, Nat.mul_comm 10]]
    omega
theorem num_app (a b : List UInt8) : num (a ++ b) = num a * 10 ^ b.length + num b := by
  rw [num, List.foldl_append, num_from]; rfl
theorem num_lt (t : List UInt8) (h : t.all isD = true) : num t < 10 ^ t.length := by
  induction t with
  | nil => simp [num]
  | cons c t ih =>
    rw [List.all_cons, Bool.and_eq_true] at h
    have h1 := ih h.2
    have hc : c.toNat - 48 ≤ 9 := by
      have := h.1; simp only [isD, Bool.and_eq_true, decide_eq_true_eq] at this; omega
    rw [num, List.foldl_cons, Nat.mul_zero, Nat.zero_add, num_from, List.length_cons, Nat.pow_succ]
    have := Nat.mul_le_mul_right (10 ^ t.length) hc
    omega
theorem num_ge (c : UInt8) (t : List UInt8) (h : isD c = true) (h0 : c ≠ 48) : 10 ^ t.length ≤ num (c :: t) := by
  have hc : 1 ≤ c.toNat - 48 := by
    have h1 : c.toNat ≠ 48 := fun e => h0 (UInt8.toNat_inj.1 (by rw [e]; rfl))
    simp only [isD, Bool.and_eq_true, decide_eq_true_eq] at h; omega
  rw [num, List.foldl_cons, Nat.mul_zero, Nat.zero_add, num_from]
  have := Nat.mul_le_mul_right (10 ^ t.length) hc
  omega
theorem num_trim (t : List UInt8) : num (t.dropWhile (· == 48)) = num t := by
  induction t with
  | nil => rfl
  | cons c t ih =>
    by_cases h : (c == 48) = true
    · have hc : c = 48 := by simpa using h
      subst hc
      rw [List.dropWhile_cons, if_pos (by rfl), ih]; rfl
    · rw [List.dropWhile_cons, if_neg (by simpa using h)]
end Go.Proofs.YtiglekomfgfilaaGreatDoor.Na

/- Plain Lean: a text of digits, nine at a time. -/
namespace Go.Proofs.YtiglekomfgfilaaGreatDoor.Na
set_option linter.all false
open Go
theorem parseUint_num (l : List UInt8) : ∀ (a : Nat), l.all isD = true → a * 10 ^ l.length + 10 ^ l.length ≤ 1000000000000000000 → Lib.parseUint10 a l = .ok (a * 10 ^ l.length + num l) := by
  induction l with
  | nil => intro a _ _; simp [Lib.parseUint10, num]
  | cons c l ih =>
    intro a hd hb
    rw [List.all_cons, Bool.and_eq_true] at hd
    have hc : 48 ≤ c.toNat ∧ c.toNat ≤ 57 := by
      have := hd.1; simp only [isD, Bool.and_eq_true, decide_eq_true_eq] at this; exact this
    have hp : 1 ≤ 10 ^ l.length := Nat.one_le_pow _ _ (by decide)
    have hn : num (c :: l) = (c.toNat - 48) * 10 ^ l.length + num l := by
      rw [num, List.foldl_cons, Nat.mul_zero, Nat.zero_add, num_from]
    rw [List.length_cons, Nat.pow_succ] at hb ⊢
    have hb2 : a * (10 ^ l.length * 10) = (a * 10) * 10 ^ l.length := by rw [Nat.mul_comm (10 ^ l.length) 10, Nat.mul_assoc]
    have hstep : (a * 10 + (c.toNat - 48)) * 10 ^ l.length + 10 ^ l.length ≤ a * (10 ^ l.length * 10) + 10 ^ l.length * 10 := by
      rw [hb2, Nat.add_mul]
      have : (c.toNat - 48) * 10 ^ l.length ≤ 9 * 10 ^ l.length := Nat.mul_le_mul_right _ (by omega)
      omega
    have ha : a ≤ 100000000000000000 := by
      have : a * 10 ≤ a * 10 * 10 ^ l.length := Nat.le_mul_of_pos_right _ hp
      omega
    rw [Lib.parseUint10, if_pos ⟨hc.1, hc.2⟩, if_neg (by omega), if_neg (by omega), ih _ hd.2 (by omega), hn, hb2, Nat.add_mul, Nat.add_assoc]
theorem atoi_num (l : List UInt8) (hd : l.all isD = true) (hne : l ≠ []) (hl : l.length ≤ 9) : Lib.atoiAll l = .ok (num l : Nat) := by
  have h4 : 10 ^ l.length ≤ 10 ^ 9 := Nat.pow_le_pow_right (by decide) hl
  have h1 := parseUint_num l 0 hd (by omega)
  rw [Nat.zero_mul, Nat.zero_add] at h1
  have h2 := num_lt l hd
  cases l with
  | nil => exact absurd rfl hne
  | cons c r =>
    rw [List.all_cons, Bool.and_eq_true] at hd
    have hc : 48 ≤ c.toNat ∧ c.toNat ≤ 57 := by
      have := hd.1; simp only [isD, Bool.and_eq_true, decide_eq_true_eq] at this; exact this
    have h43 : ¬ (c.toNat = 43 ∨ c.toNat = 45) := by omega
    have h45 : ¬ c.toNat = 45 := by omega
    have h5 : Lib.parseMag (if c.toNat = 43 ∨ c.toNat = 45 then r else c :: r) = .ok (num (c :: r)) := by
      rw [if_neg h43, Lib.parseMag, if_neg (by simp), h1]
    unfold Lib.atoiAll
    simp only []
    rw [h5]
    simp [h45]; omega
def dset : List UInt8 := [48, 49, 50, 51, 52, 53, 54, 55, 56, 57]
theorem isD_set (c : UInt8) : dset.contains c = isD c := by
  obtain ⟨k, hk⟩ : ∃ k : Nat, k = c.toNat := ⟨_, rfl⟩
  have h1 : ∀ d : UInt8, (c = d) ↔ k = d.toNat := fun d => by rw [hk]; exact UInt8.toNat_inj.symm
  rw [Bool.eq_iff_iff]
  simp only [dset, List.contains_iff_mem, List.mem_cons, List.not_mem_nil, or_false, isD, Bool.and_eq_true, decide_eq_true_eq, h1, ← hk, UInt8.toNat_ofNat]
  omega
theorem dropWhile_nil {α : Type} (p : α → Bool) (l : List α) : l.dropWhile p = [] ↔ l.all p = true := by
  induction l with
  | nil => simp
  | cons a l ih =>
    by_cases h : p a = true
    · rw [List.dropWhile_cons, if_pos h, ih, List.all_cons, h, Bool.true_and]
    · rw [List.dropWhile_cons, if_neg h, List.all_cons]; simp [h]
theorem trimS_nil (l cs : List UInt8) : Lib.trimS l cs = [] ↔ l.all (cs.contains ·) = true := by
  rw [Lib.trimS, Lib.trimLeftS, dropWhile_nil, Lib.trimRightS, List.all_reverse]
  have h := List.takeWhile_append_dropWhile (p := (cs.contains ·)) (l := l.reverse)
  have h2 : (l.reverse.takeWhile (cs.contains ·)).all (cs.contains ·) = true := by
    exact List.all_takeWhile
  have h3 : l.all (cs.contains ·) = l.reverse.all (cs.contains ·) := List.all_reverse.symm
  rw [h3]
  conv => rhs; rw [← h]
  rw [List.all_append, h2, Bool.true_and]
theorem trim_digits (l : List UInt8) : Lib.trimS l dset = [] ↔ l.all isD = true := by
  rw [trimS_nil]
  have : (fun c => dset.contains c) = isD := funext isD_set
  rw [this]
theorem all_dropWhile (l : List UInt8) (h : l.all isD = true) : (l.dropWhile (· == 48)).all isD = true := by
  rw [List.all_eq_true] at h ⊢
  exact fun x hx => h x ((List.dropWhile_sublist _).subset hx)
theorem head_dropWhile (l : List UInt8) (c : UInt8) (t : List UInt8) (h : l.dropWhile (· == 48) = c :: t) : c ≠ 48 := by
  induction l with
  | nil => simp at h
  | cons a l ih =>
    by_cases ha : (a == 48) = true
    · rw [List.dropWhile_cons, if_pos ha] at h; exact ih h
    · rw [List.dropWhile_cons, if_neg ha] at h
      injection h with h1 h2
      subst h1
      simpa using ha
theorem pow_pow_le (a b m n k : Nat) (h : a ≤ b ^ n) (hk : n * m ≤ k) (hb : 0 < b) : a ^ m ≤ b ^ k := by
  have := Nat.pow_le_pow_left h m
  rw [← Nat.pow_mul] at this
  exact Nat.le_trans this (Nat.pow_le_pow_right hb hk)
theorem pow_big (k : Nat) (h : 2560 ≤ k) : B ^ 256 ≤ 10 ^ k := pow_pow_le B 10 256 10 k (by decide) h (by decide)
theorem num_long (l : List UInt8) (hd : l.all isD = true) (h : 3000 < (l.dropWhile (· == 48)).length) : fits (num l) = ([], 2) := by
  rw [← num_trim]
  have hd2 := all_dropWhile l hd
  cases e : l.dropWhile (· == 48) with
  | nil => rw [e] at h; simp at h
  | cons c t =>
    have h1 := head_dropWhile l c t e
    rw [e] at h hd2
    rw [List.all_cons, Bool.and_eq_true] at hd2
    have h2 := num_ge c t hd2.1 h1
    rw [List.length_cons] at h
    have h3 := pow_big t.length (by omega)
    rw [fits, if_pos]
    exact limbs_len_gt _ _ (Nat.le_trans h3 h2)
theorem fits_more {a b : Nat} (h : fits a = ([], 2)) (h2 : a ≤ b) : fits b = ([], 2) := by
  by_cases h1 : 256 < (limbs a).length
  · rw [fits, if_pos]
    refine limbs_len_gt _ _ (Nat.le_trans ?_ h2)
    exact Nat.le_of_not_lt fun hl => by have := (limbs_len_iff a 256).2 hl; omega
  · rw [fits, if_neg h1] at h
    injection h with _ h
    exact absurd h (by decide)
theorem num_split (l : List UInt8) (k n : Nat) : num (l.take (k + n)) = num (l.take k) * 10 ^ ((l.drop k).take n).length + num ((l.drop k).take n) := by
  rw [← num_app, List.take_add]
theorem num_pre (l : List UInt8) (k : Nat) : num (l.take k) ≤ num l := by
  have := num_app (l.take k) (l.drop k)
  rw [List.take_append_drop] at this
  rw [this]
  have := Nat.mul_le_mul_left (num (l.take k)) (Nat.one_le_pow (l.drop k).length 10 (by decide))
  omega
end Go.Proofs.YtiglekomfgfilaaGreatDoor.Na
