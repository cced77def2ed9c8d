/- Parse: the loop. -/
import Derived.Test.YtcdndcbfmlnpjaaGreatDoorZ7
import Derived.Outline
namespace Go.Proofs.YtcdndcbfmlnpjaaGreatDoor
set_option linter.all false
open Go.RowKit

def parseLoop (T : List UInt8) (w : World) (sv ov ev : Value) (wr : World) : Prop := ∃ (t : ByteArray) (k x : Nat) (a : Option Addr) (c : Nat), sv = .string t ∧ t.size + k = T.length ∧ Hid (t.data.toList = T.drop k) ∧ ev = .int .i64 0 ∧ Hid (x = Na.num (T.take k)) ∧
  ov = .slice a (Na.limbs x).length c ∧ (Na.limbs x).length ≤ 256 ∧ Hid (Sl wr a c (Na.limbs x)) ∧ Hid (Own wr w.heap.size a (Na.limbs x).length) ∧ Hid (Below w.heap.size w wr)

set_option maxHeartbeats 2000000 in
theorem na_parse_main (s : ByteArray) (w : World) (h : 0 < s.size) (hs : s.size ≤ 1000000000) (hd : s.data.toList.all Na.isD = true) (hl : (s.data.toList.dropWhile (· == 48)).length ≤ 3000) : Calls Tryz.prog 33 #[.string s] w (GivesE (Na.parse s.data.toList) w) := by
  have hne : ¬ (s.data.toList = [] ∨ s.data.toList.all Na.isD = false) := by
    rw [hd]; rintro (e | e)
    · have := congrArg List.length e; rw [bs_length, List.length_nil] at this; omega
    · cases e
  have e2 : Na.parse s.data.toList = Na.fits (Na.num (s.data.toList.dropWhile (· == 48))) := (if_neg hne).trans (by rw [Na.num_trim])
  have h1 : s.toList.isEmpty = false := isEmpty_of_pos h
  have hc := trimD s w hs
  rw [(Na.trim_digits _).2 hd] at hc
  have HC := Lib.hid (show Calls Tryz.prog 55 #[.string s, .string ⟨#[48, 49, 50, 51, 52, 53, 54, 55, 56, 57]⟩] w (RetB (.string ⟨#[]⟩) w) from hc)
  obtain ⟨L, hL⟩ : ∃ L, L = s.data.toList.dropWhile (· == 48) := ⟨_, rfl⟩
  have hLd := Lib.hid (hL ▸ Na.all_dropWhile _ hd : L.all Na.isD = true)
  obtain ⟨T, hT⟩ : ∃ T : ByteArray, T = ⟨L.toArray⟩ := ⟨_, rfl⟩
  have hTs : T.size = L.length := by rw [hT, size_mk]
  have hTl := Lib.hid (show T.data.toList = L by rw [hT])
  have HL := Lib.hid (fun w => trimL0 s w)
  rw [← hL, ← hT] at HL
  rw [← hL] at e2 hl
  have E2 := Lib.hid e2
  have HTS := Lib.hid hTs
  have hTle : T.size ≤ 3000 := by omega
  clear hc hT hd hL hne e2 hTs
  go_enter Tryz.func33, Tryz.ntmps33
  go_wp2_with (first | (go_at_call 55; (with_reducible refine (HC.out).mono ?_); rintro e w1 ⟨rfl, hb_w1⟩; have hB_w1 : Below (w).heap.size (w) w1 := Below.trans (by (repeat (first | exact Below.refl _ _ | assumption | refine Below.setCell ?_ (by first | omega | (simp <;> omega)) _ | refine Below.alloc ?_ (by first | omega | (simp <;> omega)) _ | refine Below.drew ?_ | refine below_drewN' ?_ _))) (hb_w1.mono (by first | omega | (simp <;> omega))); obtain ⟨hc_w1, hf_w1⟩ := bcell hb_w1; have hz_w1 := hb_w1.size; (try simp only [size_drew', size_drewN', World.size_alloc, World.size_setCell] at hz_w1)) | (go_at_call 56; (with_reducible refine (HL.out _).mono ?_); rintro e w' ⟨rfl, rfl⟩))
  go_loopw [0, 4, 5] (parseLoop L w) (fun sv _ _ _ => strLen sv)
  case atStart => exact ⟨T, 0, 0, none, 0, rfl, by have := HTS.out; omega, Lib.hid hTl.out, rfl, Lib.hid rfl, by rw [Na.limbs_zero]; rfl, by rw [Na.limbs_zero]; simp, Lib.hid (by rw [Na.limbs_zero]; exact Sl.nil _ _ _), Lib.hid (by rw [Na.limbs_zero]; exact Own.nil _ _ _), Lib.hid hB_w1⟩
  case round =>
    obtain ⟨t, k, x, a, c, rfl, hk, HT, rfl, HX, rfl, hlen, HSl, HOw, HBe⟩ := hrel
    by_cases h0 : 0 < t.size
    · obtain ⟨n, hn⟩ : ∃ n, n = min 9 t.size := ⟨_, rfl⟩
      have hmin : min (9 : Int) (t.size : Int) = (n : Int) := by omega
      have hn1 : 1 ≤ n ∧ n ≤ 9 ∧ n ≤ t.size := by omega
      obtain ⟨hn1, hn9, hnt⟩ := hn1
      obtain ⟨U, hU⟩ : ∃ U, U = t.extract 0 n := ⟨_, rfl⟩
      obtain ⟨R, hR⟩ : ∃ U, U = t.extract n t.size := ⟨_, rfl⟩
      have hUl : U.data.toList = (L.drop k).take n := by rw [hU, Lib.extract_data, List.drop_zero, Nat.sub_zero, HT.out]
      have hUs : U.size = n := by rw [hU, ByteArray.size_extract]; omega
      have hRs : R.size + n = t.size := by rw [hR, ByteArray.size_extract]; omega
      have hRl := Lib.hid (show R.data.toList = L.drop (k + n) by
        rw [hR, Lib.extract_to_end, HT.out, List.drop_drop])
      have hUd : U.data.toList.all Na.isD = true := by
        rw [hUl, List.all_eq_true]; intro y hy
        exact List.all_eq_true.1 hLd.out y (List.mem_of_mem_drop (List.mem_of_mem_take hy))
      have hAT := Lib.hid (fun w => na_atoi U w hUd ⟨by omega, by omega⟩)
      have hsp := Na.num_split L k n
      rw [← hUl, ← HX.out, bs_length, hUs] at hsp
      have hvl := Na.num_lt _ hUd
      rw [bs_length, hUs] at hvl
      obtain ⟨v, hv⟩ : ∃ v, v = Na.num U.data.toList := ⟨_, rfl⟩
      rw [← hv] at hsp hAT hvl
      have hv9 : v < 1000000000 := Nat.lt_of_lt_of_le hvl (Nat.pow_le_pow_right (n := 10) (by decide) hn9)
      obtain ⟨P, hP⟩ : ∃ P, P = 10 ^ n := ⟨_, rfl⟩
      have hPl : (Na.limbs P).length ≤ 256 := (Na.limbs_len_iff P 256).2 (Nat.lt_of_le_of_lt (show P ≤ 1000000000 by rw [hP]; exact Nat.pow_le_pow_right (n := 10) (by decide) hn9) (by decide +kernel))
      have hpw := fun w => na_pow_any (10 : Nat) (n : Int) w (by omega) (by omega)
      have hpe : Na.pow (10 : Nat) (n : Int) = (Na.limbs P, 0) := by
        rw [Na.pow, if_neg (by omega), if_neg (by omega), Int.toNat_natCast, Int.toNat_natCast, ← hP, Na.fits, if_neg (by omega)]
      rw [hpe] at hpw
      have HPW := Lib.hid (show ∀ w, Calls Tryz.prog 31 #[.int .i64 10, .int .i64 n] w (GivesE (Na.limbs P, 0) w) from hpw)
      have hmul : Na.mul (Na.limbs x) (Na.limbs P) = Na.fits (x * P) := by
        rw [Na.mul, if_neg (by simp [Na.big, Na.rt_limbs]; exact ⟨hlen, hPl⟩), Na.val_limbs, Na.val_limbs]
      have HM := Lib.hid (fun w1 a' c' (hs : Sl w1 a c (Na.limbs x)) (hs' : Sl w1 a' c' (Na.limbs P)) => (by
        have := na_mul_any a c (Na.limbs x) a' c' (Na.limbs P) w1 hs hs' (by omega) (by omega)
        rwa [hmul] at this : Calls Tryz.prog 23 #[.slice a (Na.limbs x).length c, .slice a' (Na.limbs P).length c'] w1 (GivesE (Na.fits (x * P)) w1)))
      have hpre := Na.num_pre L (k + n)
      rw [← hP] at hsp
      have HSP := Lib.hid hsp
      have hRE := hR.symm; have hUE := hU.symm
      have hsz := HBe.out.size
      clear hn hUl hUd hv hpw hpe hP hsp hmul hvl hR hU
      have hB4 : ∀ w2 w3 w4 : World, Below wr.heap.size wr w2 → Below w2.heap.size w2 w3 → Below w3.heap.size w3 w4 → Below w.heap.size w w4 ∧ w.heap.size ≤ w3.heap.size := fun _ _ _ h2 h3 h4 =>
        ⟨HBe.out.trans ((h2.mono hsz).trans ((h3.mono (Nat.le_trans hsz h2.size)).trans (h4.mono (Nat.le_trans hsz (Nat.le_trans h2.size h3.size))))), Nat.le_trans hsz (Nat.le_trans h2.size h3.size)⟩
      have HB4 := Lib.hid hB4; clear hB4
      by_cases hov : 256 < (Na.limbs (x * P)).length
      · have ef : Na.fits (x * P) = ([], 2) := if_pos hov
        rw [ef] at HM
        have EE := Lib.hid (show Na.parse s.data.toList = ([], 2) by
          rw [E2.out]; exact Na.fits_more ef (by have := HSP.out; omega))
        clear ef hov HSP hpre
        go_wp2_with (first | (go_at_call 57; (with_reducible refine (hAT.out _).mono ?_); rintro e w2 ⟨rfl, hb2⟩; have hS2 := HSl.out.on hb2) | (go_at_call 31; (with_reducible refine (HPW.out _).mono ?_); rintro e w3 ⟨a3, c3, rfl, hs3, ho3, hb3⟩; have hS3 := hS2.on hb3) | (go_at_call 23; (with_reducible refine (HM.out _ _ _ hS3 hs3).mono ?_); rintro e w4 ⟨a4, c4, rfl, hs4, ho4, hb4⟩))
        refine bodyPost_ret (v := .tuple #[.slice none 0 0, .int .i64 2]) (by simp [results, Tryz.results33, go_sem]) rfl (by rw [EE.out]; exact ⟨none, 0, rfl, Sl.nil _ _ _, Own.nil _ _ _, (HB4.out _ _ _ hb2 hb3 hb4).1⟩)
      · have ef : Na.fits (x * P) = (Na.limbs (x * P), 0) := if_neg hov
        rw [ef] at HM
        have hvl : (Na.limbs v).length ≤ 256 := (Na.limbs_len_iff v 256).2 (Nat.lt_of_lt_of_le hv9 (by decide +kernel))
        have hadd : Na.add (Na.limbs (x * P)) (Na.limbs v) = Na.fits (x * P + v) := by
          rw [Na.add, if_neg (by simp [Na.big, Na.rt_limbs]; exact ⟨by omega, hvl⟩), Na.val_limbs, Na.val_limbs]
        have HA := Lib.hid (fun w1 a' c' a'' c'' (hs : Sl w1 a' c' (Na.limbs (x * P))) (hs' : Sl w1 a'' c'' (Na.limbs v)) => (by
          have := na_add_any a' c' (Na.limbs (x * P)) a'' c'' (Na.limbs v) w1 hs hs' (by omega) (by omega)
          rwa [hadd] at this : Calls Tryz.prog 19 #[.slice a' (Na.limbs (x * P)).length c', .slice a'' (Na.limbs v).length c''] w1 (GivesE (Na.fits (x * P + v)) w1)))
        have HOF := Lib.hid (fun w => na_of_any v (by omega) w)
        clear ef hadd
        by_cases hov2 : 256 < (Na.limbs (x * P + v)).length
        · have ef : Na.fits (x * P + v) = ([], 2) := if_pos hov2
          rw [ef] at HA
          have EE := Lib.hid (show Na.parse s.data.toList = ([], 2) by
            rw [E2.out]; exact Na.fits_more ef (by have := HSP.out; omega))
          clear ef hov hov2 HSP hpre hvl
          go_wp2_with (first | (go_at_call 57; (with_reducible refine (hAT.out _).mono ?_); rintro e w2 ⟨rfl, hb2⟩; have hS2 := HSl.out.on hb2) | (go_at_call 31; (with_reducible refine (HPW.out _).mono ?_); rintro e w3 ⟨a3, c3, rfl, hs3, ho3, hb3⟩; have hS3 := hS2.on hb3) | (go_at_call 23; (with_reducible refine (HM.out _ _ _ hS3 hs3).mono ?_); rintro e w4 ⟨a4, c4, rfl, hs4, ho4, hb4⟩) | (go_at_call 11; (with_reducible refine (HOF.out _).mono ?_); rintro e w5 ⟨g5, rfl, hg5, hk5, hb5⟩; have hS5 := hk5.sl (Na.ok_limbs v) (Nat.le_refl _); have hS4 := hs4.on hb5) | (go_at_call 19; (with_reducible refine (HA.out _ _ _ _ _ hS4 hS5).mono ?_); rintro e w6 ⟨a6, c6, rfl, hs6, ho6, hb6⟩))
          have hB4 := HB4.out _ _ _ hb2 hb3 hb4
          refine bodyPost_ret (v := .tuple #[.slice none 0 0, .int .i64 2]) (by simp [results, Tryz.results33, go_sem]) rfl (by rw [EE.out]; exact ⟨none, 0, rfl, Sl.nil _ _ _, Own.nil _ _ _, hB4.1.trans ((hb5.mono hB4.1.size).trans (hb6.mono (Nat.le_trans hB4.1.size hb5.size)))⟩)
        · have ef : Na.fits (x * P + v) = (Na.limbs (x * P + v), 0) := if_neg hov2
          rw [ef] at HA
          have HSP' := Lib.hid (show x * P + v = Na.num (L.take (k + n)) from HSP.out.symm)
          have hov2' : (Na.limbs (x * P + v)).length ≤ 256 := by omega
          obtain ⟨y, hy⟩ : ∃ y, y = x * P + v := ⟨_, rfl⟩
          rw [← hy] at HA HSP' hov2'
          clear ef hov hov2 HSP hpre hvl hy
          go_wp2_with (first | (go_at_call 57; (with_reducible refine (hAT.out _).mono ?_); rintro e w2 ⟨rfl, hb2⟩; have hS2 := HSl.out.on hb2) | (go_at_call 31; (with_reducible refine (HPW.out _).mono ?_); rintro e w3 ⟨a3, c3, rfl, hs3, ho3, hb3⟩; have hS3 := hS2.on hb3) | (go_at_call 23; (with_reducible refine (HM.out _ _ _ hS3 hs3).mono ?_); rintro e w4 ⟨a4, c4, rfl, hs4, ho4, hb4⟩) | (go_at_call 11; (with_reducible refine (HOF.out _).mono ?_); rintro e w5 ⟨g5, rfl, hg5, hk5, hb5⟩; have hS5 := hk5.sl (Na.ok_limbs v) (Nat.le_refl _); have hS4 := hs4.on hb5) | (go_at_call 19; (with_reducible refine (HA.out _ _ _ _ _ hS4 hS5).mono ?_); rintro e w6 ⟨a6, c6, rfl, hs6, ho6, hb6⟩))
          have hB4 := HB4.out _ _ _ hb2 hb3 hb4
          have hB6 := hB4.1.trans ((hb5.mono hB4.1.size).trans (hb6.mono (Nat.le_trans hB4.1.size hb5.size)))
          have hO6 : Own w6 w.heap.size a6 (Na.limbs y).length := fun h0 => by
            obtain ⟨b', o', e, hb', hf⟩ := ho6 h0
            exact ⟨b', o', e, Nat.le_trans (Nat.le_trans hB4.1.size hb5.size) hb', hf⟩
          go_roundw
          case rel => exact ⟨R, k + n, y, a6, c6, rfl, by omega, hRl, rfl, HSP', rfl, hov2', Lib.hid hs6, Lib.hid hO6, Lib.hid hB6⟩
          case measure => simp only [strLen]; omega
    · have h00 : t.size = 0 := by omega
      obtain rfl : k = L.length := by omega
      have EE := Lib.hid (show Na.parse s.data.toList = (Na.limbs x, 0) by
        have hx : x = Na.num L := by have := HX.out; rwa [List.take_length] at this
        rw [E2.out, Na.fits, ← hx, if_neg (by omega)])
      go_wp2_with fail
      refine bodyPost_ret (v := .tuple #[.slice a (Na.limbs x).length c, .int .i64 0]) (by simp [results, Tryz.results33, go_sem]) rfl (by rw [EE.out]; exact ⟨a, c, rfl, HSl.out, HOw.out, HBe.out⟩)

theorem na_parse_any (s : ByteArray) (w : World) (hs : s.size ≤ 1000000000) : Calls Tryz.prog 33 #[.string s] w (GivesE (Na.parse s.data.toList) w) := by
  by_cases h : s.size = 0
  · exact na_parse_empty s w h
  · cases hd : s.data.toList.all Na.isD with
    | false => exact na_parse_form s w (by omega) hs hd
    | true =>
      by_cases hl : 3000 < (s.data.toList.dropWhile (· == 48)).length
      · exact na_parse_long s w (by omega) hs hd hl
      · exact na_parse_main s w (by omega) hs hd (by omega)
end Go.Proofs.YtcdndcbfmlnpjaaGreatDoor

/- same (the statements' own helper). -/
namespace Go.Proofs.YtcdndcbfmlnpjaaGreatDoor
set_option linter.all false
open Go.RowKit

def sameLoop (l m : List Nat) (w : World) (iv : Value) (wr : World) : Prop := ∃ k : Nat, k ≤ l.length ∧ iv = .int .i64 k ∧ Hid (l.take k = m.take k) ∧ Hid (Below w.heap.size w wr)

set_option maxHeartbeats 1000000 in
theorem l1_same_any (a : Option Addr) (c : Nat) (l : List Nat) (b : Option Addr) (d : Nat) (m : List Nat) (w : World) (h : Sl w a c l) (h' : Sl w b d m) (hn : l.length ≤ 1000000) (hm : m.length ≤ 1000000) :
    Calls Tryz.prog 8 #[.slice a l.length c, .slice b m.length d] w (RetB (.bool (decide (l = m))) w) := by
  by_cases hl : l.length = m.length
  · have HL := Lib.hid hl
    have HS := Lib.hid h; have HS' := Lib.hid h'
    obtain ⟨n, hne⟩ : ∃ n, l.length = n := ⟨_, rfl⟩
    rw [← hl, hne]
    rw [hne] at hn
    have HN := Lib.hid hne
    clear hl hne h h' hm
    go_enter Tryz.func8, Tryz.ntmps8
    go_wp2_with fail
    go_loopw [5] (sameLoop l m w) (fun i _ => n - (intOf i).toNat)
    case atStart => exact ⟨0, Nat.zero_le _, rfl, Lib.hid (by simp), Lib.hid (Below.refl _ _)⟩
    case round =>
      obtain ⟨k, hk, rfl, HT, HB⟩ := hrel
      have hk' : k ≤ n := by rw [← HN.out]; exact hk
      clear hk
      by_cases hlt : k < n
      · have h1 : k < l.length := by rw [HN.out]; exact hlt
        have h2 : k < m.length := by rw [← HL.out, HN.out]; exact hlt
        obtain ⟨b1, o1, rfl, hb1, hc1⟩ := (HS.out.on HB.out).plain (by omega)
        obtain ⟨b2, o2, rfl, hb2, hc2⟩ := (HS'.out.on HB.out).plain (by omega)
        have c1 := hc1 k h1
        have c2 := hc2 k h2
        have EQ := Lib.hid (show l[k] = m[k] → l.take (k + 1) = m.take (k + 1) from fun e => by rw [List.take_succ_eq_append_getElem h1, List.take_succ_eq_append_getElem h2, HT.out, e])
        have NE := Lib.hid (show l[k] ≠ m[k] → decide (l = m) = false from fun e => decide_eq_false fun e' => e (by simp only [e']))
        obtain ⟨x, hx⟩ : ∃ x, l[k]'h1 = x := ⟨_, rfl⟩
        obtain ⟨y, hy⟩ : ∃ y, m[k]'h2 = y := ⟨_, rfl⟩
        rw [hx, hy] at EQ NE
        rw [hx] at c1; rw [hy] at c2
        clear hx hy hc1 hc2
        by_cases hxy : x = y
        · subst hxy
          have EQ2 := Lib.hid (EQ.out rfl)
          clear EQ NE
          go_wp2_with fail
          go_quiet (fail)
          go_wp2_with fail
          go_roundw
          case rel => exact ⟨k + 1, by rw [HN.out]; omega, by go_num, EQ2, Lib.hid (below_drewN' HB.out _)⟩
          case measure => simp [intOf]; omega
        · have e := Lib.hid (NE.out hxy)
          have hxb : ((x : Int) != (y : Int)) = true := by simp; omega
          clear EQ NE
          go_wp2_with fail
          go_quiet (fail)
          go_wp2_with fail
          go_ret
          exact RetB.of (by rw [e.out]; rfl) (below_drewN' HB.out _)
      · obtain rfl : k = n := by omega
        have e := Lib.hid (show decide (l = m) = true from decide_eq_true (by
          have := HT.out
          rwa [List.take_of_length_le (by rw [HN.out]; exact Nat.le_refl _), List.take_of_length_le (by rw [← HL.out, HN.out]; exact Nat.le_refl _)] at this))
        go_wp2_with fail
        go_ret
        exact RetB.of (by rw [e.out]; rfl) HB.out
  · have e := Lib.hid (show decide (l = m) = false from decide_eq_false fun e => hl (by rw [e]))
    have hne : ((l.length : Int) != (m.length : Int)) = true := by simp; omega
    clear hl
    go_enter Tryz.func8, Tryz.ntmps8
    go_wp2_with fail
    go_ret
    exact RetB.of (by rw [e.out]; rfl) (Below.refl _ _)

end Go.Proofs.YtcdndcbfmlnpjaaGreatDoor
