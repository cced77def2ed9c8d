/- Parse. -/
import Derived.Test.YtjnkbifafbjckaaGreatDoorZ10
import Derived.Test.YtjnkbifafbjckaaGreatDoorZ5
import Derived.Shelf.Strings.SlTrimAscii
import Derived.Outline
import Derived.Test.YtjnkbifafbjckaaGreatDoorZ17
import Derived.Test.YtjnkbifafbjckaaGreatDoorZ8
namespace Go.Proofs.YtjnkbifafbjckaaGreatDoor
set_option linter.all false
open Go.RowKit

theorem trimD (s : ByteArray) (w : World) (hs : s.size ≤ 1000000000) : Calls Tryz.prog 221 #[.string s, .string ⟨#[48, 49, 50, 51, 52, 53, 54, 55, 56, 57]⟩] w (RetB (.string ⟨(Lib.trimS s.data.toList Na.dset).toArray⟩) w) :=
  (Any.strings_Trim_laid Tryz.lays160 (by kernel_rfl) s ⟨#[48, 49, 50, 51, 52, 53, 54, 55, 56, 57]⟩ w (by omega) (by decide) (Go.Proofs.ascii_of_all (by decide))).mono fun _ _ h => ⟨h.1, h.2⟩
theorem na_trimL0 (s : ByteArray) (w : World) : Calls Tryz.prog 174 #[.string s, .string ⟨#[48]⟩] w (Ret0 (.string ⟨(s.data.toList.dropWhile (· == 48)).toArray⟩) w) :=
  (Tryz.strings_TrimLeft_one s 48 (by decide) w).mono fun _ _ h => ⟨h.1, h.2.symm⟩
theorem na_atoi (s : ByteArray) (w : World) (hd : s.data.toList.all Na.isD = true) (h : 0 < s.size ∧ s.size ≤ 9) : Calls Tryz.prog 157 #[.string s] w (RetB (.tuple #[.int .i64 (Na.num s.data.toList : Nat), .nilIface]) w) :=
  (Tryz.strconv_Atoi_ok s (by omega) _ (Na.atoi_num s.data.toList hd (fun e => by have := congrArg List.length e; rw [bs_length, List.length_nil] at this; omega) (by rw [bs_length]; exact h.2)) w).mono fun e w' he => ⟨he.1, by
    rcases he.2 with e | ⟨t, e⟩
    · rw [e]; exact Below.refl _ _
    · rw [e]; exact Lib.bytesWorld_below _ _ _⟩

set_option maxHeartbeats 1000000 in
theorem na_parse_empty (s : ByteArray) (w : World) (h : s.size = 0) : Calls Tryz.prog 189 #[.string s] w (GivesE (Na.parse s.data.toList) w) := by
  have e0 : s.data.toList = [] := List.eq_nil_of_length_eq_zero (by rw [bs_length]; exact h)
  have e := Lib.hid (gives_nil 3 (show Na.parse s.data.toList = ([], 3) from if_pos (Or.inl e0)) (Below.refl w.heap.size w))
  have h1 : s.toList.isEmpty = true := isEmpty_of_zero h
  have h2 : s.toList = [] := List.isEmpty_iff.1 h1
  clear e0 h
  go_enter Tryz.func189, Tryz.ntmps189
  go_wp2
  refine bodyPost_ret (v := .tuple #[.slice none 0 0, .int .i64 3]) (by simp [results, Tryz.results189, go_sem]) rfl e.out

set_option maxHeartbeats 1000000 in
theorem na_parse_form (s : ByteArray) (w : World) (h : 0 < s.size) (hs : s.size ≤ 1000000000) (hd : s.data.toList.all Na.isD = false) : Calls Tryz.prog 189 #[.string s] w (GivesE (Na.parse s.data.toList) w) := by
  have e := Lib.hid (fun w' (hb : Below w.heap.size w w') => gives_nil 3 (show Na.parse s.data.toList = ([], 3) from if_pos (Or.inr hd)) hb)
  have h1 : s.toList.isEmpty = false := isEmpty_of_pos h
  have hc := trimD s w hs
  obtain ⟨T, hT⟩ : ∃ T : ByteArray, T = ⟨(Lib.trimS s.data.toList Na.dset).toArray⟩ := ⟨_, rfl⟩
  have hTn : ¬ Lib.trimS s.data.toList Na.dset = [] := fun e => by rw [Na.trim_digits, hd] at e; cases e
  have hT0 : 0 < T.size := by rw [hT, size_mk]; exact List.length_pos_iff.2 hTn
  rw [← hT] at hc
  have HC := Lib.hid hc
  have h2 : T.toList.isEmpty = false := isEmpty_of_pos hT0
  clear hc hT hTn hd
  go_enter Tryz.func189, Tryz.ntmps189
  go_wp2_with (go_at_call 221; (with_reducible refine (HC.out).mono ?_); rintro e w1 ⟨rfl, hb_w1⟩; have hB_w1 : Below (w).heap.size (w) w1 := Below.trans (by (repeat (first | exact Below.refl _ _ | assumption | refine Below.setCell ?_ (by first | omega | (simp <;> omega)) _ | refine Below.alloc ?_ (by first | omega | (simp <;> omega)) _ | refine Below.drew ?_ | refine below_drewN' ?_ _))) (hb_w1.mono (by first | omega | (simp <;> omega))); obtain ⟨hc_w1, hf_w1⟩ := bcell hb_w1; have hz_w1 := hb_w1.size; (try simp only [size_drew', size_drewN', World.size_alloc, World.size_setCell] at hz_w1))
  refine bodyPost_ret (v := .tuple #[.slice none 0 0, .int .i64 3]) (by simp [results, Tryz.results189, go_sem]) rfl (e.out _ hB_w1)

set_option maxHeartbeats 1000000 in
theorem na_parse_long (s : ByteArray) (w : World) (h : 0 < s.size) (hs : s.size ≤ 1000000000) (hd : s.data.toList.all Na.isD = true) (hl : 3000 < (s.data.toList.dropWhile (· == 48)).length) : Calls Tryz.prog 189 #[.string s] w (GivesE (Na.parse s.data.toList) w) := by
  have hne : ¬ (s.data.toList = [] ∨ s.data.toList.all Na.isD = false) := by
    rw [hd]; rintro (e | e)
    · have := congrArg List.length e; rw [bs_length, List.length_nil] at this; omega
    · cases e
  have e := Lib.hid (fun w' (hb : Below w.heap.size w w') => gives_nil 2 (show Na.parse s.data.toList = ([], 2) from (if_neg hne).trans (Na.num_long _ hd hl)) hb)
  have h1 : s.toList.isEmpty = false := isEmpty_of_pos h
  have hc := trimD s w hs
  rw [(Na.trim_digits _).2 hd] at hc
  have HC := Lib.hid (show Calls Tryz.prog 221 #[.string s, .string ⟨#[48, 49, 50, 51, 52, 53, 54, 55, 56, 57]⟩] w (RetB (.string ⟨#[]⟩) w) from hc)
  obtain ⟨T, hT⟩ : ∃ T : ByteArray, T = ⟨(s.data.toList.dropWhile (· == 48)).toArray⟩ := ⟨_, rfl⟩
  have hTs : 3000 < T.size := by rw [hT, size_mk]; exact hl
  have HL := Lib.hid (fun w => na_trimL0 s w)
  rw [← hT] at HL
  clear hc hT hd hl hne
  go_enter Tryz.func189, Tryz.ntmps189
  go_wp2_with (first | (go_at_call 221; (with_reducible refine (HC.out).mono ?_); rintro e w1 ⟨rfl, hb_w1⟩; have hB_w1 : Below (w).heap.size (w) w1 := Below.trans (by (repeat (first | exact Below.refl _ _ | assumption | refine Below.setCell ?_ (by first | omega | (simp <;> omega)) _ | refine Below.alloc ?_ (by first | omega | (simp <;> omega)) _ | refine Below.drew ?_ | refine below_drewN' ?_ _))) (hb_w1.mono (by first | omega | (simp <;> omega))); obtain ⟨hc_w1, hf_w1⟩ := bcell hb_w1; have hz_w1 := hb_w1.size; (try simp only [size_drew', size_drewN', World.size_alloc, World.size_setCell] at hz_w1)) | (go_at_call 174; (with_reducible refine (HL.out _).mono ?_); rintro e w' ⟨rfl, rfl⟩))
  refine bodyPost_ret (v := .tuple #[.slice none 0 0, .int .i64 2]) (by simp [results, Tryz.results189, go_sem]) rfl (e.out _ hB_w1)
end Go.Proofs.YtjnkbifafbjckaaGreatDoor

/- Parse: the loop. -/
namespace Go.Proofs.YtjnkbifafbjckaaGreatDoor
set_option linter.all false
open Go.RowKit

def parseLoop (T : List UInt8) (w : World) (sv ov ev : Value) (wr : World) : Prop := ∃ (t : ByteArray) (k x : Nat) (a : Option Addr) (c : Nat), sv = .string t ∧ t.size + k = T.length ∧ Hid (t.data.toList = T.drop k) ∧ ev = .int .i64 0 ∧ Hid (x = Na.num (T.take k)) ∧
  ov = .slice a (Na.limbs x).length c ∧ (Na.limbs x).length ≤ 256 ∧ Hid (Sl wr a c (Na.limbs x)) ∧ Hid (Own wr w.heap.size a (Na.limbs x).length) ∧ Hid (Below w.heap.size w wr)

set_option maxHeartbeats 2000000 in
theorem na_parse_main (s : ByteArray) (w : World) (h : 0 < s.size) (hs : s.size ≤ 1000000000) (hd : s.data.toList.all Na.isD = true) (hl : (s.data.toList.dropWhile (· == 48)).length ≤ 3000) : Calls Tryz.prog 189 #[.string s] w (GivesE (Na.parse s.data.toList) w) := by
  have hne : ¬ (s.data.toList = [] ∨ s.data.toList.all Na.isD = false) := by
    rw [hd]; rintro (e | e)
    · have := congrArg List.length e; rw [bs_length, List.length_nil] at this; omega
    · cases e
  have e2 : Na.parse s.data.toList = Na.fits (Na.num (s.data.toList.dropWhile (· == 48))) := (if_neg hne).trans (by rw [Na.num_trim])
  have h1 : s.toList.isEmpty = false := isEmpty_of_pos h
  have hc := trimD s w hs
  rw [(Na.trim_digits _).2 hd] at hc
  have HC := Lib.hid (show Calls Tryz.prog 221 #[.string s, .string ⟨#[48, 49, 50, 51, 52, 53, 54, 55, 56, 57]⟩] w (RetB (.string ⟨#[]⟩) w) from hc)
  obtain ⟨L, hL⟩ : ∃ L, L = s.data.toList.dropWhile (· == 48) := ⟨_, rfl⟩
  have hLd := Lib.hid (hL ▸ Na.all_dropWhile _ hd : L.all Na.isD = true)
  obtain ⟨T, hT⟩ : ∃ T : ByteArray, T = ⟨L.toArray⟩ := ⟨_, rfl⟩
  have hTs : T.size = L.length := by rw [hT, size_mk]
  have hTl := Lib.hid (show T.data.toList = L by rw [hT])
  have HL := Lib.hid (fun w => na_trimL0 s w)
  rw [← hL, ← hT] at HL
  rw [← hL] at e2 hl
  have E2 := Lib.hid e2
  have HTS := Lib.hid hTs
  have hTle : T.size ≤ 3000 := by omega
  clear hc hT hd hL hne e2 hTs
  go_enter Tryz.func189, Tryz.ntmps189
  go_wp2_with (first | (go_at_call 221; (with_reducible refine (HC.out).mono ?_); rintro e w1 ⟨rfl, hb_w1⟩; have hB_w1 : Below (w).heap.size (w) w1 := Below.trans (by (repeat (first | exact Below.refl _ _ | assumption | refine Below.setCell ?_ (by first | omega | (simp <;> omega)) _ | refine Below.alloc ?_ (by first | omega | (simp <;> omega)) _ | refine Below.drew ?_ | refine below_drewN' ?_ _))) (hb_w1.mono (by first | omega | (simp <;> omega))); obtain ⟨hc_w1, hf_w1⟩ := bcell hb_w1; have hz_w1 := hb_w1.size; (try simp only [size_drew', size_drewN', World.size_alloc, World.size_setCell] at hz_w1)) | (go_at_call 174; (with_reducible refine (HL.out _).mono ?_); rintro e w' ⟨rfl, rfl⟩))
  go_loopw [0, 4, 5] (parseLoop L w) (fun sv _ _ _ => strLen sv)
  case atStart => exact ⟨T, 0, 0, none, 0, rfl, by have := HTS.out; omega, Lib.hid hTl.out, rfl, Lib.hid rfl, by rw [Na.limbs_zero]; rfl, by rw [Na.limbs_zero]; simp, Lib.hid (by rw [Na.limbs_zero]; exact Sl.nil _ _ _), Lib.hid (by rw [Na.limbs_zero]; exact Own.nil _ _ _), Lib.hid hB_w1⟩
  case round =>
    obtain ⟨t, k, x, a, c, rfl, hk, HT, rfl, HX, rfl, hlen, HSl, HOw, HBe⟩ := hrel
    by_cases h0 : 0 < t.size
    · obtain ⟨n, hn⟩ : ∃ n, n = min 9 t.size := ⟨_, rfl⟩
      have hmin : min (9 : Int) (t.size : Int) = (n : Int) := by omega
      have hn1 : 1 ≤ n ∧ n ≤ 9 ∧ n ≤ t.size := by omega
      obtain ⟨hn1, hn9, hnt⟩ := hn1
      obtain ⟨U, hU⟩ : ∃ U, U = t.extract 0 n := ⟨_, rfl⟩
      obtain ⟨R, hR⟩ : ∃ U, U = t.extract n t.size := ⟨_, rfl⟩
      have hUl : U.data.toList = (L.drop k).take n := by rw [hU, Lib.extract_data, List.drop_zero, Nat.sub_zero, HT.out]
      have hUs : U.size = n := by rw [hU, ByteArray.size_extract]; omega
      have hRs : R.size + n = t.size := by rw [hR, ByteArray.size_extract]; omega
      have hRl := Lib.hid (show R.data.toList = L.drop (k + n) by
        rw [hR, Lib.extract_to_end, HT.out, List.drop_drop])
      have hUd : U.data.toList.all Na.isD = true := by
        rw [hUl, List.all_eq_true]; intro y hy
        exact List.all_eq_true.1 hLd.out y (List.mem_of_mem_drop (List.mem_of_mem_take hy))
      have hAT := Lib.hid (fun w => na_atoi U w hUd ⟨by omega, by omega⟩)
      have hsp := Na.num_split L k n
      rw [← hUl, ← HX.out, bs_length, hUs] at hsp
      have hvl := Na.num_lt _ hUd
      rw [bs_length, hUs] at hvl
      obtain ⟨v, hv⟩ : ∃ v, v = Na.num U.data.toList := ⟨_, rfl⟩
      rw [← hv] at hsp hAT hvl
      have hv9 : v < 1000000000 := Nat.lt_of_lt_of_le hvl (Nat.pow_le_pow_right (n := 10) (by decide) hn9)
      obtain ⟨P, hP⟩ : ∃ P, P = 10 ^ n := ⟨_, rfl⟩
      have hPl : (Na.limbs P).length ≤ 256 := (Na.limbs_len_iff P 256).2 (Nat.lt_of_le_of_lt (show P ≤ 1000000000 by rw [hP]; exact Nat.pow_le_pow_right (n := 10) (by decide) hn9) (by decide +kernel))
      have hpw := fun w => na_pow_any (10 : Nat) (n : Int) w (by omega) (by omega)
      have hpe : Na.pow (10 : Nat) (n : Int) = (Na.limbs P, 0) := by
        rw [Na.pow, if_neg (by omega), if_neg (by omega), Int.toNat_natCast, Int.toNat_natCast, ← hP, Na.fits, if_neg (by omega)]
      rw [hpe] at hpw
      have HPW := Lib.hid (show ∀ w, Calls Tryz.prog 131 #[.int .i64 10, .int .i64 n] w (GivesE (Na.limbs P, 0) w) from hpw)
      have hmul : Na.mul (Na.limbs x) (Na.limbs P) = Na.fits (x * P) := by
        rw [Na.mul, if_neg (by simp [Na.big, Na.rt_limbs]; exact ⟨hlen, hPl⟩), Na.val_limbs, Na.val_limbs]
      have HM := Lib.hid (fun w1 a' c' (hs : Sl w1 a c (Na.limbs x)) (hs' : Sl w1 a' c' (Na.limbs P)) => (by
        have := na_mul_any a c (Na.limbs x) a' c' (Na.limbs P) w1 hs hs' (by omega) (by omega)
        rwa [hmul] at this : Calls Tryz.prog 132 #[.slice a (Na.limbs x).length c, .slice a' (Na.limbs P).length c'] w1 (GivesE (Na.fits (x * P)) w1)))
      have hpre := Na.num_pre L (k + n)
      rw [← hP] at hsp
      have HSP := Lib.hid hsp
      have hRE := hR.symm; have hUE := hU.symm
      have hsz := HBe.out.size
      clear hn hUl hUd hv hpw hpe hP hsp hmul hvl hR hU
      have hB4 : ∀ w2 w3 w4 : World, Below wr.heap.size wr w2 → Below w2.heap.size w2 w3 → Below w3.heap.size w3 w4 → Below w.heap.size w w4 ∧ w.heap.size ≤ w3.heap.size := fun _ _ _ h2 h3 h4 =>
        ⟨HBe.out.trans ((h2.mono hsz).trans ((h3.mono (Nat.le_trans hsz h2.size)).trans (h4.mono (Nat.le_trans hsz (Nat.le_trans h2.size h3.size))))), Nat.le_trans hsz (Nat.le_trans h2.size h3.size)⟩
      have HB4 := Lib.hid hB4; clear hB4
      by_cases hov : 256 < (Na.limbs (x * P)).length
      · have ef : Na.fits (x * P) = ([], 2) := if_pos hov
        rw [ef] at HM
        have EE := Lib.hid (show Na.parse s.data.toList = ([], 2) by
          rw [E2.out]; exact Na.fits_more ef (by have := HSP.out; omega))
        clear ef hov HSP hpre
        go_wp2_with (first | (go_at_call 157; (with_reducible refine (hAT.out _).mono ?_); rintro e w2 ⟨rfl, hb2⟩; have hS2 := HSl.out.on hb2) | (go_at_call 131; (with_reducible refine (HPW.out _).mono ?_); rintro e w3 ⟨a3, c3, rfl, hs3, ho3, hb3⟩; have hS3 := hS2.on hb3) | (go_at_call 132; (with_reducible refine (HM.out _ _ _ hS3 hs3).mono ?_); rintro e w4 ⟨a4, c4, rfl, hs4, ho4, hb4⟩))
        refine bodyPost_ret (v := .tuple #[.slice none 0 0, .int .i64 2]) (by simp [results, Tryz.results189, go_sem]) rfl (by rw [EE.out]; exact ⟨none, 0, rfl, Sl.nil _ _ _, Own.nil _ _ _, (HB4.out _ _ _ hb2 hb3 hb4).1⟩)
      · have ef : Na.fits (x * P) = (Na.limbs (x * P), 0) := if_neg hov
        rw [ef] at HM
        have hvl : (Na.limbs v).length ≤ 256 := (Na.limbs_len_iff v 256).2 (Nat.lt_of_lt_of_le hv9 (by decide +kernel))
        have hadd : Na.add (Na.limbs (x * P)) (Na.limbs v) = Na.fits (x * P + v) := by
          rw [Na.add, if_neg (by simp [Na.big, Na.rt_limbs]; exact ⟨by omega, hvl⟩), Na.val_limbs, Na.val_limbs]
        have HA := Lib.hid (fun w1 a' c' a'' c'' (hs : Sl w1 a' c' (Na.limbs (x * P))) (hs' : Sl w1 a'' c'' (Na.limbs v)) => (by
          have := na_add_any a' c' (Na.limbs (x * P)) a'' c'' (Na.limbs v) w1 hs hs' (by omega) (by omega)
          rwa [hadd] at this : Calls Tryz.prog 88 #[.slice a' (Na.limbs (x * P)).length c', .slice a'' (Na.limbs v).length c''] w1 (GivesE (Na.fits (x * P + v)) w1)))
        have HOF := Lib.hid (fun w => na_of_any v (by omega) w)
        clear ef hadd
        by_cases hov2 : 256 < (Na.limbs (x * P + v)).length
        · have ef : Na.fits (x * P + v) = ([], 2) := if_pos hov2
          rw [ef] at HA
          have EE := Lib.hid (show Na.parse s.data.toList = ([], 2) by
            rw [E2.out]; exact Na.fits_more ef (by have := HSP.out; omega))
          clear ef hov hov2 HSP hpre hvl
          go_wp2_with (first | (go_at_call 157; (with_reducible refine (hAT.out _).mono ?_); rintro e w2 ⟨rfl, hb2⟩; have hS2 := HSl.out.on hb2) | (go_at_call 131; (with_reducible refine (HPW.out _).mono ?_); rintro e w3 ⟨a3, c3, rfl, hs3, ho3, hb3⟩; have hS3 := hS2.on hb3) | (go_at_call 132; (with_reducible refine (HM.out _ _ _ hS3 hs3).mono ?_); rintro e w4 ⟨a4, c4, rfl, hs4, ho4, hb4⟩) | (go_at_call 72; (with_reducible refine (HOF.out _).mono ?_); rintro e w5 ⟨g5, rfl, hg5, hk5, hb5⟩; have hS5 := hk5.sl (Na.ok_limbs v) (Nat.le_refl _); have hS4 := hs4.on hb5) | (go_at_call 88; (with_reducible refine (HA.out _ _ _ _ _ hS4 hS5).mono ?_); rintro e w6 ⟨a6, c6, rfl, hs6, ho6, hb6⟩))
          have hB4 := HB4.out _ _ _ hb2 hb3 hb4
          refine bodyPost_ret (v := .tuple #[.slice none 0 0, .int .i64 2]) (by simp [results, Tryz.results189, go_sem]) rfl (by rw [EE.out]; exact ⟨none, 0, rfl, Sl.nil _ _ _, Own.nil _ _ _, hB4.1.trans ((hb5.mono hB4.1.size).trans (hb6.mono (Nat.le_trans hB4.1.size hb5.size)))⟩)
        · have ef : Na.fits (x * P + v) = (Na.limbs (x * P + v), 0) := if_neg hov2
          rw [ef] at HA
          have HSP' := Lib.hid (show x * P + v = Na.num (L.take (k + n)) from HSP.out.symm)
          have hov2' : (Na.limbs (x * P + v)).length ≤ 256 := by omega
          obtain ⟨y, hy⟩ : ∃ y, y = x * P + v := ⟨_, rfl⟩
          rw [← hy] at HA HSP' hov2'
          clear ef hov hov2 HSP hpre hvl hy
          go_wp2_with (first | (go_at_call 157; (with_reducible refine (hAT.out _).mono ?_); rintro e w2 ⟨rfl, hb2⟩; have hS2 := HSl.out.on hb2) | (go_at_call 131; (with_reducible refine (HPW.out _).mono ?_); rintro e w3 ⟨a3, c3, rfl, hs3, ho3, hb3⟩; have hS3 := hS2.on hb3) | (go_at_call 132; (with_reducible refine (HM.out _ _ _ hS3 hs3).mono ?_); rintro e w4 ⟨a4, c4, rfl, hs4, ho4, hb4⟩) | (go_at_call 72; (with_reducible refine (HOF.out _).mono ?_); rintro e w5 ⟨g5, rfl, hg5, hk5, hb5⟩; have hS5 := hk5.sl (Na.ok_limbs v) (Nat.le_refl _); have hS4 := hs4.on hb5) | (go_at_call 88; (with_reducible refine (HA.out _ _ _ _ _ hS4 hS5).mono ?_); rintro e w6 ⟨a6, c6, rfl, hs6, ho6, hb6⟩))
          have hB4 := HB4.out _ _ _ hb2 hb3 hb4
          have hB6 := hB4.1.trans ((hb5.mono hB4.1.size).trans (hb6.mono (Nat.le_trans hB4.1.size hb5.size)))
          have hO6 : Own w6 w.heap.size a6 (Na.limbs y).length := fun h0 => by
            obtain ⟨b', o', e, hb', hf⟩ := ho6 h0
            exact ⟨b', o', e, Nat.le_trans (Nat.le_trans hB4.1.size hb5.size) hb', hf⟩
          go_roundw
          case rel => exact ⟨R, k + n, y, a6, c6, rfl, by omega, hRl, rfl, HSP', rfl, hov2', Lib.hid hs6, Lib.hid hO6, Lib.hid hB6⟩
          case measure => simp only [strLen]; omega
    · have h00 : t.size = 0 := by omega
      obtain rfl : k = L.length := by omega
      have EE := Lib.hid (show Na.parse s.data.toList = (Na.limbs x, 0) by
        have hx : x = Na.num L := by have := HX.out; rwa [List.take_length] at this
        rw [E2.out, Na.fits, ← hx, if_neg (by omega)])
      go_wp2_with fail
      refine bodyPost_ret (v := .tuple #[.slice a (Na.limbs x).length c, .int .i64 0]) (by simp [results, Tryz.results189, go_sem]) rfl (by rw [EE.out]; exact ⟨a, c, rfl, HSl.out, HOw.out, HBe.out⟩)

theorem na_parse_any (s : ByteArray) (w : World) (hs : s.size ≤ 1000000000) : Calls Tryz.prog 189 #[.string s] w (GivesE (Na.parse s.data.toList) w) := by
  by_cases h : s.size = 0
  · exact na_parse_empty s w h
  · cases hd : s.data.toList.all Na.isD with
    | false => exact na_parse_form s w (by omega) hs hd
    | true =>
      by_cases hl : 3000 < (s.data.toList.dropWhile (· == 48)).length
      · exact na_parse_long s w (by omega) hs hd hl
      · exact na_parse_main s w (by omega) hs hd (by omega)
end Go.Proofs.YtjnkbifafbjckaaGreatDoor

/- The reference: bits from a place on, bits below a place. -/
namespace Go.Proofs.YtjnkbifafbjckaaGreatDoor
set_option linter.all false
open Go.RowKit

/-- Bits taken from a place on. -/
theorem Fl.bits_step (A n k : Nat) (b : Bool) (h : Na.bit A (n + k) = b) (t : Nat) : A / 2 ^ (n + k) % 2 ^ (t + 1) = 2 * (A / 2 ^ (n + k + 1) % 2 ^ t) + b.toNat := by
  have h1 : A / 2 ^ (n + k) = 2 * (A / 2 ^ (n + k + 1)) + b.toNat := by
    rw [Nat.pow_succ, ← Nat.div_div_eq_div_mul]
    rw [Na.bit] at h
    have h1 := Nat.div_add_mod (A / 2 ^ (n + k)) 2
    cases b with
    | true => have := of_decide_eq_true h; show _ = _ + 1; omega
    | false => have h2 := of_decide_eq_false h; have := Nat.mod_lt (A / 2 ^ (n + k)) (show 0 < 2 by decide); show _ = _ + 0; omega
  rw [h1]
  obtain ⟨q, hq⟩ : ∃ q, q = A / 2 ^ (n + k + 1) := ⟨_, rfl⟩
  rw [← hq]
  have hb : b.toNat ≤ 1 := by cases b <;> decide
  have hp : 0 < 2 ^ t := Nat.pow_pos (by decide)
  have h2 := Nat.div_add_mod q (2 ^ t)
  have h3 := Nat.mod_lt q hp
  have h4 : 2 * q + b.toNat = 2 ^ (t + 1) * (q / 2 ^ t) + (2 * (q % 2 ^ t) + b.toNat) := by
    rw [Nat.pow_succ, Nat.mul_comm (2 ^ t) 2, Nat.mul_assoc]; omega
  rw [h4, Nat.mul_add_mod]
  exact Nat.mod_eq_of_lt (by rw [Nat.pow_succ]; omega)
/-- No bit below a place is set. -/
theorem Fl.low_step (A i : Nat) (h0 : A % 2 ^ i = 0) (hb : Na.bit A i = false) : A % 2 ^ (i + 1) = 0 := by
  rw [Na.bit] at hb
  have h2 := of_decide_eq_false hb
  have h3 := Nat.div_add_mod A (2 ^ i)
  rw [h0, Nat.add_zero] at h3
  have h4 : A / 2 ^ i = 2 * (A / 2 ^ i / 2) := by omega
  rw [Nat.pow_succ, ← h3, h4, ← Nat.mul_assoc]
  exact Nat.mul_mod_right _ _
theorem Fl.low_some (A i n : Nat) (hb : Na.bit A i = true) (hi : i < n) : A % 2 ^ n ≠ 0 := by
  intro h
  rw [Na.bit] at hb
  have hb := of_decide_eq_true hb
  obtain ⟨c, hc⟩ := Nat.dvd_of_mod_eq_zero h
  obtain ⟨d, rfl⟩ : ∃ d, n = i + (d + 1) := ⟨n - i - 1, by omega⟩
  rw [hc, Nat.pow_add, Nat.mul_assoc, Nat.mul_div_cancel_left _ (Nat.pow_pos (by decide)), Nat.pow_succ, Nat.mul_comm (2 ^ d) 2, Nat.mul_assoc, Nat.mul_mod_right] at hb
  omega
def fromLoop (A n : Nat) (vv iv : Value) : Prop := ∃ k v : Nat, k ≤ 64 ∧ iv = .int .i64 ((k : Int) - 1) ∧ vv = .int .u64 v ∧ Hid (v = A / 2 ^ (n + k) % 2 ^ (64 - k))

set_option maxHeartbeats 2000000 in
theorem r3_from_any (a : Option Addr) (c : Nat) (l : List Nat) (n : Nat) (w : World) (h : Sl w a c l) (hl : l.length ≤ 20000) (hn : n ≤ 1000000) :
    Calls Tryz.prog 95 #[.slice a l.length c, .int .i64 n] w (Ret0 (.int .u64 (Na.val l / 2 ^ n % 18446744073709551616 : Nat)) w) := by
  have HB := Lib.hid (fun i (hi : i ≤ 100000000) => r1_bit_any a c l i w h (by omega) hi)
  obtain ⟨A, hA⟩ : ∃ A, A = Na.val l := ⟨_, rfl⟩
  rw [← hA] at HB ⊢
  obtain ⟨ll, hll⟩ : ∃ z, l.length = z := ⟨_, rfl⟩
  rw [hll] at HB ⊢
  obtain ⟨R, hR⟩ : ∃ R, R = A / 2 ^ n % 18446744073709551616 := ⟨_, rfl⟩
  have HR := Lib.hid hR
  rw [← hR]
  clear hA h hll hl hR
  go_enter Tryz.func95, Tryz.ntmps95
  go_wp2_with fail
  go_loop [5, 6] (fromLoop A n) (fun _ i => (intOf i + 1).toNat)
  case atStart => exact ⟨64, 0, Nat.le_refl _, rfl, rfl, Lib.hid (by rw [Nat.sub_self, Nat.pow_zero, Nat.mod_one])⟩
  case round =>
    obtain ⟨k, v, hk, rfl, rfl, HV⟩ := hrel
    cases k with
    | zero =>
      have hv := HV.out
      rw [Nat.add_zero, Nat.sub_zero] at hv
      obtain rfl : v = R := by rw [HR.out]; exact hv
      clear hv
      go_wp2_with fail
      go_ret
      exact Ret0.of rfl
    | succ j =>
      have hji : (((j + 1 : Nat) : Int) - 1) = (j : Int) := by omega
      rw [hji]
      have hv63 : v < 9223372036854775808 := by
        have h1 : v < 2 ^ (64 - (j + 1)) := by rw [HV.out]; exact Nat.mod_lt _ (Nat.pow_pos (by decide))
        exact Nat.lt_of_lt_of_le h1 (Nat.pow_le_pow_right (n := 2) (j := 63) (by decide) (by omega))
      obtain ⟨b, hb⟩ : ∃ b, b = Na.bit A (n + j) := ⟨_, rfl⟩
      have hbit := HB.out (n + j) (by omega)
      rw [← hb, show ((n + j : Nat) : Int) = (n : Int) + (j : Int) by omega] at hbit
      have HBT := Lib.hid hbit
      have hst := Fl.bits_step A n j b hb.symm (64 - (j + 1))
      rw [show n + j + 1 = n + (j + 1) by omega, ← HV.out, show 64 - (j + 1) + 1 = 64 - j by omega] at hst
      have HST := Lib.hid hst
      clear hst hbit hb
      cases b with
      | false =>
        go_wp2_with (go_at_call 96; (with_reducible refine (HBT.out).mono ?_); rintro e w' ⟨rfl, rfl⟩)
        go_round
        case rel => exact ⟨j, 2 * v, by omega, rfl, by go_num, Lib.hid HST.out.symm⟩
        case measure => simp [intOf]
      | true =>
        go_wp2_with (go_at_call 96; (with_reducible refine (HBT.out).mono ?_); rintro e w' ⟨rfl, rfl⟩)
        go_round
        case rel => exact ⟨j, 2 * v + 1, by omega, rfl, by go_num, Lib.hid HST.out.symm⟩
        case measure => simp [intOf]

set_option maxHeartbeats 2000000 in
theorem r3_low_any (a : Option Addr) (c : Nat) (l : List Nat) (n : Nat) (w : World) (h : Sl w a c l) (hl : l.length ≤ 20000) (hn : n ≤ 1000000) :
    Calls Tryz.prog 97 #[.slice a l.length c, .int .i64 n] w (Ret0 (.bool (decide (Na.val l % 2 ^ n ≠ 0))) w) := by
  have HB := Lib.hid (fun i (hi : i ≤ 100000000) => r1_bit_any a c l i w h (by omega) hi)
  have hAl := Na.val_lt l h.ok
  rw [show Na.B ^ l.length = 2 ^ (32 * l.length) by rw [Nat.pow_mul]] at hAl
  obtain ⟨A, hA⟩ : ∃ A, A = Na.val l := ⟨_, rfl⟩
  rw [← hA] at HB hAl ⊢
  obtain ⟨ll, hll⟩ : ∃ z, l.length = z := ⟨_, rfl⟩
  rw [hll] at HB hAl hl ⊢
  have HAL := Lib.hid hAl
  obtain ⟨R, hR⟩ : ∃ R, R = decide (A % 2 ^ n ≠ 0) := ⟨_, rfl⟩
  have HR := Lib.hid hR
  rw [← hR]
  clear hA h hll hAl hR
  go_enter Tryz.func97, Tryz.ntmps97
  go_wp2_with fail
  go_loop [5] (fun i => ∃ k : Nat, k ≤ n ∧ i = .int .i64 k ∧ A % 2 ^ k = 0) (fun i => n - (intOf i).toNat)
  case atStart => exact ⟨0, Nat.zero_le _, rfl, by rw [Nat.pow_zero, Nat.mod_one]⟩
  case round =>
    obtain ⟨k, hk, rfl, hz⟩ := hrel
    have HZ := Lib.hid hz; clear hz
    by_cases hlt : k < n
    · by_cases hlt2 : k < 32 * ll
      · obtain ⟨b, hb⟩ : ∃ b, b = Na.bit A k := ⟨_, rfl⟩
        have hbit := HB.out k (by omega)
        rw [← hb] at hbit
        have HBT := Lib.hid hbit
        have hlt2i : (k : Int) < 32 * (ll : Int) := by omega
        cases b with
        | false =>
          have HS := Lib.hid (Fl.low_step A k HZ.out hb.symm)
          clear hb hbit hlt2
          go_wp2_with (go_at_call 96; (with_reducible refine (HBT.out).mono ?_); rintro e w' ⟨rfl, rfl⟩)
          go_round
          case rel => exact ⟨k + 1, by omega, by go_num, HS.out⟩
          case measure => simp [intOf]; omega
        | true =>
          obtain rfl : R = true := by rw [HR.out]; exact decide_eq_true (Fl.low_some A k n hb.symm hlt)
          clear hb hbit hlt2
          go_wp2_with (go_at_call 96; (with_reducible refine (HBT.out).mono ?_); rintro e w' ⟨rfl, rfl⟩)
          go_ret
          exact Ret0.of rfl
      · have hk2 : ¬ (k : Int) < 32 * (ll : Int) := by omega
        have hA0 : A = 0 := by
          have h1 : A < 2 ^ k := Nat.lt_of_lt_of_le HAL.out (Nat.pow_le_pow_right (by decide) (by omega))
          have := HZ.out
          rwa [Nat.mod_eq_of_lt h1] at this
        obtain rfl : R = false := by rw [HR.out, hA0, Nat.zero_mod]; rfl
        clear hA0 hlt2
        go_wp2_with fail
        go_ret
        exact Ret0.of rfl
    · obtain rfl : k = n := by omega
      obtain rfl : R = false := by rw [HR.out, HZ.out]; rfl
      go_wp2_with fail
      go_ret
      exact Ret0.of rfl
end Go.Proofs.YtjnkbifafbjckaaGreatDoor

/- The reference: a number rounded to a binary64. -/
namespace Go.Proofs.YtjnkbifafbjckaaGreatDoor
set_option linter.all false
open Go.RowKit

theorem Fl.upw_half {n k : Nat} {more half rest : Bool} (hh : half = Na.bit n (k - 1)) (hr : rest = decide (n % 2 ^ (k - 1) ≠ 0)) : Fl.upw n k more = (half && (rest || more || decide (n / 2 ^ k % 2 = 1))) := by
  rw [Fl.upw, hh, hr, Na.bit]

theorem Fl.lt2 {q : Nat} (h : q < 9007199254740992) : q < Na.B ^ 2 := by
  rw [Nat.pow_two, show Na.B = 4294967296 from rfl]; omega

theorem r3_from_zero (a : Option Addr) (c q : Nat) (w : World) (h : Sl w a c (Na.limbs q)) (hq : q < 9007199254740992) :
    Calls Tryz.prog 95 #[.slice a (Na.limbs q).length c, .int .i64 0] w (Ret0 (.int .u64 (q : Int)) w) := by
  have h2 := Na.limbs_len_le q 2 (Fl.lt2 hq)
  have := r3_from_any a c (Na.limbs q) 0 w h (by omega) (by omega)
  rw [Na.val_limbs, Nat.pow_zero, Nat.div_one, Nat.mod_eq_of_lt (by omega)] at this
  exact this

theorem r3_from_small (a : Option Addr) (c n k ln : Nat) (w : World) (h : Sl w a c (Na.limbs n)) (hl : (Na.limbs n).length = ln) (hln : ln ≤ 20000) (hk : k ≤ 1000000) (hq : n / 2 ^ k < 9007199254740992) :
    Calls Tryz.prog 95 #[.slice a ln c, .int .i64 k] w (Ret0 (.int .u64 ((n / 2 ^ k : Nat) : Int)) w) := by
  subst hl
  have := r3_from_any a c (Na.limbs n) k w h hln hk
  rw [Na.val_limbs, Nat.mod_eq_of_lt (show n / 2 ^ k < 18446744073709551616 by omega)] at this
  exact this

set_option maxRecDepth 100000 in
set_option maxHeartbeats 4000000 in
theorem r3_round_zero (neg : Bool) (a : Option Addr) (c : Nat) (e : Int) (more : Bool) (w : World) (h : Sl w a c (Na.limbs 0)) (hz : a = none → c = 0) :
    Calls Tryz.prog 28 #[.bool neg, .slice a (Na.limbs 0).length c, .int .i64 e, .bool more] w (RetB (.int .u64 ((if neg then 9223372036854775808 else 0 : Nat) : Int)) w) := by
  have hl := r1_len_any a c (Na.limbs 0) w h hz (by rw [Na.limbs_zero]; simp)
  rw [Na.val_limbs, show Na.bitLen 0 = 0 from rfl] at hl
  have HL := Lib.hid (show Calls Tryz.prog 79 #[.slice a (Na.limbs 0).length c] w (RetB (.int .i64 0) w) from hl)
  obtain ⟨l0, hl0⟩ : ∃ z, z = (Na.limbs 0).length := ⟨_, rfl⟩
  rw [← hl0] at HL ⊢
  clear h hz hl hl0
  cases neg with
  | false =>
    go_enter Tryz.func28, Tryz.ntmps28
    go_wp2_with (go_at_call 79; (with_reducible refine (HL.out).mono ?_); rintro e w1 ⟨rfl, hb1⟩)
    go_ret
    exact RetB.of rfl hb1
  | true =>
    go_enter Tryz.func28, Tryz.ntmps28
    go_wp2_with (go_at_call 79; (with_reducible refine (HL.out).mono ?_); rintro e w1 ⟨rfl, hb1⟩)
    go_ret
    exact RetB.of rfl hb1

set_option maxRecDepth 100000 in
set_option maxHeartbeats 8000000 in
theorem r3_round_pos (neg : Bool) (a : Option Addr) (c n : Nat) (e : Int) (more : Bool) (w : World) (h : Sl w a c (Na.limbs n)) (hz : a = none → c = 0) (hl : (Na.limbs n).length ≤ 5000) (he : -50000 ≤ e ∧ e ≤ 2000) (hn : n ≠ 0) :
    Calls Tryz.prog 28 #[.bool neg, .slice a (Na.limbs n).length c, .int .i64 e, .bool more] w (RetB (.int .u64 (((if neg then 9223372036854775808 else 0) + Fl.rd n e more : Nat) : Int)) w) := by
  have hlen := r1_len_any a c (Na.limbs n) w h hz (by omega)
  rw [Na.val_limbs] at hlen
  obtain ⟨bl1, bl2, bl3⟩ := Fl.bitLen_ge hn
  have hbl : Na.bitLen n ≤ 160000 := by
    have h1 := Na.val_lt (Na.limbs n) (Na.ok_limbs n)
    rw [Na.val_limbs, show Na.B ^ (Na.limbs n).length = 2 ^ (32 * (Na.limbs n).length) by rw [Nat.pow_mul]] at h1
    have := Na.bitLen_le' h1
    omega
  have hu : Fl.ulp n e = max (e + (Na.bitLen n : Int) - 53) (-1074) := rfl
  have hrd := fun m u (h1 : u = Fl.ulp n e) (h2 : m = Fl.rdm n (u - e) more) => Fl.rd_of (more := more) hn h1 h2
  have hkb := fun k hk hk0 => Fl.kept_bounds (e := e) hn k hk hk0
  have hub := fun t ht => Fl.up_bounds (e := e) hn t ht
  have hrb := Fl.rdm_bounds (e := e) hn more
  obtain ⟨L, hL⟩ : ∃ L, L = Na.bitLen n := ⟨_, rfl⟩
  obtain ⟨u, hu'⟩ : ∃ u, u = Fl.ulp n e := ⟨_, rfl⟩
  rw [← hL] at hlen hbl hu bl3
  rw [← hu'] at hu hkb hub hrb
  have hrd' := hrd (Fl.rdm n (u - e) more) u hu' rfl
  obtain ⟨M, hM⟩ : ∃ M, M = Fl.rdm n (u - e) more := ⟨_, rfl⟩
  rw [← hM] at hrd' hrb
  obtain ⟨D, hD⟩ : ∃ D, D = Fl.rd n e more := ⟨_, rfl⟩
  rw [← hD] at hrd' ⊢
  have hul : -1074 ≤ u := by omega
  have huh : u ≤ 170000 := by omega
  have HN := Lib.hid hlen
  have HS := Lib.hid h; have HZ := Lib.hid hz
  have HRD := Lib.hid hrd'; have HKB := Lib.hid hkb; have HUB := Lib.hid hub; have HRB := Lib.hid hrb; have HM := Lib.hid hM
  obtain ⟨S, hS⟩ : ∃ S : Nat, S = if neg then 9223372036854775808 else 0 := ⟨_, rfl⟩
  have hS2 : S = 0 ∨ S = 9223372036854775808 := by rw [hS]; cases neg <;> simp
  rw [← hS]
  obtain ⟨ln, hln⟩ : ∃ z, (Na.limbs n).length = z := ⟨_, rfl⟩
  have HLN := Lib.hid hln
  rw [hln] at HN hl ⊢
  obtain ⟨e1, e2⟩ := he
  have hL0 : ((L : Int) == 0) = false := by simp only [beq_eq_false_iff_ne, ne_eq]; omega
  have he3 : decide (e < -100000) = false := decide_eq_false (by omega)
  have hmax : e + (L : Int) - 53 < -1074 ∧ u = -1074 ∨ ¬ e + (L : Int) - 53 < -1074 ∧ u = e + (L : Int) - 53 := by omega
  have HMAX := Lib.hid hmax
  have HSV := Lib.hid hS
  clear h hz hlen bl1 bl2 bl3 hrd hkb hub hrb hrd' hM hD hu' hL hln hu hmax hS
  go_enter Tryz.func28, Tryz.ntmps28
  go_upto_if 16 with (fail)
  go_cut [9] (fun sv w' => sv = .int .u64 S ∧ w' = w)
  case first =>
    cases neg with
    | false =>
      have hS0 : S = 0 := HSV.out
      subst hS0
      go_wp2
      go_meet
      exact ⟨rfl, rfl⟩
    | true =>
      have hS0 : S = 9223372036854775808 := HSV.out
      subst hS0
      go_wp2
      go_meet
      exact ⟨rfl, rfl⟩
  case rest => as_aux_lemma =>
    obtain ⟨rfl, hw⟩ := hcut
    rw [hw]
    clear HSV hw
    go_upto_if 41 with (go_at_call 79; (with_reducible refine (HN.out).mono ?_); rintro e' w1 ⟨rfl, hb1⟩)
    go_cut [11] (fun uv w' => uv = .int .i64 u ∧ w' = w1)
    case first =>
      rcases HMAX.out with ⟨h1, h2⟩ | ⟨h1, h2⟩
      · have H2 := Lib.hid h2
        clear h2
        go_wp2
        go_meet
        exact ⟨by rw [H2.out], rfl⟩
      · have H2 := Lib.hid h2
        clear h2
        go_wp2
        go_meet
        exact ⟨by rw [H2.out], rfl⟩
    case rest => as_aux_lemma =>
      obtain ⟨rfl, hw⟩ := hcut
      rw [hw]
      clear HMAX HN hw
      go_upto_if 44 with (fail)
      go_cut [12] (fun mv w' => mv = .int .u64 M ∧ Hid (Below w.heap.size w w'))
      case first =>
        clear HRD HRB
        by_cases hk : u ≤ e
        · obtain ⟨t, ht⟩ : ∃ t : Nat, t = (e - u).toNat := ⟨_, rfl⟩
          have hti : e - u = (t : Int) := by omega
          obtain ⟨k1, -⟩ := HUB.out t (by omega)
          have hup := r3_up_any a c (Na.limbs n) t w1 (HS.out.on hb1) HZ.out (by rw [HLN.out]; omega) (by omega)
          rw [Na.val_limbs, HLN.out] at hup
          have HMM := Lib.hid (show n * 2 ^ t = M by rw [HM.out, Fl.rdm, if_pos (by omega), show (-(u - e)).toNat = t by omega])
          obtain ⟨q, hq⟩ : ∃ q, q = n * 2 ^ t := ⟨_, rfl⟩
          rw [← hq] at hup HMM k1
          have HUP := Lib.hid hup
          have HFR := Lib.hid (fun w2 a2 c2 (s2 : Sl w2 a2 c2 (Na.limbs q)) => r3_from_zero a2 c2 q w2 s2 k1)
          obtain rfl : q = M := HMM.out
          clear hup ht hq
          go_wp2_with (first
            | (go_at_call 43; (with_reducible refine (HUP.out).mono ?_); rintro e' w2 ⟨a2, c2, rfl, s2, z2, -, hb2⟩)
            | (go_at_call 95; (with_reducible refine (HFR.out _ _ _ s2).mono ?_); rintro e w' ⟨rfl, rfl⟩))
          go_meet
          exact ⟨rfl, Lib.hid (hb1.trans (hb2.mono hb1.size))⟩
        · obtain ⟨k, hkk⟩ : ∃ k : Nat, k = (u - e).toNat := ⟨_, rfl⟩
          have hki : u - e = (k : Int) := by omega
          have hk0 : 0 < k := by omega
          obtain ⟨k1, -⟩ := HKB.out k (by omega) hk0
          obtain ⟨j, hj⟩ : ∃ j, j = k - 1 := ⟨_, rfl⟩
          have hji : (k : Int) - 1 = (j : Int) := by omega
          have hsw : Sl w1 a c (Na.limbs n) := HS.out.on hb1
          have hln20 : (Na.limbs n).length ≤ 20000 := by rw [HLN.out]; omega
          have hfr := r3_from_small a c n k ln w1 hsw HLN.out (by omega) (by omega) k1
          have hbt := r1_bit_any a c (Na.limbs n) j w1 hsw (by omega) (by omega)
          have hlw := r3_low_any a c (Na.limbs n) j w1 hsw hln20 (by omega)
          rw [Na.val_limbs, HLN.out] at hbt hlw
          obtain ⟨half, hh⟩ : ∃ b, b = Na.bit n j := ⟨_, rfl⟩
          obtain ⟨rest, hr⟩ : ∃ b, b = decide (n % 2 ^ j ≠ 0) := ⟨_, rfl⟩
          obtain ⟨q, hq⟩ : ∃ q, q = n / 2 ^ k := ⟨_, rfl⟩
          have hM2 : M = q + (half && (rest || more || decide (q % 2 = 1))).toNat := by
            rw [HM.out, Fl.rdm, if_neg (by omega), ← hkk, Fl.upw_half (half := half) (rest := rest) (by rw [hh, hj]) (by rw [hr, hj]), ← hq]
          rw [← hh] at hbt
          rw [← hr] at hlw
          rw [← hq] at hfr k1
          have HFR := Lib.hid hfr; have HBT := Lib.hid hbt; have HLW := Lib.hid hlw
          have HM2 := Lib.hid hM2
          have hqm : q % 2 = 1 ∨ q % 2 = 0 := by omega
          clear hkk hj hsw hln20 hfr hbt hlw hh hr hq hM2
          cases half with
          | false =>
            obtain rfl : M = q := HM2.out
            go_wp2_with (first | (go_at_call 95; (with_reducible refine (HFR.out).mono ?_); rintro e w' ⟨rfl, rfl⟩) | (go_at_call 96; (with_reducible refine (HBT.out).mono ?_); rintro e w' ⟨rfl, rfl⟩) | (go_at_call 97; (with_reducible refine (HLW.out).mono ?_); rintro e w' ⟨rfl, rfl⟩))
            all_goals (go_meet; exact ⟨rfl, Lib.hid hb1⟩)
          | true =>
            by_cases hrm : rest = true ∨ more = true
            · have hM3 : M = q + 1 := by
                have := HM2.out
                rcases hrm with h | h
                · rw [h] at this; simpa using this
                · rw [h] at this; simpa using this
              subst hM3
              rcases hrm with h | h
              · subst h
                go_wp2_with (first | (go_at_call 95; (with_reducible refine (HFR.out).mono ?_); rintro e w' ⟨rfl, rfl⟩) | (go_at_call 96; (with_reducible refine (HBT.out).mono ?_); rintro e w' ⟨rfl, rfl⟩) | (go_at_call 97; (with_reducible refine (HLW.out).mono ?_); rintro e w' ⟨rfl, rfl⟩))
                all_goals (go_meet; exact ⟨by first | rfl | go_num, Lib.hid hb1⟩)
              · subst h
                cases rest
                all_goals (
                  go_wp2_with (first | (go_at_call 95; (with_reducible refine (HFR.out).mono ?_); rintro e w' ⟨rfl, rfl⟩) | (go_at_call 96; (with_reducible refine (HBT.out).mono ?_); rintro e w' ⟨rfl, rfl⟩) | (go_at_call 97; (with_reducible refine (HLW.out).mono ?_); rintro e w' ⟨rfl, rfl⟩))
                  all_goals (go_meet; exact ⟨by first | rfl | go_num, Lib.hid hb1⟩))
            · have hr0 : rest = false := Bool.eq_false_iff.mpr (fun h => hrm (Or.inl h))
              have hm0 : more = false := Bool.eq_false_iff.mpr (fun h => hrm (Or.inr h))
              subst hr0 hm0
              clear hrm
              rcases hqm with hq1 | hq0
              · have hM3 : M = q + 1 := by have := HM2.out; rw [decide_eq_true hq1] at this; simpa using this
                subst hM3
                have hqi : (q : Int) % 2 = 1 := by omega
                clear hq1
                go_wp2_with (first | (go_at_call 95; (with_reducible refine (HFR.out).mono ?_); rintro e w' ⟨rfl, rfl⟩) | (go_at_call 96; (with_reducible refine (HBT.out).mono ?_); rintro e w' ⟨rfl, rfl⟩) | (go_at_call 97; (with_reducible refine (HLW.out).mono ?_); rintro e w' ⟨rfl, rfl⟩))
                all_goals (go_meet; exact ⟨by first | rfl | go_num, Lib.hid hb1⟩)
              · have hM3 : M = q := by have := HM2.out; rw [decide_eq_false (by omega)] at this; simpa using this
                subst hM3
                have hqi : (M : Int) % 2 = 0 := by omega
                clear hq0
                go_wp2_with (first | (go_at_call 95; (with_reducible refine (HFR.out).mono ?_); rintro e w' ⟨rfl, rfl⟩) | (go_at_call 96; (with_reducible refine (HBT.out).mono ?_); rintro e w' ⟨rfl, rfl⟩) | (go_at_call 97; (with_reducible refine (HLW.out).mono ?_); rintro e w' ⟨rfl, rfl⟩))
                all_goals (go_meet; exact ⟨rfl, Lib.hid hb1⟩)
      case rest => as_aux_lemma =>
        obtain ⟨rfl, HB⟩ := hcut
        obtain ⟨r1, r2⟩ := HRB.out
        have hD := HRD.out
        have hB := HB.out
        clear HKB HUB HM HRB HRD HS HZ HLN HB
        have hSb : S ≤ 9223372036854775808 := by omega
        have hM53 : M ≤ 9007199254740992 := r1
        clear hS2 r1 r2
        by_cases c1 : M < 4503599627370496
        · rw [if_pos c1] at hD
          have n1 : ((M : Int) == 9007199254740992) = false := by simp only [beq_eq_false_iff_ne, ne_eq]; omega
          have n2 : decide ((M : Int) < 4503599627370496) = true := decide_eq_true (by omega)
          subst hD
          go_wp2
          refine bodyPost_ret (v := .int .u64 ((S + D : Nat) : Int)) (by simp [results, Tryz.results28, go_sem] <;> omega) rfl (RetB.of rfl hB)
        · rw [if_neg c1] at hD
          by_cases c2 : M = 9007199254740992
          · rw [if_pos c2] at hD
            by_cases c3 : 2047 ≤ u + 1076
            · rw [if_pos c3] at hD
              subst hD c2
              have c4 : 2047 ≤ u + 1 + 1075 := by omega
              go_wp2
              refine bodyPost_ret (v := .int .u64 ((S + 9218868437227405312 : Nat) : Int)) (by simp [results, Tryz.results28, go_sem] <;> omega) rfl (RetB.of rfl hB)
            · rw [if_neg c3] at hD
              subst c2
              have c4 : ¬ 2047 ≤ u + 1 + 1075 := by omega
              obtain ⟨z, hz⟩ : ∃ z : Nat, u + 1 + 1075 = (z : Int) := ⟨(u + 1076).toNat, by omega⟩
              have hz1 : z < 2047 := by omega
              have hzD : D = z * 4503599627370496 := by rw [hD]; congr 1; omega
              obtain ⟨Z, hZ⟩ : ∃ Z, Z = z * 4503599627370496 := ⟨_, rfl⟩
              have hZi : (z : Int) * 4503599627370496 = (Z : Int) := by omega
              have hZl : Z ≤ 9214364837600034816 := by omega
              rw [← hZ] at hzD
              subst hzD
              clear hD hZ
              go_wp2
              refine bodyPost_ret (v := .int .u64 ((S + D : Nat) : Int)) (by simp [results, Tryz.results28, go_sem] <;> omega) rfl (RetB.of rfl hB)
          · rw [if_neg c2] at hD
            have n1 : ((M : Int) == 9007199254740992) = false := by simp only [beq_eq_false_iff_ne, ne_eq]; omega
            have n2 : decide ((M : Int) < 4503599627370496) = false := decide_eq_false (by omega)
            by_cases c3 : 2047 ≤ u + 1075
            · rw [if_pos c3] at hD
              subst hD
              go_wp2
              refine bodyPost_ret (v := .int .u64 ((S + 9218868437227405312 : Nat) : Int)) (by simp [results, Tryz.results28, go_sem] <;> omega) rfl (RetB.of rfl hB)
            · rw [if_neg c3] at hD
              obtain ⟨z, hz⟩ : ∃ z : Nat, u + 1075 = (z : Int) := ⟨(u + 1075).toNat, by omega⟩
              have hz1 : z < 2047 := by omega
              have hz3 : (u + 1075).toNat = z := by omega
              rw [hz3] at hD
              obtain ⟨Z, hZ⟩ : ∃ Z, Z = z * 4503599627370496 := ⟨_, rfl⟩
              have hZi : (z : Int) * 4503599627370496 = (Z : Int) := by omega
              have hZl : Z ≤ 9214364837600034816 := by omega
              rw [← hZ] at hD
              obtain ⟨X1, hX1⟩ : ∃ X1, X1 = S + Z := ⟨_, rfl⟩
              have hX1i : (S : Int) + (Z : Int) = (X1 : Int) := by omega
              obtain ⟨X, hX⟩ : ∃ X, X = X1 + M := ⟨_, rfl⟩
              have hXi : (X1 : Int) + (M : Int) = (X : Int) := by omega
              obtain ⟨Y, hY⟩ : ∃ Y, Y = S + D := ⟨_, rfl⟩
              have hYi : (X : Int) - 4503599627370496 = (Y : Int) := by omega
              have b1 : X1 < 18446744073709551616 := by omega
              have b2 : X < 18446744073709551616 := by omega
              have b3 : Y < 18446744073709551616 := by omega
              have HY := Lib.hid hY
              have c5 : decide (2047 ≤ (z : Int)) = false := decide_eq_false (by omega)
              clear hZ hz3 hD hM53 c1 c2 c3 hX1 hX hY hSb
              go_wp2
              refine bodyPost_ret (v := .int .u64 (Y : Int)) (by simp [results, Tryz.results28, go_sem]) rfl (RetB.of (by rw [HY.out]) hB)

theorem r3_round_any (neg : Bool) (a : Option Addr) (c n : Nat) (e : Int) (more : Bool) (w : World) (h : Sl w a c (Na.limbs n)) (hz : a = none → c = 0) (hl : (Na.limbs n).length ≤ 5000) (he : -50000 ≤ e ∧ e ≤ 2000) :
    Calls Tryz.prog 28 #[.bool neg, .slice a (Na.limbs n).length c, .int .i64 e, .bool more] w (RetB (.int .u64 (((if neg then 9223372036854775808 else 0) + Fl.rd n e more : Nat) : Int)) w) := by
  by_cases hn : n = 0
  · subst hn
    rw [Fl.rd, if_pos rfl, Nat.add_zero]
    exact r3_round_zero neg a c e more w h hz
  · exact r3_round_pos neg a c n e more w h hz hl he hn
end Go.Proofs.YtjnkbifafbjckaaGreatDoor
