/- Parse. -/
import Derived.Test.YtiglekomfgfilaaGreatDoorY11
import Derived.Test.YtiglekomfgfilaaGreatDoorY5
import Derived.Shelf.Strings.SlTrimAscii
import Derived.Outline
import Derived.Test.YtiglekomfgfilaaGreatDoorY1
import Derived.Test.YtiglekomfgfilaaGreatDoorY4
namespace Go.Proofs.YtiglekomfgfilaaGreatDoor
set_option maxRecDepth 100000
set_option maxHeartbeats 1000000
set_option linter.all false
open Go.RowKit
theorem trimD (s : ByteArray) (w : World) (hs : s.size ≤ 1000000000) : Calls Tryz.prog 186 #[.string s, .string ⟨#[48, 49, 50, 51, 52, 53, 54, 55, 56, 57]⟩] w (RetB (.string ⟨(Lib.trimS s.data.toList Na.dset).toArray⟩) w) :=
  (Any.strings_Trim_laid Tryz.lays160 (by kernel_rfl) s ⟨#[48, 49, 50, 51, 52, 53, 54, 55, 56, 57]⟩ w (by omega) (by decide) (Go.Proofs.ascii_of_all (by decide))).mono fun _ _ h => ⟨h.1, h.2⟩
theorem na_trimL0 (s : ByteArray) (w : World) : Calls Tryz.prog 118 #[.string s, .string ⟨#[48]⟩] w (Ret0 (.string ⟨(s.data.toList.dropWhile (· == 48)).toArray⟩) w) :=
  (Tryz.strings_TrimLeft_one s 48 (by decide) w).mono fun _ _ h => ⟨h.1, h.2.symm⟩
theorem na_atoi (s : ByteArray) (w : World) (hd : s.data.toList.all Na.isD = true) (h : 0 < s.size ∧ s.size ≤ 9) : Calls Tryz.prog 103 #[.string s] w (RetB (.tuple #[.int .i64 (Na.num s.data.toList : Nat), .nilIface]) w) :=
  (Tryz.strconv_Atoi_ok s (by omega) _ (Na.atoi_num s.data.toList hd (fun e => by have := congrArg List.length e; rw [bs_length, List.length_nil] at this; omega) (by rw [bs_length]; exact h.2)) w).mono fun e w' he => ⟨he.1, by
    rcases he.2 with e | ⟨t, e⟩
    · rw [e]; exact Below.refl _ _
    · rw [e]; exact Lib.bytesWorld_below _ _ _⟩
theorem na_parse_empty (s : ByteArray) (w : World) (h : s.size = 0) : Calls Tryz.prog 155 #[.string s] w (GivesE (Na.parse s.data.toList) w) := by
  have e0 : s.data.toList = [] := List.eq_nil_of_length_eq_zero (by rw [bs_length]; exact h)
  have e := Lib.hid (gives_nil 3 (show Na.parse s.data.toList = ([], 3) from if_pos (Or.inl e0)) (Below.refl w.heap.size w))
  have h1 : s.toList.isEmpty = true := isEmpty_of_zero h
  have h2 : s.toList = [] := List.isEmpty_iff.1 h1
  clear e0 h
  go_enter Tryz.func155, Tryz.ntmps155
  go_wp2
  refine bodyPost_ret (v := .tuple #[.slice none 0 0, .int .i64 3]) (by simp [results, Tryz.results155, go_sem]) rfl e.out
theorem na_parse_form (s : ByteArray) (w : World) (h : 0 < s.size) (hs : s.size ≤ 1000000000) (hd : s.data.toList.all Na.isD = false) : Calls Tryz.prog 155 #[.string s] w (GivesE (Na.parse s.data.toList) w) := by
  have e := Lib.hid (fun w' (hb : Below w.heap.size w w') => gives_nil 3 (show Na.parse s.data.toList = ([], 3) from if_pos (Or.inr hd)) hb)
  have h1 : s.toList.isEmpty = false := isEmpty_of_pos h
  have hc := trimD s w hs
  obtain ⟨T, hT⟩ : ∃ T : ByteArray, T = ⟨(Lib.trimS s.data.toList Na.dset).toArray⟩ := ⟨_, rfl⟩
  have hTn : ¬ Lib.trimS s.data.toList Na.dset = [] := fun e => by rw [Na.trim_digits, hd] at e; cases e
  have hT0 : 0 < T.size := by rw [hT, size_mk]; exact List.length_pos_iff.2 hTn
  rw [← hT] at hc
  have HC := Lib.hid hc
  have h2 : T.toList.isEmpty = false := isEmpty_of_pos hT0
  clear hc hT hTn hd
  go_enter Tryz.func155, Tryz.ntmps155
  go_wp2_with (go_at_call 186; (with_reducible refine (HC.out).mono ?_); rintro e w1 ⟨rfl, hb_w1⟩; have hB_w1 : Below (w).heap.size (w) w1 := Below.trans (by (repeat (first | exact Below.refl _ _ | assumption | refine Below.setCell ?_ (by first | omega | (simp <;> omega)) _ | refine Below.alloc ?_ (by first | omega | (simp <;> omega)) _ | refine Below.drew ?_ | refine below_drewN' ?_ _))) (hb_w1.mono (by first | omega | (simp <;> omega))); obtain ⟨hc_w1, hf_w1⟩ := bcell hb_w1; have hz_w1 := hb_w1.size; (try simp only [zD, zN, zA, zS] at hz_w1))
  refine bodyPost_ret (v := .tuple #[.slice none 0 0, .int .i64 3]) (by simp [results, Tryz.results155, go_sem]) rfl (e.out _ hB_w1)
theorem na_parse_long (s : ByteArray) (w : World) (h : 0 < s.size) (hs : s.size ≤ 1000000000) (hd : s.data.toList.all Na.isD = true) (hl : 3000 < (s.data.toList.dropWhile (· == 48)).length) : Calls Tryz.prog 155 #[.string s] w (GivesE (Na.parse s.data.toList) w) := by
  have hne : ¬ (s.data.toList = [] ∨ s.data.toList.all Na.isD = false) := by
    rw [hd]; rintro (e | e)
    · have := congrArg List.length e; rw [bs_length, List.length_nil] at this; omega
    · cases e
  have e := Lib.hid (fun w' (hb : Below w.heap.size w w') => gives_nil 2 (show Na.parse s.data.toList = ([], 2) from (if_neg hne).trans (Na.num_long _ hd hl)) hb)
  have h1 : s.toList.isEmpty = false := isEmpty_of_pos h
  have hc := trimD s w hs
  rw [(Na.trim_digits _).2 hd] at hc
  have HC := Lib.hid (show Calls Tryz.prog 186 #[.string s, .string ⟨#[48, 49, 50, 51, 52, 53, 54, 55, 56, 57]⟩] w (RetB (.string ⟨#[]⟩) w) from hc)
  obtain ⟨T, hT⟩ : ∃ T : ByteArray, T = ⟨(s.data.toList.dropWhile (· == 48)).toArray⟩ := ⟨_, rfl⟩
  have hTs : 3000 < T.size := by rw [hT, size_mk]; exact hl
  have HL := Lib.hid (fun w => na_trimL0 s w)
  rw [← hT] at HL
  clear hc hT hd hl hne
  go_enter Tryz.func155, Tryz.ntmps155
  go_wp2_with (first | (go_at_call 186; (with_reducible refine (HC.out).mono ?_); rintro e w1 ⟨rfl, hb_w1⟩; have hB_w1 : Below (w).heap.size (w) w1 := Below.trans (by (repeat (first | exact Below.refl _ _ | assumption | refine Below.setCell ?_ (by first | omega | (simp <;> omega)) _ | refine Below.alloc ?_ (by first | omega | (simp <;> omega)) _ | refine Below.drew ?_ | refine below_drewN' ?_ _))) (hb_w1.mono (by first | omega | (simp <;> omega))); obtain ⟨hc_w1, hf_w1⟩ := bcell hb_w1; have hz_w1 := hb_w1.size; (try simp only [zD, zN, zA, zS] at hz_w1)) | (go_at_call 118; (with_reducible refine (HL.out _).mono ?_); rintro e w' ⟨rfl, rfl⟩))
  refine bodyPost_ret (v := .tuple #[.slice none 0 0, .int .i64 2]) (by simp [results, Tryz.results155, go_sem]) rfl (e.out _ hB_w1)
end Go.Proofs.YtiglekomfgfilaaGreatDoor

/- Parse: the loop. -/
namespace Go.Proofs.YtiglekomfgfilaaGreatDoor
set_option maxRecDepth 100000
set_option maxHeartbeats 2000000
set_option linter.all false
open Go.RowKit
def parseLoop (T : List UInt8) (w : World) (sv ov ev : Value) (wr : World) : Prop := ∃ (t : ByteArray) (k x : Nat) (a : Option Addr) (c : Nat), sv = .string t ∧ t.size + k = T.length ∧ Hid (t.data.toList = T.drop k) ∧ ev = .int .i64 0 ∧ Hid (x = Na.num (T.take k)) ∧
  ov = .slice a (Na.limbs x).length c ∧ (Na.limbs x).length ≤ 256 ∧ Hid (Sl wr a c (Na.limbs x)) ∧ Hid (Own wr w.heap.size a (Na.limbs x).length) ∧ Hid (Below w.heap.size w wr)
theorem na_parse_main (s : ByteArray) (w : World) (h : 0 < s.size) (hs : s.size ≤ 1000000000) (hd : s.data.toList.all Na.isD = true) (hl : (s.data.toList.dropWhile (· == 48)).length ≤ 3000) : Calls Tryz.prog 155 #[.string s] w (GivesE (Na.parse s.data.toList) w) := by
  have hne : ¬ (s.data.toList = [] ∨ s.data.toList.all Na.isD = false) := by
    rw [hd]; rintro (e | e)
    · have := congrArg List.length e; rw [bs_length, List.length_nil] at this; omega
    · cases e
  have e2 : Na.parse s.data.toList = Na.fits (Na.num (s.data.toList.dropWhile (· == 48))) := (if_neg hne).trans (by rw [Na.num_trim])
  have h1 : s.toList.isEmpty = false := isEmpty_of_pos h
  have hc := trimD s w hs
  rw [(Na.trim_digits _).2 hd] at hc
  have HC := Lib.hid (show Calls Tryz.prog 186 #[.string s, .string ⟨#[48, 49, 50, 51, 52, 53, 54, 55, 56, 57]⟩] w (RetB (.string ⟨#[]⟩) w) from hc)
  obtain ⟨L, hL⟩ : ∃ L, L = s.data.toList.dropWhile (· == 48) := ⟨_, rfl⟩
  have hLd := Lib.hid (hL ▸ Na.all_dropWhile _ hd : L.all Na.isD = true)
  obtain ⟨T, hT⟩ : ∃ T : ByteArray, T = ⟨L.toArray⟩ := ⟨_, rfl⟩
  have hTs : T.size = L.length := by rw [hT, size_mk]
  have hTl := Lib.hid (show T.data.toList = L by rw [hT])
  have HL := Lib.hid (fun w => na_trimL0 s w)
  rw [← hL, ← hT] at HL
  rw [← hL] at e2 hl
  have E2 := Lib.hid e2
  have HTS := Lib.hid hTs
  have hTle : T.size ≤ 3000 := by omega
  clear hc hT hd hL hne e2 hTs
  go_enter Tryz.func155, Tryz.ntmps155
  go_wp2_with (first | (go_at_call 186; (with_reducible refine (HC.out).mono ?_); rintro e w1 ⟨rfl, hb_w1⟩; have hB_w1 : Below (w).heap.size (w) w1 := Below.trans (by (repeat (first | exact Below.refl _ _ | assumption | refine Below.setCell ?_ (by first | omega | (simp <;> omega)) _ | refine Below.alloc ?_ (by first | omega | (simp <;> omega)) _ | refine Below.drew ?_ | refine below_drewN' ?_ _))) (hb_w1.mono (by first | omega | (simp <;> omega))); obtain ⟨hc_w1, hf_w1⟩ := bcell hb_w1; have hz_w1 := hb_w1.size; (try simp only [zD, zN, zA, zS] at hz_w1)) | (go_at_call 118; (with_reducible refine (HL.out _).mono ?_); rintro e w' ⟨rfl, rfl⟩))
  go_loopw [0, 4, 5] (parseLoop L w) (fun sv _ _ _ => strLen sv)
  case atStart => exact ⟨T, 0, 0, none, 0, rfl, by have := HTS.out; omega, Lib.hid hTl.out, rfl, Lib.hid rfl, by rw [Na.limbs_zero]; rfl, by rw [Na.limbs_zero]; simp, Lib.hid (by rw [Na.limbs_zero]; exact Sl.nil _ _ _), Lib.hid (by rw [Na.limbs_zero]; exact Own.nil _ _ _), Lib.hid hB_w1⟩
  case round =>
    obtain ⟨t, k, x, a, c, rfl, hk, HT, rfl, HX, rfl, hlen, HSl, HOw, HBe⟩ := hrel
    by_cases h0 : 0 < t.size
    · obtain ⟨n, hn⟩ : ∃ n, n = min 9 t.size := ⟨_, rfl⟩
      have hmin : min (9 : Int) (t.size : Int) = (n : Int) := by omega
      have hn1 : 1 ≤ n ∧ n ≤ 9 ∧ n ≤ t.size := by omega
      obtain ⟨hn1, hn9, hnt⟩ := hn1
      obtain ⟨U, hU⟩ : ∃ U, U = t.extract 0 n := ⟨_, rfl⟩
      obtain ⟨R, hR⟩ : ∃ U, U = t.extract n t.size := ⟨_, rfl⟩
      have hUl : U.data.toList = (L.drop k).take n := by rw [hU, Lib.extract_data, List.drop_zero, Nat.sub_zero, HT.out]
      have hUs : U.size = n := by rw [hU, ByteArray.size_extract]; omega
      have hRs : R.size + n = t.size := by rw [hR, ByteArray.size_extract]; omega
      have hRl := Lib.hid (show R.data.toList = L.drop (k + n) by
        rw [hR, Lib.extract_to_end, HT.out, List.drop_drop])
      have hUd : U.data.toList.all Na.isD = true := by
        rw [hUl, List.all_eq_true]; intro y hy
        exact List.all_eq_true.1 hLd.out y (List.mem_of_mem_drop (List.mem_of_mem_take hy))
      have hAT := Lib.hid (fun w => na_atoi U w hUd ⟨by omega, by omega⟩)
      have hsp := Na.num_split L k n
      rw [← hUl, ← HX.out, bs_length, hUs] at hsp
      have hvl := Na.num_lt _ hUd
      rw [bs_length, hUs] at hvl
      obtain ⟨v, hv⟩ : ∃ v, v = Na.num U.data.toList := ⟨_, rfl⟩
      rw [← hv] at hsp hAT hvl
      have hv9 : v < 1000000000 := Nat.lt_of_lt_of_le hvl (Nat.pow_le_pow_right (n := 10) (by decide) hn9)
      obtain ⟨P, hP⟩ : ∃ P, P = 10 ^ n := ⟨_, rfl⟩
      have hPl : (Na.limbs P).length ≤ 256 := (Na.limbs_len_iff P 256).2 (Nat.lt_of_le_of_lt (show P ≤ 1000000000 by rw [hP]; exact Nat.pow_le_pow_right (n := 10) (by decide) hn9) (by decide +kernel))
      have hpw := fun w => na_pow_any (10 : Nat) (n : Int) w (by omega) (by omega)
      have hpe : Na.pow (10 : Nat) (n : Int) = (Na.limbs P, 0) := by
        rw [Na.pow, if_neg (by omega), if_neg (by omega), Int.toNat_natCast, Int.toNat_natCast, ← hP, Na.fits, if_neg (by omega)]
      rw [hpe] at hpw
      have HPW := Lib.hid (show ∀ w, Calls Tryz.prog 92 #[.int .i64 10, .int .i64 n] w (GivesE (Na.limbs P, 0) w) from hpw)
      have hmul : Na.mul (Na.limbs x) (Na.limbs P) = Na.fits (x * P) := by
        rw [Na.mul, if_neg (by simp [Na.big, Na.rt_limbs]; exact ⟨hlen, hPl⟩), Na.val_limbs, Na.val_limbs]
      have HM := Lib.hid (fun w1 a' c' (hs : Sl w1 a c (Na.limbs x)) (hs' : Sl w1 a' c' (Na.limbs P)) => (by
        have := na_mul_any a c (Na.limbs x) a' c' (Na.limbs P) w1 hs hs' (by omega) (by omega)
        rwa [hmul] at this : Calls Tryz.prog 93 #[.slice a (Na.limbs x).length c, .slice a' (Na.limbs P).length c'] w1 (GivesE (Na.fits (x * P)) w1)))
      have hpre := Na.num_pre L (k + n)
      rw [← hP] at hsp
      have HSP := Lib.hid hsp
      have hRE := hR.symm; have hUE := hU.symm
      have hsz := HBe.out.size
      clear hn hUl hUd hv hpw hpe hP hsp hmul hvl hR hU
      have hB4 : ∀ w2 w3 w4 : World, Below wr.heap.size wr w2 → Below w2.heap.size w2 w3 → Below w3.heap.size w3 w4 → Below w.heap.size w w4 ∧ w.heap.size ≤ w3.heap.size := fun _ _ _ h2 h3 h4 =>
        ⟨HBe.out.trans ((h2.mono hsz).trans ((h3.mono (Nat.le_trans hsz h2.size)).trans (h4.mono (Nat.le_trans hsz (Nat.le_trans h2.size h3.size))))), Nat.le_trans hsz (Nat.le_trans h2.size h3.size)⟩
      have HB4 := Lib.hid hB4; clear hB4
      by_cases hov : 256 < (Na.limbs (x * P)).length
      · have ef : Na.fits (x * P) = ([], 2) := if_pos hov
        rw [ef] at HM
        have EE := Lib.hid (show Na.parse s.data.toList = ([], 2) by
          rw [E2.out]; exact Na.fits_more ef (by have := HSP.out; omega))
        clear ef hov HSP hpre
        go_wp2_with (first | (go_at_call 103; (with_reducible refine (hAT.out _).mono ?_); rintro e w2 ⟨rfl, hb2⟩; have hS2 := HSl.out.on hb2) | (go_at_call 92; (with_reducible refine (HPW.out _).mono ?_); rintro e w3 ⟨a3, c3, rfl, hs3, ho3, hb3⟩; have hS3 := hS2.on hb3) | (go_at_call 93; (with_reducible refine (HM.out _ _ _ hS3 hs3).mono ?_); rintro e w4 ⟨a4, c4, rfl, hs4, ho4, hb4⟩))
        refine bodyPost_ret (v := .tuple #[.slice none 0 0, .int .i64 2]) (by simp [results, Tryz.results155, go_sem]) rfl (by rw [EE.out]; exact ⟨none, 0, rfl, Sl.nil _ _ _, Own.nil _ _ _, (HB4.out _ _ _ hb2 hb3 hb4).1⟩)
      · have ef : Na.fits (x * P) = (Na.limbs (x * P), 0) := if_neg hov
        rw [ef] at HM
        have hvl : (Na.limbs v).length ≤ 256 := (Na.limbs_len_iff v 256).2 (Nat.lt_of_lt_of_le hv9 (by decide +kernel))
        have hadd : Na.add (Na.limbs (x * P)) (Na.limbs v) = Na.fits (x * P + v) := by
          rw [Na.add, if_neg (by simp [Na.big, Na.rt_limbs]; exact ⟨by omega, hvl⟩), Na.val_limbs, Na.val_limbs]
        have HA := Lib.hid (fun w1 a' c' a'' c'' (hs : Sl w1 a' c' (Na.limbs (x * P))) (hs' : Sl w1 a'' c'' (Na.limbs v)) => (by
          have := na_add_any a' c' (Na.limbs (x * P)) a'' c'' (Na.limbs v) w1 hs hs' (by omega) (by omega)
          rwa [hadd] at this : Calls Tryz.prog 187 #[.slice a' (Na.limbs (x * P)).length c', .slice a'' (Na.limbs v).length c''] w1 (GivesE (Na.fits (x * P + v)) w1)))
        have HOF := Lib.hid (fun w => na_of_any v (by omega) w)
        clear ef hadd
        by_cases hov2 : 256 < (Na.limbs (x * P + v)).length
        · have ef : Na.fits (x * P + v) = ([], 2) := if_pos hov2
          rw [ef] at HA
          have EE := Lib.hid (show Na.parse s.data.toList = ([], 2) by
            rw [E2.out]; exact Na.fits_more ef (by have := HSP.out; omega))
          clear ef hov hov2 HSP hpre hvl
          go_wp2_with (first | (go_at_call 103; (with_reducible refine (hAT.out _).mono ?_); rintro e w2 ⟨rfl, hb2⟩; have hS2 := HSl.out.on hb2) | (go_at_call 92; (with_reducible refine (HPW.out _).mono ?_); rintro e w3 ⟨a3, c3, rfl, hs3, ho3, hb3⟩; have hS3 := hS2.on hb3) | (go_at_call 93; (with_reducible refine (HM.out _ _ _ hS3 hs3).mono ?_); rintro e w4 ⟨a4, c4, rfl, hs4, ho4, hb4⟩) | (go_at_call 65; (with_reducible refine (HOF.out _).mono ?_); rintro e w5 ⟨g5, rfl, hg5, hk5, hb5⟩; have hS5 := hk5.sl (Na.ok_limbs v) (Nat.le_refl _); have hS4 := hs4.on hb5) | (go_at_call 187; (with_reducible refine (HA.out _ _ _ _ _ hS4 hS5).mono ?_); rintro e w6 ⟨a6, c6, rfl, hs6, ho6, hb6⟩))
          have hB4 := HB4.out _ _ _ hb2 hb3 hb4
          refine bodyPost_ret (v := .tuple #[.slice none 0 0, .int .i64 2]) (by simp [results, Tryz.results155, go_sem]) rfl (by rw [EE.out]; exact ⟨none, 0, rfl, Sl.nil _ _ _, Own.nil _ _ _, hB4.1.trans ((hb5.mono hB4.1.size).trans (hb6.mono (Nat.le_trans hB4.1.size hb5.size)))⟩)
        · have ef : Na.fits (x * P + v) = (Na.limbs (x * P + v), 0) := if_neg hov2
          rw [ef] at HA
          have HSP' := Lib.hid (show x * P + v = Na.num (L.take (k + n)) from HSP.out.symm)
          have hov2' : (Na.limbs (x * P + v)).length ≤ 256 := by omega
          obtain ⟨y, hy⟩ : ∃ y, y = x * P + v := ⟨_, rfl⟩
          rw [← hy] at HA HSP' hov2'
          clear ef hov hov2 HSP hpre hvl hy
          go_wp2_with (first | (go_at_call 103; (with_reducible refine (hAT.out _).mono ?_); rintro e w2 ⟨rfl, hb2⟩; have hS2 := HSl.out.on hb2) | (go_at_call 92; (with_reducible refine (HPW.out _).mono ?_); rintro e w3 ⟨a3, c3, rfl, hs3, ho3, hb3⟩; have hS3 := hS2.on hb3) | (go_at_call 93; (with_reducible refine (HM.out _ _ _ hS3 hs3).mono ?_); rintro e w4 ⟨a4, c4, rfl, hs4, ho4, hb4⟩) | (go_at_call 65; (with_reducible refine (HOF.out _).mono ?_); rintro e w5 ⟨g5, rfl, hg5, hk5, hb5⟩; have hS5 := hk5.sl (Na.ok_limbs v) (Nat.le_refl _); have hS4 := hs4.on hb5) | (go_at_call 187; (with_reducible refine (HA.out _ _ _ _ _ hS4 hS5).mono ?_); rintro e w6 ⟨a6, c6, rfl, hs6, ho6, hb6⟩))
          have hB4 := HB4.out _ _ _ hb2 hb3 hb4
          have hB6 := hB4.1.trans ((hb5.mono hB4.1.size).trans (hb6.mono (Nat.le_trans hB4.1.size hb5.size)))
          have hO6 : Own w6 w.heap.size a6 (Na.limbs y).length := fun h0 => by
            obtain ⟨b', o', e, hb', hf⟩ := ho6 h0
            exact ⟨b', o', e, Nat.le_trans (Nat.le_trans hB4.1.size hb5.size) hb', hf⟩
          go_roundw
          case rel => exact ⟨R, k + n, y, a6, c6, rfl, by omega, hRl, rfl, HSP', rfl, hov2', Lib.hid hs6, Lib.hid hO6, Lib.hid hB6⟩
          case measure => simp only [strLen]; omega
    · have h00 : t.size = 0 := by omega
      obtain rfl : k = L.length := by omega
      have EE := Lib.hid (show Na.parse s.data.toList = (Na.limbs x, 0) by
        have hx : x = Na.num L := by have := HX.out; rwa [List.take_length] at this
        rw [E2.out, Na.fits, ← hx, if_neg (by omega)])
      go_wp2_with fail
      refine bodyPost_ret (v := .tuple #[.slice a (Na.limbs x).length c, .int .i64 0]) (by simp [results, Tryz.results155, go_sem]) rfl (by rw [EE.out]; exact ⟨a, c, rfl, HSl.out, HOw.out, HBe.out⟩)
theorem na_parse_any (s : ByteArray) (w : World) (hs : s.size ≤ 1000000000) : Calls Tryz.prog 155 #[.string s] w (GivesE (Na.parse s.data.toList) w) := by
  by_cases h : s.size = 0
  · exact na_parse_empty s w h
  · cases hd : s.data.toList.all Na.isD with
    | false => exact na_parse_form s w (by omega) hs hd
    | true =>
      by_cases hl : 3000 < (s.data.toList.dropWhile (· == 48)).length
      · exact na_parse_long s w (by omega) hs hd hl
      · exact na_parse_main s w (by omega) hs hd (by omega)
end Go.Proofs.YtiglekomfgfilaaGreatDoor

/- One block alone may turn. -/
namespace Go.Proofs.YtiglekomfgfilaaGreatDoor
set_option linter.all false
open Go.RowKit
structure Onl (g : Nat) (w wr : World) : Prop where
  below : Below g w wr
  block : ∀ k, k ≠ g → k < w.heap.size → wr.heap[k]? = w.heap[k]?
theorem Onl.refl (g : Nat) (w : World) : Onl g w w := ⟨Below.refl _ _, fun _ _ _ => rfl⟩
theorem Onl.trans {g : Nat} {a b c : World} (h : Onl g a b) (k : Onl g b c) : Onl g a c := ⟨h.below.trans k.below, fun i hi hl => (k.block i hi (Nat.lt_of_lt_of_le hl h.below.size)).trans (h.block i hi hl)⟩
theorem Onl.setCell {g : Nat} {a b : World} (h : Onl g a b) (i : Nat) (u : Value) : Onl g a (b.setCell ⟨g, i, none⟩ u) :=
  ⟨h.below.setCell (Nat.le_refl _) u, fun k hk hl => (Below.heap_setCell _ _ _ _ hk).trans (h.block k hk hl)⟩
theorem Onl.drew {g : Nat} {a b : World} (h : Onl g a b) (n : Nat) : Onl g a (b.drewN n) := ⟨below_drewN' h.below n, h.block⟩
theorem Onl.up {g B : Nat} {a b : World} (h : Onl g a b) (hB : B ≤ g) : Below B a b := h.below.mono hB
end Go.Proofs.YtiglekomfgfilaaGreatDoor

/- Plain Lean: long division, one limb of the quotient at a time (Knuth). -/
namespace Go.Proofs.YtiglekomfgfilaaGreatDoor.Na
set_option linter.all false
open Go
structure Kn (U V W top u2 U' v1 v2 V' : Nat) : Prop where
  hU : U = (top * B + u2) * W + U'
  hV : V = (v1 * B + v2) * W + V'
  lU : U' < W
  lV : V' < W
  lu : u2 < B
  lv : v2 < B
  pv : 0 < v1
  lt : U < V * B
section
variable {U V W top u2 U' v1 v2 V' : Nat} (h : Kn U V W top u2 U' v1 v2 V')
include h
theorem Kn.posW : 0 < W := by have := h.lU; omega
theorem Kn.ltU : U < top * (B * W) + B * W := by
  have h1 := Nat.mul_le_mul_right W (show u2 + 1 ≤ B from h.lu)
  have h2 := h.hU
  rw [Nat.add_mul, Nat.one_mul] at h1
  rw [Nat.add_mul, Nat.mul_assoc] at h2
  have := h.lU
  omega
theorem Kn.leV : v1 * (B * W) ≤ V := by
  have h2 := h.hV
  rw [Nat.add_mul, Nat.mul_assoc] at h2
  omega
theorem Kn.posV : 0 < V := by
  have h1 := h.leV
  have h2 : 0 < v1 * (B * W) := Nat.mul_pos h.pv (Nat.mul_pos (by decide) h.posW)
  omega
theorem Kn.leV1 : B * W ≤ V := by
  have h1 := h.leV
  have h2 := Nat.mul_le_mul_right (B * W) (show 1 ≤ v1 from h.pv)
  omega
theorem Kn.start : U / V ≤ top / v1 := by
  rw [Nat.le_div_iff_mul_le h.pv]
  rcases Nat.lt_or_ge top (U / V * v1) with h1 | h1
  · exfalso
    have h2 := Nat.mul_le_mul_right (B * W) (show top + 1 ≤ U / V * v1 from h1)
    rw [Nat.add_mul, Nat.one_mul, Nat.mul_assoc] at h2
    have h3 := Nat.mul_le_mul_left (U / V) h.leV
    have h4 := Nat.div_mul_le_self U V
    have h5 := h.ltU
    omega
  · exact h1
theorem Kn.ltB : U / V < B := by
  rw [Nat.div_lt_iff_lt_mul h.posV, Nat.mul_comm]; exact h.lt
theorem Kn.down {d r : Nat} (hd : d * v1 + r = top) (hq : U / V ≤ d) (ht : B ≤ d ∨ r * B + u2 < d * v2) : 0 < d ∧ U / V ≤ d - 1 ∧ (d - 1) * v1 + (r + v1) = top := by
  have h1 : U / V < d := by
    rcases ht with ht | ht
    · have := h.ltB; omega
    · rw [Nat.div_lt_iff_lt_mul h.posV, Nat.mul_comm]
      have e : d * (v1 * B + v2) = d * v1 * B + d * v2 := by rw [Nat.mul_add, Nat.mul_assoc]
      have e2 : top * B = d * v1 * B + r * B := by rw [← hd, Nat.add_mul]
      have h2 : top * B + u2 + 1 ≤ d * (v1 * B + v2) := by omega
      have h3 := Nat.mul_le_mul_right W h2
      rw [Nat.add_mul, Nat.one_mul, Nat.mul_assoc] at h3
      have h4 : d * ((v1 * B + v2) * W) ≤ d * V := Nat.mul_le_mul_left d (by rw [h.hV]; omega)
      have := h.hU
      have := h.lU
      rw [Nat.mul_comm V d]
      omega
  have h0 := Nat.zero_le (U / V)
  refine ⟨by omega, by omega, ?_⟩
  obtain ⟨k, rfl⟩ : ∃ k, d = k + 1 := ⟨d - 1, by omega⟩
  rw [Nat.add_sub_cancel]
  rw [Nat.add_mul, Nat.one_mul] at hd
  omega
theorem Kn.close {d : Nat} (hd : d < B) (ht : d * (v1 * B + v2) ≤ top * B + u2) : d * V < U + V := by
  have h1 := Nat.mul_le_mul_right W ht
  rw [Nat.mul_assoc] at h1
  have h2 : d * V = d * ((v1 * B + v2) * W) + d * V' := by rw [h.hV, Nat.mul_add]
  have h3 : d * V' ≤ d * W := Nat.mul_le_mul_left d (Nat.le_of_lt h.lV)
  have h4 : d * W + W ≤ B * W := by
    have := Nat.mul_le_mul_right W (show d + 1 ≤ B from hd)
    rwa [Nat.add_mul, Nat.one_mul] at this
  have h5 := h.leV1
  have h6 := h.hU
  have := h.posW
  omega
theorem Kn.stop {d r : Nat} (hd : d * v1 + r = top) (hB : d < B) (ht : d * v2 ≤ r * B + u2) : d * V < U + V := by
  refine h.close hB ?_
  have e : d * (v1 * B + v2) = d * v1 * B + d * v2 := by rw [Nat.mul_add, Nat.mul_assoc]
  have e2 : top * B = d * v1 * B + r * B := by rw [← hd, Nat.add_mul]
  omega
theorem Kn.top_le : top ≤ v1 * B + v2 := by
  rcases Nat.lt_or_ge (v1 * B + v2) top with h1 | h1
  · exfalso
    have h2 := Nat.mul_le_mul_right (B * W) (show v1 * B + v2 + 1 ≤ top from h1)
    have h3 : top * (B * W) ≤ U := by
      have := h.hU
      rw [Nat.add_mul, Nat.mul_assoc] at this
      omega
    have h4 : V * B ≤ (v1 * B + v2 + 1) * (B * W) := by
      have : V ≤ (v1 * B + v2 + 1) * W := by
        rw [Nat.add_mul (v1 * B + v2), Nat.one_mul]
        have := h.hV; have := h.lV; omega
      have := Nat.mul_le_mul_right B this
      rw [Nat.mul_assoc, Nat.mul_comm W B] at this
      exact this
    have := h.lt
    omega
  · exact h1
theorem Kn.broke {d r : Nat} (hd : d * v1 + r = top) (hr : B ≤ r) : d < B ∧ d * V < U + V := by
  have h1 := h.top_le
  have h2 := h.lv
  have hB : d < B := by
    rcases Nat.lt_or_ge d B with h3 | h3
    · exact h3
    · have := Nat.mul_le_mul_right v1 h3
      rw [Nat.mul_comm B v1] at this
      omega
  refine ⟨hB, h.close hB ?_⟩
  have e : d * (v1 * B + v2) = d * v1 * B + d * v2 := by rw [Nat.mul_add, Nat.mul_assoc]
  have e2 : top * B = d * v1 * B + r * B := by rw [← hd, Nat.add_mul]
  have e3 : d * v2 ≤ d * B := Nat.mul_le_mul_left d (Nat.le_of_lt h2)
  have e4 := Nat.mul_le_mul_right B (Nat.le_of_lt hB)
  have e5 := Nat.mul_le_mul_right B hr
  omega
end
theorem kn_taken {U V d N o br : Nat} (hV : 0 < V) (hN : V ≤ N) (hq : U / V ≤ d) (hd : d * V < U + V) (ho : o < N) (h : U + N * br = o + d * V) (hb : br ≤ 1) :
    (br = 0 → o = U % V ∧ d = U / V) ∧ (br = 1 → ∀ o2 c, o2 < N → o2 + N * c = o + V → o2 = U % V ∧ 0 < d ∧ d - 1 = U / V) := by
  have hm := Nat.div_add_mod U V
  have hl := Nat.mod_lt U hV
  have hd2 : d ≤ U / V + 1 := by
    have : d - 1 < U / V + 1 ∨ d = 0 := by
      rcases Nat.eq_zero_or_pos d with h0 | h0
      · exact Or.inr h0
      · left
        obtain ⟨k, rfl⟩ : ∃ k, d = k + 1 := ⟨d - 1, by omega⟩
        rw [Nat.add_mul, Nat.one_mul] at hd
        have : k ≤ U / V := by rw [Nat.le_div_iff_mul_le hV]; omega
        omega
    have h0 := Nat.zero_le (U / V)
    omega
  constructor
  · rintro rfl
    rw [Nat.mul_zero, Nat.add_zero] at h
    have h1 : d ≤ U / V := by rw [Nat.le_div_iff_mul_le hV]; omega
    have h2 : d = U / V := by omega
    subst h2
    rw [Nat.mul_comm] at hm
    exact ⟨by omega, rfl⟩
  · rintro rfl o2 c ho2 hc
    rw [Nat.mul_one] at h
    have h1 : U / V < d := by
      rw [Nat.div_lt_iff_lt_mul hV, Nat.mul_comm]
      rw [Nat.mul_comm V d]; omega
    have h2 : d = U / V + 1 := by omega
    rw [h2, Nat.add_mul, Nat.one_mul, Nat.mul_comm (U / V) V] at h
    have h3 : N * c + o2 = N * 1 + U % V := by omega
    have h4 : c = 1 := by
      have hr : U % V < N := by omega
      have a1 : (N * c + o2) / N = c := by rw [Nat.mul_add_div (by omega), Nat.div_eq_of_lt ho2]; omega
      have a2 : (N * 1 + U % V) / N = 1 := by rw [Nat.mul_add_div (by omega), Nat.div_eq_of_lt hr]
      rw [← a1, h3, a2]
    subst h4
    exact ⟨by omega, by rw [h2]; exact Nat.succ_pos _, by rw [h2]; rfl⟩
theorem takes_step (O o q : List Nat) (off d k x y c b c2 b2 v : Nat) (hk : off + k < o.length) (hOk : (O.drop off).take (k + 1) = (O.drop off).take k ++ [x])
    (inv : val ((O.drop off).take k) + B ^ k * (c + b) = val ((o.drop off).take k) + d * val (q.take k)) (hq : val (q.take (k + 1)) = val (q.take k) + B ^ k * y)
    (hl : (O.drop off).length ≥ k + 1) (he : x + B * (c2 + b2) = v + (d * y + c + b)) :
    val ((O.drop off).take (k + 1)) + B ^ (k + 1) * (c2 + b2) = val (((o.set (off + k) v).drop off).take (k + 1)) + d * val (q.take (k + 1)) := by
  rw [drop_set, val_set_take _ k _ (by rw [List.length_drop]; omega), hq, hOk, val_app, Nat.pow_succ, List.length_take, Nat.min_eq_left (by omega)]
  have h1 := congrArg (B ^ k * ·) he
  simp only [Nat.mul_add] at h1
  simp only [val, Nat.mul_zero, Nat.add_zero]
  have h2 : d * (B ^ k * y) = B ^ k * (d * y) := by rw [Nat.mul_left_comm]
  have h3 : B ^ k * B * (c2 + b2) = B ^ k * (B * c2) + B ^ k * (B * b2) := by rw [Nat.mul_assoc, Nat.mul_add, Nat.mul_add]
  rw [Nat.mul_add d, h2, h3]
  rw [Nat.mul_add] at inv
  omega
end Go.Proofs.YtiglekomfgfilaaGreatDoor.Na

/- takes. -/
namespace Go.Proofs.YtiglekomfgfilaaGreatDoor
set_option maxRecDepth 100000
set_option maxHeartbeats 2000000
set_option linter.all false
open Go.RowKit
theorem Blk.onl {w w' : World} {g k : Nat} {o : List Nat} (h : Blk w k o) (hb : Onl g w w') (hk : k ≠ g) : Blk w' k o := (hb.block k hk h.lt).trans h
theorem Na.takes_limb2 (x lo hi cc b l2 : Nat) (hx : x < 4294967296) (hlo : lo < 4294967296) (hhi : hi ≤ 4294967294) (hc : cc < 4294967296) (hb : b ≤ 1) (hl2 : l2 = (lo + cc) % 4294967296) :
    ∃ o b2 c2 : Nat, o < 4294967296 ∧ b2 ≤ 1 ∧ c2 < 4294967296 ∧ (hi : Int) + ((lo : Int) + cc) / 4294967296 = (c2 : Int) ∧ (((x : Int) - l2) % 18446744073709551616 - b) % 18446744073709551616 % 4294967296 = (o : Int) ∧ (((x : Int) - l2) % 18446744073709551616 - b) % 18446744073709551616 / 9223372036854775808 = (b2 : Int) ∧
    x + Na.B * (c2 + b2) = o + (hi * 4294967296 + lo + cc + b) ∧ (hi = 0 → lo = 0 → c2 = 0) := by
  show ∃ o b2 c2 : Nat, o < 4294967296 ∧ b2 ≤ 1 ∧ c2 < 4294967296 ∧ (hi : Int) + ((lo : Int) + cc) / 4294967296 = (c2 : Int) ∧ (((x : Int) - l2) % 18446744073709551616 - b) % 18446744073709551616 % 4294967296 = (o : Int) ∧ (((x : Int) - l2) % 18446744073709551616 - b) % 18446744073709551616 / 9223372036854775808 = (b2 : Int) ∧
    x + 4294967296 * (c2 + b2) = o + (hi * 4294967296 + lo + cc + b) ∧ (hi = 0 → lo = 0 → c2 = 0)
  rcases Nat.lt_or_ge x (l2 + b) with h | h
  · exact ⟨x + 4294967296 - l2 - b, 1, hi + (lo + cc) / 4294967296, by omega, by omega, by omega, by omega, by omega, by omega, by omega, by omega⟩
  · exact ⟨x - l2 - b, 0, hi + (lo + cc) / 4294967296, by omega, by omega, by omega, by omega, by omega, by omega, by omega, by omega⟩
theorem Na.and32 (a : Nat) (ha : a < 18446744073709551616) : bits BinOp.and IntKind.u64 (a : Int) 4294967295 = ((a % 4294967296 : Nat) : Int) := by
  have h := bits_and_u64_nat a 4294967295 ha (by decide)
  rw [show (4294967295 : Nat) = 2 ^ 32 - 1 from rfl, Nat.and_two_pow_sub_one_eq_mod] at h
  exact h
theorem Na.drop_set_more {O o : List Nat} {i v : Nat} (h : o.drop i = O.drop i) : (o.set i v).drop (i + 1) = O.drop (i + 1) := by
  rw [List.drop_set, if_pos (by omega)]
  have := congrArg (List.drop 1) h
  rwa [List.drop_drop, List.drop_drop] at this
def takesLoop (N off g d : Nat) (O q : List Nat) (w : World) (cv bv iv : Value) (wr : World) : Prop := ∃ (k c b : Nat) (o : List Nat), k ≤ N ∧ iv = .int .i64 k ∧ cv = .int .u64 c ∧ bv = .int .u64 b ∧ c < 4294967296 ∧ b ≤ 1 ∧ Hid (Blk wr g o) ∧ Hid (o.length = O.length) ∧ Hid (Na.OK o) ∧
  Hid (o.take off = O.take off) ∧ Hid (o.drop (off + k) = O.drop (off + k)) ∧ Hid (q.length < k → c = 0) ∧ Hid (Na.val ((O.drop off).take k) + Na.B ^ k * (c + b) = Na.val ((o.drop off).take k) + d * Na.val (q.take k)) ∧ Hid (Onl g w wr)
def TakesR (N off g d : Nat) (O q : List Nat) (w : World) (e : Ending) (w' : World) : Prop := ∃ br, br ≤ 1 ∧ e = .returned (.bool (decide (0 < br))) ∧ Onl g w w' ∧ ∃ o, Blk w' g o ∧ o.length = O.length ∧ Na.OK o ∧ o.take off = O.take off ∧ o.drop (off + N) = O.drop (off + N) ∧
  Na.val ((O.drop off).take N) + Na.B ^ N * br = Na.val ((o.drop off).take N) + d * Na.val q
theorem na_takes_any (g gv off N c ca d : Nat) (O q : List Nat) (w : World) (hb : Blk w g O) (hok : Na.OK O) (hl : off + N ≤ O.length) (hv : Blk w gv q) (hvk : Na.OK q) (hne : gv ≠ g) (hqN : q.length < N) (hd : d < 4294967296) (hN : off + N ≤ 1000000) :
    Calls Tryz.prog 209 #[.slice (some ⟨g, off, none⟩) N c, .slice (some ⟨gv, 0, none⟩) q.length ca, .int .u64 d] w (TakesR N off g d O q w) := by
  have HB0 := Lib.hid hb; have HO0 := Lib.hid hok; have HL0 := Lib.hid hl; have HV := Lib.hid hv; have HVK := Lib.hid hvk; have HNE := Lib.hid hne
  clear hb hok hl hv hvk hne
  go_enter Tryz.func209, Tryz.ntmps209
  go_wp2_with fail
  go_loopw [7, 8, 15] (takesLoop N off g d O q w) (fun _ _ i _ => N - (intOf i).toNat)
  case atStart => exact ⟨0, 0, 0, O, Nat.zero_le _, rfl, rfl, rfl, by omega, by omega, HB0, Lib.hid rfl, HO0, Lib.hid rfl, Lib.hid rfl, Lib.hid (fun _ => rfl), Lib.hid (by simp [Na.val]), Lib.hid (Onl.refl _ _)⟩
  case round =>
    obtain ⟨k, cc, b, o, hk, rfl, rfl, rfl, hcc, hb1, HBl, HOl, HOk, HTk, HDr, HZ, HInv, HBe⟩ := hrel
    by_cases hlt : k < N
    · have hO1 : off + k < O.length := by have := HL0.out; omega
      have ho1 : off + k < o.length := by rw [HOl.out]; exact hO1
      have co := HBl.out.cell (off + k) ho1
      have fo := HBl.out.frozen (off + k)
      have hxl : O[off + k]'hO1 < 4294967296 := HO0.out _ (List.getElem_mem hO1)
      have HOx := Lib.hid (show (O.drop off).take (k + 1) = (O.drop off).take k ++ [O[off + k]'hO1] by
        rw [List.take_succ_eq_append_getElem (by rw [List.length_drop]; omega), List.getElem_drop])
      obtain ⟨x, hxe⟩ : ∃ x, O[off + k]'hO1 = x := ⟨_, rfl⟩
      rw [Na.drop_get HDr.out (Nat.le_refl _) ho1 hO1] at co
      rw [hxe] at co hxl HOx
      clear hxe
      by_cases hlq : k < q.length
      · have hv2 := HV.out.onl HBe.out HNE.out
        have c1 := hv2.cell k hlq
        have hyl : q[k]'hlq < 4294967296 := HVK.out _ (List.getElem_mem hlq)
        have VQ := Lib.hid (Na.val_take_succ q k hlq)
        obtain ⟨y, hye⟩ : ∃ x, q[k]'hlq = x := ⟨_, rfl⟩
        rw [hye] at c1 hyl VQ
        have hp := (Na.prod_le d y 0 0 hd hyl (by omega) (by omega)).1
        have hdp : (d : Int) * (y : Int) = ((d * y : Nat) : Int) := by simp
        obtain ⟨p, hpe⟩ : ∃ p, p = d * y := ⟨_, rfl⟩
        rw [← hpe] at hp hdp
        obtain ⟨hi, hhi⟩ : ∃ h, h = p / 4294967296 := ⟨_, rfl⟩
        obtain ⟨lo, hlo⟩ : ∃ h, h = p % 4294967296 := ⟨_, rfl⟩
        obtain ⟨l2, hl2⟩ : ∃ h, h = (lo + cc) % 4294967296 := ⟨_, rfl⟩
        have hand1 := Na.and32 p (by omega)
        rw [← hlo] at hand1
        have hdiv : (p : Int) / 4294967296 = (hi : Int) := by omega
        have hlo2 : lo < 4294967296 := by omega
        have hhi2 : hi ≤ 4294967294 := by omega
        have hand2 := Na.and32 (lo + cc) (by omega)
        rw [← hl2, show ((lo + cc : Nat) : Int) = (lo : Int) + (cc : Int) by simp] at hand2
        have hl22 : l2 < 4294967296 := by omega
        obtain ⟨z, b2, c2, hz, hb2, hc2, e1, e2, e3, he, he0⟩ := Na.takes_limb2 x lo hi cc b l2 hxl hlo2 hhi2 hcc hb1 hl2
        have hpp : hi * 4294967296 + lo = d * y := by rw [← hpe]; omega
        rw [hpp] at he
        have HS := Lib.hid (Na.takes_step O o q off d k x y cc b c2 b2 z ho1 HOx.out HInv.out VQ.out (by rw [List.length_drop]; omega) he)
        have E1 := Lib.hid e1; have E2 := Lib.hid e2; have E3 := Lib.hid e3
        clear hye hv2 hpe hhi hlo hl2 hpp he he0 e1 e2 e3 HInv
        go_wp2_with fail
        go_roundw
        case rel =>
          rw [IntKind.wrap_u64, IntKind.wrap_u64, E1.out, E2.out, E3.out]
          exact ⟨k + 1, c2, b2, o.set (off + k) z, by omega, by go_num, rfl, rfl, hc2, hb2, Lib.hid (HBl.out.set _ _), Lib.hid (by rw [List.length_set]; exact HOl.out), Lib.hid (Na.ok_set HOk.out _ _ hz), Lib.hid (by rw [List.take_set_of_le (by omega)]; exact HTk.out), Lib.hid (Na.drop_set_more HDr.out), Lib.hid (fun h => absurd h (by omega)), HS, Lib.hid (HBe.out.setCell _ _)⟩
        case measure => simp [intOf]; omega
      · have VQ := Lib.hid (Na.take_more q k (by omega))
        obtain ⟨z, b2, c2, hz, hb2, hc2, e1, e2, e3, he, he0⟩ := Na.takes_limb2 x 0 0 cc b cc hxl (by omega) (by omega) hcc hb1 (by omega)
        obtain rfl : c2 = 0 := he0 rfl rfl
        have HS := Lib.hid (Na.takes_step O o q off d k x 0 cc b 0 b2 z ho1 HOx.out HInv.out VQ.out (by rw [List.length_drop]; omega) (by rw [he]; omega))
        have hand1 : bits BinOp.and IntKind.u64 0 4294967295 = 0 := by decide
        have hand2 := Na.and32 cc (by omega)
        rw [Nat.mod_eq_of_lt hcc] at hand2
        have hcd : (cc : Int) / 4294967296 = 0 := by omega
        have E2 := Lib.hid e2; have E3 := Lib.hid e3
        clear he he0 e1 e2 e3 HInv
        go_wp2_with fail
        go_roundw
        case rel =>
          rw [IntKind.wrap_u64, IntKind.wrap_u64, E2.out, E3.out]
          exact ⟨k + 1, 0, b2, o.set (off + k) z, by omega, by go_num, rfl, rfl, by omega, hb2, Lib.hid (HBl.out.set _ _), Lib.hid (by rw [List.length_set]; exact HOl.out), Lib.hid (Na.ok_set HOk.out _ _ hz), Lib.hid (by rw [List.take_set_of_le (by omega)]; exact HTk.out), Lib.hid (Na.drop_set_more HDr.out), Lib.hid (fun _ => rfl), HS, Lib.hid (HBe.out.setCell _ _)⟩
        case measure => simp [intOf]; omega
    · obtain rfl : k = N := by omega
      have HE := Lib.hid (show Na.val ((O.drop off).take k) + Na.B ^ k * b = Na.val ((o.drop off).take k) + d * Na.val q by
        have h1 := HInv.out
        have h2 := HZ.out hqN
        rw [h2, Nat.zero_add, List.take_of_length_le (l := q) (by omega)] at h1
        exact h1)
      go_wp2_with fail
      go_ret
      exact ⟨b, hb1, by simp, HBe.out, o, HBl.out, HOl.out, HOk.out, HTk.out, HDr.out, HE.out⟩
end Go.Proofs.YtiglekomfgfilaaGreatDoor

/- gives. -/
namespace Go.Proofs.YtiglekomfgfilaaGreatDoor
set_option maxRecDepth 100000
set_option maxHeartbeats 2000000
set_option linter.all false
open Go.RowKit
def givesLoop (N off g : Nat) (O q : List Nat) (w : World) (cv iv : Value) (wr : World) : Prop := ∃ (k c : Nat) (o : List Nat), k ≤ N ∧ iv = .int .i64 k ∧ cv = .int .u32 c ∧ c ≤ 1 ∧ Hid (Blk wr g o) ∧ Hid (o.length = O.length) ∧ Hid (Na.OK o) ∧
  Hid (o.take off = O.take off) ∧ Hid (o.drop (off + k) = O.drop (off + k)) ∧ Hid (Na.val ((o.drop off).take k) + Na.B ^ k * c = Na.val ((O.drop off).take k) + Na.val (q.take k)) ∧ Hid (Onl g w wr)
def GivesR (N off g : Nat) (O q : List Nat) (w : World) (e : Ending) (w' : World) : Prop := e = .returned (.tuple #[]) ∧ Onl g w w' ∧ ∃ o c, Blk w' g o ∧ o.length = O.length ∧ Na.OK o ∧ o.take off = O.take off ∧ o.drop (off + N) = O.drop (off + N) ∧
  Na.val ((o.drop off).take N) + Na.B ^ N * c = Na.val ((O.drop off).take N) + Na.val q
theorem na_gives_any (g gv off N c ca : Nat) (O q : List Nat) (w : World) (hb : Blk w g O) (hok : Na.OK O) (hl : off + N ≤ O.length) (hv : Blk w gv q) (hvk : Na.OK q) (hne : gv ≠ g) (hqN : q.length ≤ N) (hN : off + N ≤ 1000000) :
    Calls Tryz.prog 210 #[.slice (some ⟨g, off, none⟩) N c, .slice (some ⟨gv, 0, none⟩) q.length ca] w (GivesR N off g O q w) := by
  have HB0 := Lib.hid hb; have HO0 := Lib.hid hok; have HL0 := Lib.hid hl; have HV := Lib.hid hv; have HVK := Lib.hid hvk; have HNE := Lib.hid hne
  clear hb hok hl hv hvk hne
  go_enter Tryz.func210, Tryz.ntmps210
  go_wp2_with fail
  go_loopw [4, 9] (givesLoop N off g O q w) (fun _ i _ => N - (intOf i).toNat)
  case atStart => exact ⟨0, 0, O, Nat.zero_le _, rfl, rfl, by omega, HB0, Lib.hid rfl, HO0, Lib.hid rfl, Lib.hid rfl, Lib.hid (by simp [Na.val]), Lib.hid (Onl.refl _ _)⟩
  case round =>
    obtain ⟨k, cc, o, hk, rfl, rfl, hcc, HBl, HOl, HOk, HTk, HDr, HInv, HBe⟩ := hrel
    by_cases hlt : k < N
    · have hO1 : off + k < O.length := by have := HL0.out; omega
      have ho1 : off + k < o.length := by rw [HOl.out]; exact hO1
      have co := HBl.out.cell (off + k) ho1
      have fo := HBl.out.frozen (off + k)
      have hxl : O[off + k]'hO1 < 4294967296 := HO0.out _ (List.getElem_mem hO1)
      have VO := Lib.hid (show Na.val ((O.drop off).take (k + 1)) = Na.val ((O.drop off).take k) + Na.B ^ k * O[off + k]'hO1 by
        rw [Na.val_take_succ _ k (by rw [List.length_drop]; omega), List.getElem_drop])
      obtain ⟨x, hxe⟩ : ∃ x, O[off + k]'hO1 = x := ⟨_, rfl⟩
      rw [Na.drop_get HDr.out (Nat.le_refl _) ho1 hO1] at co
      rw [hxe] at co hxl VO
      clear hxe
      have hod : k < (o.drop off).length := by rw [List.length_drop]; omega
      by_cases hlq : k < q.length
      · have hv2 := HV.out.onl HBe.out HNE.out
        have c1 := hv2.cell k hlq
        have hyl : q[k]'hlq < 4294967296 := HVK.out _ (List.getElem_mem hlq)
        have VQ := Lib.hid (Na.val_take_succ q k hlq)
        obtain ⟨y, hye⟩ : ∃ x, q[k]'hlq = x := ⟨_, rfl⟩
        rw [hye] at c1 hyl VQ
        have HA32 := Lib.hid (add32_any x y cc hxl hyl (by omega) wr)
        have hs := Na.add_step (o.drop off) (O.drop off) q k x y cc hod HInv.out VO.out VQ.out
        rw [← Na.drop_set] at hs
        have HS := Lib.hid hs
        have hcc2 : (x + y + cc) / 4294967296 ≤ 1 := by omega
        have hvl : (x + y + cc) % 4294967296 < 4294967296 := Nat.mod_lt _ (by decide)
        obtain ⟨v, hv⟩ : ∃ v, v = (x + y + cc) % 4294967296 := ⟨_, rfl⟩
        obtain ⟨cn, hcn⟩ : ∃ v, v = (x + y + cc) / 4294967296 := ⟨_, rfl⟩
        rw [← hv, ← hcn] at HS HA32
        rw [← hcn] at hcc2
        rw [← hv] at hvl
        clear hv hcn hye hv2 hs hod
        go_wp2_with (first | (go_at_call 207; (with_reducible refine (HA32.out).mono ?_); rintro e w' ⟨rfl, rfl⟩))
        go_roundw
        case rel => exact ⟨k + 1, cn, o.set (off + k) v, by omega, by go_num, rfl, hcc2, Lib.hid (HBl.out.set _ _), Lib.hid (by rw [List.length_set]; exact HOl.out), Lib.hid (Na.ok_set HOk.out _ _ hvl), Lib.hid (by rw [List.take_set_of_le (by omega)]; exact HTk.out), Lib.hid (Na.drop_set_more HDr.out), HS, Lib.hid (HBe.out.setCell _ _)⟩
        case measure => simp [intOf]; omega
      · have VQ := Lib.hid (Na.take_more q k (by omega))
        have HA32 := Lib.hid (show Calls Tryz.prog 207 #[.int .u32 x, .int .u32 0, .int .u32 cc] wr _ from add32_any x 0 cc hxl (by omega) (by omega) wr)
        have hs := Na.add_step (o.drop off) (O.drop off) q k x 0 cc hod HInv.out VO.out VQ.out
        rw [← Na.drop_set] at hs
        have HS := Lib.hid hs
        have hcc2 : (x + 0 + cc) / 4294967296 ≤ 1 := by omega
        have hvl : (x + 0 + cc) % 4294967296 < 4294967296 := Nat.mod_lt _ (by decide)
        obtain ⟨v, hv⟩ : ∃ v, v = (x + 0 + cc) % 4294967296 := ⟨_, rfl⟩
        obtain ⟨cn, hcn⟩ : ∃ v, v = (x + 0 + cc) / 4294967296 := ⟨_, rfl⟩
        rw [← hv, ← hcn] at HS HA32
        rw [← hcn] at hcc2
        rw [← hv] at hvl
        clear hv hcn hs hod
        go_wp2_with (first | (go_at_call 207; (with_reducible refine (HA32.out).mono ?_); rintro e w' ⟨rfl, rfl⟩))
        go_roundw
        case rel => exact ⟨k + 1, cn, o.set (off + k) v, by omega, by go_num, rfl, hcc2, Lib.hid (HBl.out.set _ _), Lib.hid (by rw [List.length_set]; exact HOl.out), Lib.hid (Na.ok_set HOk.out _ _ hvl), Lib.hid (by rw [List.take_set_of_le (by omega)]; exact HTk.out), Lib.hid (Na.drop_set_more HDr.out), HS, Lib.hid (HBe.out.setCell _ _)⟩
        case measure => simp [intOf]; omega
    · obtain rfl : k = N := by omega
      have HE := Lib.hid (show Na.val ((o.drop off).take k) + Na.B ^ k * cc = Na.val ((O.drop off).take k) + Na.val q by
        have h1 := HInv.out
        rwa [List.take_of_length_le (l := q) (by omega)] at h1)
      go_wp2_with fail
      refine bodyPost_end (results_none rfl _ _ _) rfl ?_
      exact ⟨rfl, HBe.out, o, cc, HBl.out, HOl.out, HOk.out, HTk.out, HDr.out, HE.out⟩
end Go.Proofs.YtiglekomfgfilaaGreatDoor

/- shift: only the one block turns. -/
namespace Go.Proofs.YtiglekomfgfilaaGreatDoor
set_option maxRecDepth 100000
set_option maxHeartbeats 2000000
set_option linter.all false
open Go.RowKit
def shiftLoop2 (N s g off : Nat) (O q : List Nat) (w : World) (cv iv : Value) (wr : World) : Prop := ∃ (k c : Nat) (o : List Nat), k ≤ N ∧ iv = .int .i64 k ∧ cv = .int .u64 c ∧ Hid (c < 2 ^ s) ∧ Hid (Blk wr g o) ∧ Hid (o.length = off + N) ∧ Hid (Na.OK o) ∧ Hid (o.take off = O.take off) ∧
  Hid (Na.val ((o.drop off).take k) + Na.B ^ k * c = Na.val (q.take k) * 2 ^ s) ∧ Hid (Onl g w wr)
theorem na_shift_onl (g off N c s ca : Nat) (O q : List Nat) (a : Option Addr) (w : World) (hb : Blk w g O) (hok : Na.OK O) (hl : O.length = off + N) (hs : ∀ wr, Below g w wr → Sl wr a ca q) (hs2 : s < 32) (hq : q.length ≤ 1000000) (hN : off + N ≤ 1000000) :
    Calls Tryz.prog 116 #[.slice (some ⟨g, off, none⟩) N c, .slice a q.length ca, .int .i64 s] w (fun e w' => e = .returned (.tuple #[]) ∧ Onl g w w' ∧ ∃ o', Blk w' g o' ∧ o'.length = off + N ∧ Na.OK o' ∧ o'.take off = O.take off ∧ ∃ cc, Na.val (o'.drop off) + Na.B ^ N * cc = Na.val (q.take N) * 2 ^ s) := by
  have HB0 := Lib.hid hb; have HO0 := Lib.hid hok; have HL0 := Lib.hid hl; have HS := Lib.hid hs
  clear hb hok hl hs
  go_enter Tryz.func116, Tryz.ntmps116
  go_wp2_with fail
  go_loopw [6, 10] (shiftLoop2 N s g off O q w) (fun _ i _ => N - (intOf i).toNat)
  case atStart => exact ⟨0, 0, O, Nat.zero_le _, rfl, rfl, Lib.hid (Nat.pow_pos (by decide)), HB0, HL0, HO0, Lib.hid rfl, Lib.hid (by simp [Na.val]), Lib.hid (Onl.refl _ _)⟩
  case round =>
    clear HB0 HO0 HL0
    obtain ⟨k, cc, o, hk, rfl, rfl, HC, HBl, HOl, HOk, HTk, HInv, HBe⟩ := hrel
    by_cases hlt : k < N
    · have ho1 : off + k < o.length := by have := HOl.out; omega
      have co := HBl.out.cell (off + k) ho1
      have fo := HBl.out.frozen (off + k)
      by_cases hlq : k < q.length
      · obtain ⟨b1, o1, rfl, hb1, hc1⟩ := (HS.out wr HBe.out.below).plain (by omega)
        have c1 := hc1 k hlq
        have hx := (HS.out wr HBe.out.below).lt k hlq
        have VQ := Lib.hid (Na.val_take_succ q k hlq)
        obtain ⟨x, hxe⟩ : ∃ x, q[k]'hlq = x := ⟨_, rfl⟩
        rw [hxe] at c1 hx VQ
        obtain ⟨hl1, hl2⟩ := Na.shift_lt cc x s hs2 HC.out hx
        have hor := Na.or_shift cc x s HC.out hl1
        have HST := Lib.hid (Na.shift_step o q off k cc x s ho1 HInv.out VQ.out)
        obtain ⟨t, ht⟩ : ∃ t, t = cc + x * 2 ^ s := ⟨_, rfl⟩
        rw [← ht] at hl1 hl2 hor HST
        have HL2 := Lib.hid hl2
        clear hc1 hxe ht hl2
        go_wp2_with fail
        go_roundw
        case rel => exact ⟨k + 1, t / 4294967296, o.set (off + k) (t % 4294967296), by omega, by go_num, by first | rfl | (rw [hor]; simp) | go_num, HL2, Lib.hid (by have := HBl.out.set (off + k) (t % 4294967296); first | exact this | (rw [hor]; exact this)), Lib.hid (by rw [List.length_set]; exact HOl.out), Lib.hid (Na.ok_set HOk.out _ _ (by omega)), Lib.hid (by rw [List.take_set_of_le (by omega)]; exact HTk.out), HST, Lib.hid (HBe.out.setCell _ _)⟩
        case measure => simp [intOf]; omega
      · have hl1 : cc < 4294967296 := Nat.lt_of_lt_of_le HC.out (Nat.le_trans (Nat.pow_le_pow_right (by decide) (show s ≤ 32 by omega)) (by decide))
        have HST := Lib.hid (Na.shift_step o q off k cc 0 s ho1 HInv.out (Na.take_more q k (by omega)))
        have e0 : cc + 0 * 2 ^ s = cc := by omega
        rw [e0] at HST
        have HL2 := Lib.hid (show cc / 4294967296 < 2 ^ s by rw [Nat.div_eq_of_lt hl1]; exact Nat.pow_pos (by decide))
        clear e0
        go_wp2_with fail
        go_roundw
        case rel => exact ⟨k + 1, cc / 4294967296, o.set (off + k) (cc % 4294967296), by omega, by go_num, by first | rfl | go_num, HL2, Lib.hid (by have := HBl.out.set (off + k) (cc % 4294967296); first | exact this | (rw [Nat.mod_eq_of_lt hl1] at this ⊢; exact this)), Lib.hid (by rw [List.length_set]; exact HOl.out), Lib.hid (Na.ok_set HOk.out _ _ (by omega)), Lib.hid (by rw [List.take_set_of_le (by omega)]; exact HTk.out), HST, Lib.hid (HBe.out.setCell _ _)⟩
        case measure => simp [intOf]; omega
    · obtain rfl : k = N := by omega
      have HE := Lib.hid (show Na.val (o.drop off) + Na.B ^ k * cc = Na.val (q.take k) * 2 ^ s by
        have := HInv.out; rwa [List.take_of_length_le (by rw [List.length_drop, HOl.out]; omega)] at this)
      go_wp2_with fail
      refine bodyPost_end (results_none rfl _ _ _) rfl ?_
      exact ⟨rfl, HBe.out, o, HBl.out, HOl.out, HOk.out, HTk.out, cc, HE.out⟩
end Go.Proofs.YtiglekomfgfilaaGreatDoor
