/- Chapter 10: a number in digits (the law's own). -/
import Derived.Test.YtiglekomfgfilaaGreatDoorZ31
import Derived.Test.YtiglekomfgfilaaGreatDoorZ19
namespace Go.Proofs.YtiglekomfgfilaaGreatDoor
set_option maxRecDepth 100000
set_option maxHeartbeats 8000000
set_option linter.all false
open Go.RowKit
theorem l10_digit_any (v : Nat) (hv : v < 10) (w : World) : Calls Tryz.prog 25 #[.int .u64 v] w (Ret0 (.string (decS v)) w) := by
  have hc : v = 0 ∨ v = 1 ∨ v = 2 ∨ v = 3 ∨ v = 4 ∨ v = 5 ∨ v = 6 ∨ v = 7 ∨ v = 8 ∨ v = 9 := by omega
  clear hv
  rcases hc with rfl | rfl | rfl | rfl | rfl | rfl | rfl | rfl | rfl | rfl
  all_goals (
    go_enter Tryz.func25, Tryz.ntmps25
    go_wp2_with fail
    go_ret
    exact Ret0.of (congrArg Value.string (by rw [decS, Lib.decDigits_one (by decide)]; first | rfl | decide +kernel)))
theorem dec_ten {v : Nat} (hv : ¬ v < 10) : Lib.decDigits v = Lib.decDigits (v / 10) ++ Lib.decDigits (v % 10) := by
  rw [Lib.decDigits_one (show v % 10 < 10 by omega)]
  conv => lhs; rw [Lib.decDigits, dif_neg hv]
theorem l10_digits_step (v : Nat) (hv : ¬ v < 10) (hl : v < 1000000000000000) (h1 : ∀ w, Calls Tryz.prog 25 #[.int .u64 (v / 10 : Nat)] w (Ret0 (.string (decS (v / 10))) w)) (h2 : ∀ w, Calls Tryz.prog 25 #[.int .u64 (v % 10 : Nat)] w (Ret0 (.string (decS (v % 10))) w)) (w : World) :
    Calls Tryz.prog 25 #[.int .u64 v] w (Ret0 (.string (decS v)) w) := by
  have z1 : (decS (v / 10)).size ≤ 100 := by rw [decS_size]; exact Nat.le_trans (Fl.len_dec (k := 15) (by omega)) (by decide)
  have z2 : (decS (v % 10)).size ≤ 100 := by rw [decS_size]; exact Nat.le_trans (Fl.len_dec (k := 15) (by omega)) (by decide)
  have hs : decS v = decS (v / 10) ++ decS (v % 10) := by
    have : (decS v).data.toList = (decS (v / 10) ++ decS (v % 10)).data.toList := by rw [ba_app, decS_list, decS_list, decS_list, dec_ten hv]
    exact ByteArray.ext (Array.toList_inj.1 this)
  obtain ⟨a, ha⟩ : ∃ a, a = v / 10 := ⟨_, rfl⟩
  obtain ⟨b, hb⟩ : ∃ b, b = v % 10 := ⟨_, rfl⟩
  have hai : (v : Int) / 10 = (a : Int) := by omega
  have hbi : (v : Int) % 10 = (b : Int) := by omega
  have hat : Int.tdiv (v : Int) 10 = (a : Int) := by rw [Int.tdiv_eq_ediv_of_nonneg (by omega)]; exact hai
  have hbt : Int.tmod (v : Int) 10 = (b : Int) := by rw [Int.tmod_eq_emod_of_nonneg (by omega)]; exact hbi
  rw [← ha] at h1 z1 hs
  rw [← hb] at h2 z2 hs
  obtain ⟨A, hA⟩ : ∃ A, A = decS a := ⟨_, rfl⟩
  obtain ⟨B, hB⟩ : ∃ A, A = decS b := ⟨_, rfl⟩
  rw [← hA] at h1 z1 hs
  rw [← hB] at h2 z2 hs
  rw [hs]
  have H1 := Lib.hid h1; have H2 := Lib.hid h2
  have hvi : ¬ (v : Int) < 10 := by omega
  clear h1 h2 hs ha hb hA hB
  go_enter Tryz.func25, Tryz.ntmps25
  go_wp2_with (first
    | (go_at_call 25; (with_reducible refine (H1.out _).mono ?_); rintro e w' ⟨rfl, rfl⟩)
    | (go_at_call 25; (with_reducible refine (H2.out _).mono ?_); rintro e w' ⟨rfl, rfl⟩))
  go_ret
  exact Ret0.of rfl
theorem l10_digits_any : ∀ (v : Nat), v < 1000000000000000 → ∀ w, Calls Tryz.prog 25 #[.int .u64 v] w (Ret0 (.string (decS v)) w) := by
  intro v
  induction v using Nat.strongRecOn with
  | _ v ih =>
    intro hl w
    by_cases hv : v < 10
    · exact l10_digit_any v hv w
    · exact l10_digits_step v hv hl (fun w1 => ih (v / 10) (by omega) (by omega) w1) (fun w1 => ih (v % 10) (by omega) (by omega) w1) w
attribute [local go_sem] dc_guard
theorem l10_fifteen_any (d : Nat) (E : Int) (w : World) (hd : d < 18446744073709551616) (hE : -9223372036854775808 ≤ E ∧ E ≤ 9223372036854775807) (ht : Tab w) : Calls Tryz.prog 7 #[.int .u64 d, .int .i64 E] w (RetB (.bool true) w) := by
  have HSH := Lib.hid (l10_shown_any w ht)
  have HN := Lib.hid (fun w1 => sh_new_any w1)
  have HT := Lib.hid ht
  obtain ⟨v, hv⟩ : ∃ v, v = d % 1000000000000000 := ⟨_, rfl⟩
  have hvl : v < 1000000000000000 := by omega
  have hvi : (d : Int) % 1000000000000000 = (v : Int) := by omega
  have hvt : Int.tmod (d : Int) 1000000000000000 = (v : Int) := by rw [Int.tmod_eq_emod_of_nonneg (by omega)]; exact hvi
  obtain ⟨n, hn⟩ : ∃ n, n = E.tmod 290 := ⟨_, rfl⟩
  have hnb : -290 < n ∧ n < 290 := by
    rw [hn]
    have h1 := Int.tmod_lt_of_pos E (show (0 : Int) < 290 by decide)
    have h2 := Int.lt_tmod_of_pos E (show (0 : Int) < 290 by decide)
    omega
  have hnt : E.tmod 290 = n := hn.symm
  obtain ⟨l, X, b0, f1, f2, f3, f4, f5, f6⟩ := Fl.fif_law hvl hnb
  have hdg := fun w1 => l10_digits_any v hvl w1
  have hmk := fun w1 => r7_make_any false (decS v) n w1 (by rw [decS_size]; exact Nat.le_trans (Fl.len_dec (k := 15) (by omega)) (by decide)) (by omega)
  rw [decS_list, f1, drv_val] at hmk
  unfold drv dag at hmk
  obtain ⟨S, hS⟩ : ∃ S : ByteArray, S = ⟨l.toArray⟩ := ⟨_, rfl⟩
  have hSl : l = S.data.toList := by rw [hS]
  simp only [← hS] at hmk
  rw [hSl] at f2 f3
  have hbt := fun w1 => r8_bits_any false S X w1 f2
  rw [f3, show Fl.wsign false = 0 from rfl, Nat.zero_add] at hbt
  have hb64 : b0 < 18446744073709551616 := by omega
  have hdc := fun v b w1 (h : St10 w v b w1) => h.dec (x := b0) hb64
  have hfi := fun v b w1 (h : St10 w v b w1) => h.fif (x := b0) hb64
  rw [f6] at hdc
  rw [f5] at hfi
  unfold drv dag at hdc hfi
  simp only [← hS] at hdc hfi
  obtain ⟨V, hV⟩ : ∃ V, V = decS v := ⟨_, rfl⟩
  rw [← hV] at hdg hmk
  have q1 : ∀ w1, (binOp .eql 27 (.agg #[.bool false, .string S, .int .i64 X]) (.agg #[.bool false, .string S, .int .i64 X])).run Tryz.prog w1 = .ok (.bool true) w1 := fun w1 => by rw [dc_eql]; simp [dcEq]
  have HDG := Lib.hid hdg; have HMK := Lib.hid hmk; have HBT := Lib.hid hbt; have HDC := Lib.hid hdc; have HFI := Lib.hid hfi
  clear hdg hmk hbt hdc hfi hV hS hSl f1 f2 f3 f4 f5 f6 hn hv ht
  go_enter Tryz.func7, Tryz.ntmps7
  go_wp2_with (first
    | (go_at_call 8; (with_reducible refine (HSH.out).mono ?_); rintro e w1 ⟨rfl, hb1⟩)
    | (go_at_call 25; (with_reducible refine (HDG.out _).mono ?_); rintro e w' ⟨rfl, rfl⟩)
    | (go_at_call 24; (with_reducible refine (HMK.out _).mono ?_); rintro e w2 ⟨rfl, hb2⟩; have B2 := (hb1.trans (hb2.mono hb1.size)).alloc (Nat.le_trans hb1.size hb2.size) (.cells #[.bool false, .string S, .int .i64 X] 27); have C2 := Cs.new w2 (dcs false S X) 27; have x0 := C2.get 0 rfl; have x1 := C2.get 1 rfl; have x2 := C2.get 2 rfl; have xl := C2.1)
    | (go_at_call 21; (with_reducible refine (HBT.out _).mono ?_); rintro e w3 ⟨rfl, hb3⟩; have B3 := B2.trans (hb3.mono B2.size); have C3 := C2.on hb3)
    | (go_at_call 9; (with_reducible refine (HN.out _).mono ?_); rintro e w4 ⟨v, b, rfl, gv, gb, wt4, hb4⟩; have B4 := B3.trans (hb4.mono B3.size); have S4 := Lib.hid (show St10 w v b w4 from ⟨⟨w, HT.out, Nat.le_trans B3.size gb, B4⟩, wt4, B4, Nat.le_trans B3.size gb⟩); have C4 := C3.on hb4; have hne4 := C3.1)
    | (go_at_call 11; (with_reducible refine (HFI.out _ _ _ S4.out).mono ?_); rintro e w5 ⟨rfl, hb5⟩; have S5 := Lib.hid ((S4.out.on hb5).on ((Below.refl _ w5).alloc (Nat.le_refl _) (.cells #[.bool false, .string S, .int .i64 X] 27))); have C5 := (C4.on hb5).alloc (.cells #[.bool false, .string S, .int .i64 X] 27); have E5 := Cs.new w5 (dcs false S X) 27; have hz5 := (S4.out.on hb5).wt.rd.lt)
    | (go_at_call 10; (with_reducible refine (HDC.out _ _ _ S5.out).mono ?_); rintro e w6 ⟨rfl, ho6, rd6⟩; have S6 := Lib.hid ((S5.out.onl ho6 rd6).on ((Below.refl _ w6).alloc (Nat.le_refl _) (.cells #[.bool false, .string S, .int .i64 X] 27))); have C6 := (C5.onl1 ho6 (by omega)).alloc (.cells #[.bool false, .string S, .int .i64 X] 27); have E6 := (E5.onl1 ho6 (by omega)).alloc (.cells #[.bool false, .string S, .int .i64 X] 27); have y0 := C6.get 0 rfl; have y1 := C6.get 1 rfl; have y2 := C6.get 2 rfl; have yl := C6.1; have u0 := E6.get 0 rfl; have u1 := E6.get 1 rfl; have u2 := E6.get 2 rfl; have ul := E6.1))
  go_ret
  exact RetB.of rfl S6.out.be
end Go.Proofs.YtiglekomfgfilaaGreatDoor
