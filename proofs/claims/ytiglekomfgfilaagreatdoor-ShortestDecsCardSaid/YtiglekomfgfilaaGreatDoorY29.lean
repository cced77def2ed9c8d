/- Chapter 10: what the laws ask of the program's own helpers; the examples hold: shown() returns true. -/
import Derived.Test.YtiglekomfgfilaaGreatDoorY28
import Derived.Test.YtiglekomfgfilaaGreatDoorY26
import Derived.Deep.RegionHeld3
import Derived.Test.YtiglekomfgfilaaGreatDoorY22
import Derived.Test.YtiglekomfgfilaaGreatDoorY27
import Derived.Test.YtiglekomfgfilaaGreatDoorY21
namespace Go.Proofs.YtiglekomfgfilaaGreatDoor
set_option maxRecDepth 100000
set_option maxHeartbeats 8000000
set_option linter.all false
open Go.RowKit
attribute [local go_sem] dc_guard
structure St10 (w0 : World) (v b : Nat) (w : World) : Prop where
  tb : TabB b w
  wt : Wtr w v b
  be : Below w0.heap.size w0 w
  le : w0.heap.size ≤ b
theorem St10.on {w0 w w' : World} {v b : Nat} (h : St10 w0 v b w) (hb : Below w.heap.size w w') : St10 w0 v b w' := ⟨h.tb.on hb, h.wt.on hb, h.be.trans (hb.mono h.be.size), h.le⟩
theorem St10.onl {w0 w w' : World} {v b : Nat} (h : St10 w0 v b w) (ho : Onl b w w') (hr : Rdr w' b) : St10 w0 v b w' := ⟨h.tb.onl ho, h.wt.onl ho hr, h.be.trans (ho.up h.le), h.le⟩
theorem l10_dec_any (s : ByteArray) (x : Int) (w : World) : Calls Tryz.prog 26 #[.string s, .int .i64 x] w (RetB (dag false s x) w) := by
  unfold dag
  go_enter Tryz.func26, Tryz.ntmps26
  go_wp2_with fail
  refine bodyPost_ret (v := .agg #[.bool false, .string s, .int .i64 x]) (by (simp [results, Tryz.results26, go_sem]; done)) rfl (RetB.of rfl ((Below.refl _ _).alloc (Nat.le_refl _) _))
def s10L : List Value := [.int .u64 4591870180066957722, .int .u64 9223372036854775808, .int .u64 4950912855330343670, .int .u64 1, .int .u64 4845873199050653696, .int .u64 9218868437227405311, .int .u64 9218868437227405312]
def s10W : List Value := [.string ⟨#[48, 46, 49]⟩, .string ⟨#[45, 48]⟩, .string ⟨#[49, 101, 43, 50, 51]⟩, .string ⟨#[53, 101, 45, 51, 50, 52]⟩, .string ⟨#[57, 48, 48, 55, 49, 57, 57, 50, 53, 52, 55, 52, 48, 57, 57, 50]⟩, .string ⟨#[49, 46, 55, 57, 55, 54, 57, 51, 49, 51, 52, 56, 54, 50, 51, 49, 53, 55, 101, 43, 51, 48, 56]⟩, .string ⟨#[105, 110, 102]⟩]
theorem s10_at : ∀ k : Nat, k < 7 → ∃ (v : Nat) (T : ByteArray), s10L[k]? = some (.int .u64 (v : Nat)) ∧ s10W[k]? = some (.string T) ∧ T.size ≤ 100 ∧ v < 18446744073709551616 ∧ Fl.wprint v = T.data.toList ∧ Fl.wparse T.data.toList = (v, 0)
  | 0, _ => ⟨4591870180066957722, ⟨#[48, 46, 49]⟩, rfl, rfl, by decide, by decide, Fl.shown10_p0, Fl.shown10_q0⟩
  | 1, _ => ⟨9223372036854775808, ⟨#[45, 48]⟩, rfl, rfl, by decide, by decide, Fl.shown10_p1, Fl.shown10_q1⟩
  | 2, _ => ⟨4950912855330343670, ⟨#[49, 101, 43, 50, 51]⟩, rfl, rfl, by decide, by decide, Fl.shown10_p2, Fl.shown10_q2⟩
  | 3, _ => ⟨1, ⟨#[53, 101, 45, 51, 50, 52]⟩, rfl, rfl, by decide, by decide, Fl.shown10_p3, Fl.shown10_q3⟩
  | 4, _ => ⟨4845873199050653696, ⟨#[57, 48, 48, 55, 49, 57, 57, 50, 53, 52, 55, 52, 48, 57, 57, 50]⟩, rfl, rfl, by decide, by decide, Fl.shown10_p4, Fl.shown10_q4⟩
  | 5, _ => ⟨9218868437227405311, ⟨#[49, 46, 55, 57, 55, 54, 57, 51, 49, 51, 52, 56, 54, 50, 51, 49, 53, 55, 101, 43, 51, 48, 56]⟩, rfl, rfl, by decide, by decide, Fl.shown10_p5, Fl.shown10_q5⟩
  | 6, _ => ⟨9218868437227405312, ⟨#[105, 110, 102]⟩, rfl, rfl, by decide, by decide, Fl.shown10_p6, Fl.shown10_q6⟩
  | n + 7, h => absurd h (by omega)
def sh10Loop (w0 : World) (v b L K : Nat) (iv : Value) (wr : World) : Prop := ∃ k : Nat, k ≤ 7 ∧ iv = .int .i64 k ∧ Hid (St10 w0 v b wr) ∧ Hid (Cs wr L s10L) ∧ Hid (Cs wr K s10W)
theorem l10_shown_any (w : World) (ht : Tab w) : Calls Tryz.prog 8 #[] w (RetB (.bool true) w) := by
  have HN := Lib.hid (fun w1 => sh_new_any w1)
  have HP := Lib.hid (fun v b s w1 (hs : s.size ≤ 100) (h : St10 w v b w1) => sh_parse_any v b s w1 h.tb (by omega) h.wt)
  have HQ := Lib.hid (fun v b x w1 (hx : x < 18446744073709551616) (h : St10 w v b w1) => sh_print_any v b x w1 h.tb hx h.wt)
  have HT := Lib.hid ht
  clear ht
  go_enter Tryz.func8, Tryz.ntmps8
  go_upto_region 4 with (first | (go_at_call 9; (with_reducible refine (HN.out _).mono ?_); rintro e w1 ⟨v, b, rfl, gv, gb, wt1, hb1⟩))
  have st1 : St10 w v b w1 := ⟨⟨w, HT.out, gb, hb1⟩, wt1, hb1, gb⟩
  go_wp2_with fail
  have hL0 : Cs ((w1.alloc (.cells s10L.toArray 22)).alloc (.cells s10W.toArray 9)) w1.heap.size s10L := (Cs.new w1 s10L 22).alloc _
  have hW0 : Cs ((w1.alloc (.cells s10L.toArray 22)).alloc (.cells s10W.toArray 9)) (w1.heap.size + 1) s10W := by
    have h := Cs.new (w1.alloc (.cells s10L.toArray 22)) s10W 9
    rw [World.size_alloc] at h; exact h
  have hB0 : Below w1.heap.size w1 ((w1.alloc (.cells s10L.toArray 22)).alloc (.cells s10W.toArray 9)) := ((Below.refl _ _).alloc (Nat.le_refl _) _).alloc (by simp) _
  have hS0 := st1.on hB0
  have hbl := wt1.rd.lt
  have hvl := wt1.lt
  obtain ⟨X, hX⟩ : ∃ X, X = ((w1.alloc (.cells s10L.toArray 22)).alloc (.cells s10W.toArray 9)) := ⟨_, rfl⟩
  change Code.wp _ _ _ _ ((w1.alloc (.cells s10L.toArray 22)).alloc (.cells s10W.toArray 9))
  rw [← hX] at hL0 hW0 hS0 ⊢
  obtain ⟨L, hL⟩ : ∃ L, L = w1.heap.size := ⟨_, rfl⟩
  obtain ⟨K, hK⟩ : ∃ K, K = w1.heap.size + 1 := ⟨_, rfl⟩
  rw [← hK] at hW0
  rw [← hL] at hL0
  rw [← hK, ← hL]
  have hLb : L ≠ b ∧ K ≠ b := by omega
  obtain ⟨hLb, hKb⟩ := hLb
  have HL0 := Lib.hid hL0; have HW0 := Lib.hid hW0; have HS0 := Lib.hid hS0
  clear hX hL hK hL0 hW0 hS0 hB0 st1 wt1 hb1 hbl hvl HN HT
  go_loopw [4] (sh10Loop w v b L K) (fun iv _ => 7 - (intOf iv).toNat)
  case atStart => exact ⟨0, by omega, rfl, HS0, HL0, HW0⟩
  case round =>
    clear HS0 HL0 HW0
    obtain ⟨k, hk, rfl, HS, HL, HW⟩ := hrel
    by_cases hlt : k < 7
    · obtain ⟨x, T, e1, e2, hT, hx, hp, hq⟩ := s10_at k hlt
      have c1 := HL.out.get k e1
      have c2 := HW.out.get k e2
      have hpq := fun w1 (h : St10 w v b w1) => HP.out v b T w1 hT h
      rw [hq] at hpq
      have hpr := fun w1 (h : St10 w v b w1) => HQ.out v b x w1 hx h
      rw [hp] at hpr
      have HPT := Lib.hid hpq
      have HPR := Lib.hid (show ∀ w1, St10 w v b w1 → Calls Tryz.prog 17 #[.pointer (some ⟨v, 0, none⟩), .int .u64 x] w1 (RetR b (.string T) w1) from hpr)
      have hll := HL.out.1; have hwl := HW.out.1
      have E1 := Lib.hid e1; have E2 := Lib.hid e2
      clear hp hq e1 e2 hpq hpr HP HQ
      go_upto_region 10 with (first | (go_at_call 15; (with_reducible refine (HPT.out _ HS.out).mono ?_); rintro e w2 ⟨rfl, ho2, rd2⟩; have S2 := HS.out.onl ho2 rd2; have L2 := HL.out.onl1 ho2 hLb; have K2 := HW.out.onl1 ho2 hKb))
      have b1 := L2.get k E1.out
      have b2 := K2.get k E2.out
      have bl1 := L2.1; have bl2 := K2.1
      have HS2 := Lib.hid S2; have HL2 := Lib.hid L2; have HK2 := Lib.hid K2
      clear S2 L2 K2 c1 c2 hll hwl HS HL HW ho2 rd2 HPT
      go_region_held3 (fun w' => w'.cell? ⟨L, k, none⟩ = some (.int .u64 (x : Nat)) ∧ w'.cell? ⟨K, k, none⟩ = some (.string T))
        (first | go_keep | (refine ⟨?_, ?_⟩ <;> (first | (rw [hr0_w3]; assumption) | (rw [hr1_w3]; assumption))) | (refine ⟨?_, ?_⟩ <;> (first | (go_simp; done) | (simp [go_sem, *]; done))))
        (first
        | (go_at_call 17; (with_reducible refine (HPR.out _ (HS2.out.on (by (repeat (first | exact Below.refl _ _ | assumption | refine Below.setCell ?_ (by first | omega | (simp <;> omega)) _ | refine Below.alloc ?_ (by first | omega | (simp <;> omega)) _ | refine Below.drew ?_ | refine below_drewN' ?_ _))))).mono ?_); rintro e w3 ⟨rfl, ho3, rd3⟩; have S3 := (HS2.out.on (by (repeat (first | exact Below.refl _ _ | assumption | refine Below.setCell ?_ (by first | omega | (simp <;> omega)) _ | refine Below.alloc ?_ (by first | omega | (simp <;> omega)) _ | refine Below.drew ?_ | refine below_drewN' ?_ _)))).onl ho3 rd3; have hr0_w3 := fun o => ho3.cell (k := L) (o := o) hLb (by (try simp only [zD, zN, zA, zS]); omega); have hr1_w3 := fun o => ho3.cell (k := K) (o := o) hKb (by (try simp only [zD, zN, zA, zS]); omega)))
      have hL3 := (HL2.out.on (by (repeat (first | exact Below.refl _ _ | assumption | refine Below.setCell ?_ (by first | omega | (simp <;> omega)) _ | refine Below.alloc ?_ (by first | omega | (simp <;> omega)) _ | refine Below.drew ?_ | refine below_drewN' ?_ _)))).onl1 ho3 hLb
      have hK3 := (HK2.out.on (by (repeat (first | exact Below.refl _ _ | assumption | refine Below.setCell ?_ (by first | omega | (simp <;> omega)) _ | refine Below.alloc ?_ (by first | omega | (simp <;> omega)) _ | refine Below.drew ?_ | refine below_drewN' ?_ _)))).onl1 ho3 hKb
      go_wp2
      go_roundw
      case rel => exact ⟨k + 1, by omega, by go_num, Lib.hid S3, Lib.hid hL3, Lib.hid hK3⟩
      case measure => simp [intOf]; omega
    · obtain rfl : k = 7 := by omega
      clear hlt hk HL HW HQ
      obtain ⟨T1, hT1⟩ : ∃ T : ByteArray, T = ⟨#[51]⟩ := ⟨_, rfl⟩
      obtain ⟨T2, hT2⟩ : ∃ T : ByteArray, T = ⟨#[51, 51, 51, 51, 51, 51, 51, 51, 51, 51, 51, 51, 51, 51, 51]⟩ := ⟨_, rfl⟩
      obtain ⟨T3, hT3⟩ : ∃ T : ByteArray, T = ⟨#[49, 49, 53, 50, 57, 50, 49, 53, 48, 52, 54, 48, 54, 56, 53]⟩ := ⟨_, rfl⟩
      have P1 := Lib.hid (fun w1 (h : St10 w v b w1) => (show Calls Tryz.prog 15 #[.pointer (some ⟨v, 0, none⟩), .string ⟨#[48, 46, 49, 48]⟩] w1 (RetR b (.tuple #[.int .u64 0, .int .i64 3]) w1) from by
        have q := HP.out v b ⟨#[48, 46, 49, 48]⟩ w1 (by decide) h
        rw [show (⟨#[48, 46, 49, 48]⟩ : ByteArray).data.toList = [48, 46, 49, 48] from rfl, Fl.shown10_a] at q; exact q))
      have P2 := Lib.hid (fun w1 (h : St10 w v b w1) => (show Calls Tryz.prog 15 #[.pointer (some ⟨v, 0, none⟩), .string ⟨#[49, 101, 50, 51]⟩] w1 (RetR b (.tuple #[.int .u64 0, .int .i64 3]) w1) from by
        have q := HP.out v b ⟨#[49, 101, 50, 51]⟩ w1 (by decide) h
        rw [show (⟨#[49, 101, 50, 51]⟩ : ByteArray).data.toList = [49, 101, 50, 51] from rfl, Fl.shown10_b] at q; exact q))
      have P3 := Lib.hid (fun w1 (h : St10 w v b w1) => (show Calls Tryz.prog 15 #[.pointer (some ⟨v, 0, none⟩), .string ⟨#[110, 97, 110]⟩] w1 (RetR b (.tuple #[.int .u64 9221120237041090560, .int .i64 0]) w1) from by
        have q := HP.out v b ⟨#[110, 97, 110]⟩ w1 (by decide) h
        rw [show (⟨#[110, 97, 110]⟩ : ByteArray).data.toList = [110, 97, 110] from rfl, Fl.shown10_c] at q; exact q))
      have F1 := Lib.hid (fun w1 (h : St10 w v b w1) => (show Calls Tryz.prog 11 #[.pointer (some ⟨v, 0, none⟩), .int .u64 4599075939470750516] w1 (RetB (.tuple #[.agg #[.bool false, .string T1, .int .i64 (-1)], .int .i64 0]) w1) from by
        have q := sh_fifteen_any (some ⟨v, 0, none⟩) 4599075939470750516 w1 h.tb.tab (by decide)
        rw [Fl.shown10_d] at q; rw [hT1]; exact q))
      have F2 := Lib.hid (fun w1 (h : St10 w v b w1) => (show Calls Tryz.prog 11 #[.pointer (some ⟨v, 0, none⟩), .int .u64 4599676419421066581] w1 (RetB (.tuple #[.agg #[.bool false, .string T2, .int .i64 (-15)], .int .i64 0]) w1) from by
        have q := sh_fifteen_any (some ⟨v, 0, none⟩) 4599676419421066581 w1 h.tb.tab (by decide)
        rw [Fl.shown10_e] at q; rw [hT2]; exact q))
      have F3 := Lib.hid (fun w1 (h : St10 w v b w1) => (show Calls Tryz.prog 11 #[.pointer (some ⟨v, 0, none⟩), .int .u64 4877398396442247168] w1 (RetB (.tuple #[.agg #[.bool false, .string T3, .int .i64 4], .int .i64 0]) w1) from by
        have q := sh_fifteen_any (some ⟨v, 0, none⟩) 4877398396442247168 w1 h.tb.tab (by decide)
        rw [Fl.shown10_f] at q; rw [hT3]; exact q))
      have DN := Lib.hid (fun w1 (h : St10 w v b w1) => (show Calls Tryz.prog 10 #[.pointer (some ⟨v, 0, none⟩), .int .u64 9221120237041090560] w1 (RetR b (.tuple #[.agg #[.bool false, .string ⟨#[]⟩, .int .i64 0], .int .i64 11]) w1) from by
        have q := sh_dec_any v b 9221120237041090560 w1 h.tb.tab (by decide) h.wt
        rw [Fl.shown10_g] at q; exact q))
      have D1 := Lib.hid (fun w1 => (show Calls Tryz.prog 26 #[.string ⟨#[51]⟩, .int .i64 (-1)] w1 (RetB (.agg #[.bool false, .string T1, .int .i64 (-1)]) w1) from by rw [hT1]; exact l10_dec_any _ _ w1))
      have D2 := Lib.hid (fun w1 => (show Calls Tryz.prog 26 #[.string ⟨#[51, 51, 51, 51, 51, 51, 51, 51, 51, 51, 51, 51, 51, 51, 51]⟩, .int .i64 (-15)] w1 (RetB (.agg #[.bool false, .string T2, .int .i64 (-15)]) w1) from by rw [hT2]; exact l10_dec_any _ _ w1))
      have D3 := Lib.hid (fun w1 => (show Calls Tryz.prog 26 #[.string ⟨#[49, 49, 53, 50, 57, 50, 49, 53, 48, 52, 54, 48, 54, 56, 53]⟩, .int .i64 4] w1 (RetB (.agg #[.bool false, .string T3, .int .i64 4]) w1) from by rw [hT3]; exact l10_dec_any _ _ w1))
      have q1 : ∀ w1, (binOp .eql 27 (.agg #[.bool false, .string T1, .int .i64 (-1)]) (.agg #[.bool false, .string T1, .int .i64 (-1)])).run Tryz.prog w1 = .ok (.bool true) w1 := fun w1 => by rw [dc_eql]; simp [dcEq]
      have q2 : ∀ w1, (binOp .eql 27 (.agg #[.bool false, .string T2, .int .i64 (-15)]) (.agg #[.bool false, .string T2, .int .i64 (-15)])).run Tryz.prog w1 = .ok (.bool true) w1 := fun w1 => by rw [dc_eql]; simp [dcEq]
      have q3 : ∀ w1, (binOp .eql 27 (.agg #[.bool false, .string T3, .int .i64 4]) (.agg #[.bool false, .string T3, .int .i64 4])).run Tryz.prog w1 = .ok (.bool true) w1 := fun w1 => by rw [dc_eql]; simp [dcEq]
      clear hT1 hT2 hT3 HP
      go_upto_region 19 with (first
        | (go_at_call 15; (with_reducible refine (P1.out _ HS.out).mono ?_); rintro e w4 ⟨rfl, ho4, rd4⟩; have S4 := Lib.hid (HS.out.onl ho4 rd4))
        | (go_at_call 15; (with_reducible refine (P2.out _ S4.out).mono ?_); rintro e w5 ⟨rfl, ho5, rd5⟩; have S5 := Lib.hid (S4.out.onl ho5 rd5))
        | (go_at_call 15; (with_reducible refine (P3.out _ S5.out).mono ?_); rintro e w6 ⟨rfl, ho6, rd6⟩; have S6 := Lib.hid (S5.out.onl ho6 rd6))
        | (go_at_call 11; (with_reducible refine (F1.out _ S6.out).mono ?_); rintro e w7 ⟨rfl, hb7⟩; have S7 := Lib.hid ((S6.out.on hb7).on ((Below.refl _ w7).alloc (Nat.le_refl _) (.cells #[.bool false, .string T1, .int .i64 (-1)] 27))); have C7 := Cs.new w7 (dcs false T1 (-1)) 27; have z7 := (S6.out.on hb7).wt.rd.lt)
        | (go_at_call 11; (with_reducible refine (F2.out _ S7.out).mono ?_); rintro e w8 ⟨rfl, hb8⟩; have S8 := Lib.hid ((S7.out.on hb8).on ((Below.refl _ w8).alloc (Nat.le_refl _) (.cells #[.bool false, .string T2, .int .i64 (-15)] 27))); have C8 := Cs.new w8 (dcs false T2 (-15)) 27; have E8 := (C7.on hb8).alloc (.cells #[.bool false, .string T2, .int .i64 (-15)] 27); have z8 := (S7.out.on hb8).wt.rd.lt)
        | (go_at_call 11; (with_reducible refine (F3.out _ S8.out).mono ?_); rintro e w9 ⟨rfl, hb9⟩; have S9 := Lib.hid ((S8.out.on hb9).on ((Below.refl _ w9).alloc (Nat.le_refl _) (.cells #[.bool false, .string T3, .int .i64 4] 27))); have C9 := Cs.new w9 (dcs false T3 4) 27; have E9 := (C8.on hb9).alloc (.cells #[.bool false, .string T3, .int .i64 4] 27); have G9 := (E8.on hb9).alloc (.cells #[.bool false, .string T3, .int .i64 4] 27); have z9 := (S8.out.on hb9).wt.rd.lt)
        | (go_at_call 10; (with_reducible refine (DN.out _ S9.out).mono ?_); rintro e w10 ⟨rfl, ho10, rd10⟩; have S10 := Lib.hid ((S9.out.onl ho10 rd10).on ((Below.refl _ w10).alloc (Nat.le_refl _) (.cells #[.bool false, .string ⟨#[]⟩, .int .i64 0] 27))); have C10 := (C9.onl1 ho10 (by omega)).alloc (.cells #[.bool false, .string ⟨#[]⟩, .int .i64 0] 27); have E10 := (E9.onl1 ho10 (by omega)).alloc (.cells #[.bool false, .string ⟨#[]⟩, .int .i64 0] 27); have G10 := (G9.onl1 ho10 (by omega)).alloc (.cells #[.bool false, .string ⟨#[]⟩, .int .i64 0] 27)))
      have hB := S10.out.be
      obtain ⟨g1, hg1⟩ : ∃ g, g = w7.heap.size := ⟨_, rfl⟩
      obtain ⟨g2, hg2⟩ : ∃ g, g = w8.heap.size := ⟨_, rfl⟩
      obtain ⟨g3, hg3⟩ : ∃ g, g = w9.heap.size := ⟨_, rfl⟩
      obtain ⟨X, hX⟩ : ∃ X, X = w10.alloc (.cells #[.bool false, .string ⟨#[]⟩, .int .i64 0] 27) := ⟨_, rfl⟩
      rw [← hX] at hB C10 E10 G10 ⊢
      rw [← hg1] at G10
      rw [← hg2] at E10
      rw [← hg3] at C10
      rw [← hg1, ← hg2, ← hg3]
      have x0 := G10.get 0 rfl; have x1 := G10.get 1 rfl; have x2 := G10.get 2 rfl; have xl := G10.1
      have y0 := E10.get 0 rfl; have y1 := E10.get 1 rfl; have y2 := E10.get 2 rfl; have yl := E10.1
      have v0 := C10.get 0 rfl; have v1 := C10.get 1 rfl; have v2 := C10.get 2 rfl; have vl := C10.1
      have hzX := hB.size
      have HBX := Lib.hid hB
      clear hX hg1 hg2 hg3 hB C10 E10 G10 S4 S5 S6 S7 S8 S9 S10 C7 C8 C9 E8 E9 G9 z7 z8 z9 ho4 ho5 ho6 hb7 hb8 hb9 ho10 rd4 rd5 rd6 rd10 P1 P2 P3 F1 F2 F3 DN HS
      go_region_held3 (fun w' => w'.cell? ⟨g1, 0, none⟩ = some (.bool false) ∧ w'.cell? ⟨g1, 1, none⟩ = some (.string T1) ∧ w'.cell? ⟨g1, 2, none⟩ = some (.int .i64 (-1)) ∧ w'.cell? ⟨g2, 0, none⟩ = some (.bool false) ∧ w'.cell? ⟨g2, 1, none⟩ = some (.string T2) ∧ w'.cell? ⟨g2, 2, none⟩ = some (.int .i64 (-15)) ∧ w'.cell? ⟨g3, 0, none⟩ = some (.bool false) ∧ w'.cell? ⟨g3, 1, none⟩ = some (.string T3) ∧ w'.cell? ⟨g3, 2, none⟩ = some (.int .i64 4))
        (first | go_keep | (refine ⟨?_, ?_, ?_, ?_, ?_, ?_, ?_, ?_, ?_⟩ <;> (first | (rw [hr0_wA]; assumption) | (rw [hr1_wA]; assumption) | (rw [hr2_wA]; assumption) | (rw [hr0_wB]; assumption) | (rw [hr1_wB]; assumption) | (rw [hr2_wB]; assumption) | (rw [hr0_wC]; assumption) | (rw [hr1_wC]; assumption) | (rw [hr2_wC]; assumption))) | (refine ⟨?_, ?_, ?_, ?_, ?_, ?_, ?_, ?_, ?_⟩ <;> (first | (go_simp; done) | (simp [go_sem, *]; done))))
        (first
        | (go_at_call 26; (with_reducible refine (D1.out _).mono ?_); rintro e wA ⟨rfl, hb_wA⟩; have hB_wA : Below (X).heap.size (X) wA := Below.trans (by (repeat (first | exact Below.refl _ _ | assumption | refine Below.setCell ?_ (by first | omega | (simp <;> omega)) _ | refine Below.alloc ?_ (by first | omega | (simp <;> omega)) _ | refine Below.drew ?_ | refine below_drewN' ?_ _))) (hb_wA.mono (by first | omega | (simp <;> omega))); obtain ⟨hc_wA, hf_wA⟩ := bcell hb_wA; have hz_wA := hb_wA.size; (try simp only [zD, zN, zA, zS] at hz_wA); have hk := own6 hb_wA (g1) (by (try simp only [zD, zN, zA, zS]); omega); obtain ⟨hl0_wA, hm0_wA, hn0_wA, hq0_wA, hr0_wA, hg0_wA⟩ := hk; have hk := own6 hb_wA (g2) (by (try simp only [zD, zN, zA, zS]); omega); obtain ⟨hl1_wA, hm1_wA, hn1_wA, hq1_wA, hr1_wA, hg1_wA⟩ := hk; have hk := own6 hb_wA (g3) (by (try simp only [zD, zN, zA, zS]); omega); obtain ⟨hl2_wA, hm2_wA, hn2_wA, hq2_wA, hr2_wA, hg2_wA⟩ := hk)
        | (go_at_call 26; (with_reducible refine (D2.out _).mono ?_); rintro e wB ⟨rfl, hb_wB⟩; have hB_wB : Below (X).heap.size (X) wB := Below.trans (by (repeat (first | exact Below.refl _ _ | assumption | refine Below.setCell ?_ (by first | omega | (simp <;> omega)) _ | refine Below.alloc ?_ (by first | omega | (simp <;> omega)) _ | refine Below.drew ?_ | refine below_drewN' ?_ _))) (hb_wB.mono (by first | omega | (simp <;> omega))); obtain ⟨hc_wB, hf_wB⟩ := bcell hb_wB; have hz_wB := hb_wB.size; (try simp only [zD, zN, zA, zS] at hz_wB); have hk := own6 hb_wB (g1) (by (try simp only [zD, zN, zA, zS]); omega); obtain ⟨hl0_wB, hm0_wB, hn0_wB, hq0_wB, hr0_wB, hg0_wB⟩ := hk; have hk := own6 hb_wB (g2) (by (try simp only [zD, zN, zA, zS]); omega); obtain ⟨hl1_wB, hm1_wB, hn1_wB, hq1_wB, hr1_wB, hg1_wB⟩ := hk; have hk := own6 hb_wB (g3) (by (try simp only [zD, zN, zA, zS]); omega); obtain ⟨hl2_wB, hm2_wB, hn2_wB, hq2_wB, hr2_wB, hg2_wB⟩ := hk)
        | (go_at_call 26; (with_reducible refine (D3.out _).mono ?_); rintro e wC ⟨rfl, hb_wC⟩; have hB_wC : Below (X).heap.size (X) wC := Below.trans (by (repeat (first | exact Below.refl _ _ | assumption | refine Below.setCell ?_ (by first | omega | (simp <;> omega)) _ | refine Below.alloc ?_ (by first | omega | (simp <;> omega)) _ | refine Below.drew ?_ | refine below_drewN' ?_ _))) (hb_wC.mono (by first | omega | (simp <;> omega))); obtain ⟨hc_wC, hf_wC⟩ := bcell hb_wC; have hz_wC := hb_wC.size; (try simp only [zD, zN, zA, zS] at hz_wC); have hk := own6 hb_wC (g1) (by (try simp only [zD, zN, zA, zS]); omega); obtain ⟨hl0_wC, hm0_wC, hn0_wC, hq0_wC, hr0_wC, hg0_wC⟩ := hk; have hk := own6 hb_wC (g2) (by (try simp only [zD, zN, zA, zS]); omega); obtain ⟨hl1_wC, hm1_wC, hn1_wC, hq1_wC, hr1_wC, hg1_wC⟩ := hk; have hk := own6 hb_wC (g3) (by (try simp only [zD, zN, zA, zS]); omega); obtain ⟨hl2_wC, hm2_wC, hn2_wC, hq2_wC, hr2_wC, hg2_wC⟩ := hk))
      all_goals (try go_wp2)
      all_goals (go_ret; exact RetB.of rfl (HBX.out.trans ((by (repeat (first | exact Below.refl _ _ | assumption | refine Below.setCell ?_ (by first | omega | (simp <;> omega)) _ | refine Below.alloc ?_ (by first | omega | (simp <;> omega)) _ | refine Below.drew ?_ | refine below_drewN' ?_ _)) : Below X.heap.size X _).mono hzX)))
end Go.Proofs.YtiglekomfgfilaaGreatDoor

/- Plain Lean: the document's search, without signs: the same decimal; which of two is nearer, by naturals of one unit. -/
namespace Go.Proofs.YtiglekomfgfilaaGreatDoor.Fl
set_option linter.all false
open Go
def setn (s : Bool) (r : Dc.Res) : Dc.Res := ⟨s, r.l, r.x, r.e⟩
theorem sig_setn {s : Bool} {l : Dc.Bs} {x : Int} {k : Nat} {way : Int} (h : Dc.right l x = true) (hne : l ≠ []) (hk : 1 ≤ k ∧ k ≤ 100) (hw : way = 0 ∨ way = 2 ∨ way = 3) (hx : -40000 ≤ x ∧ x ≤ 40000) : Dc.sig s l x k way = setn s (Dc.sig false l x k way) := by
  have h1 := sig_ok (s := s) (k := k) (way := way) h hne hk (by omega) hx
  have h2 := sig_ok (s := false) (k := k) (way := way) h hne hk (by omega) hx
  obtain ⟨a, b⟩ := sig_n s false l x k way (by rcases hw with r | r | r <;> simp [r])
  exact res_eq ⟨h1.n, a, b, h1.e.trans h2.e.symm⟩
theorem says_setn (s : Bool) (r : Dc.Res) (b : Nat) : says (setn s r) b = says r b := rfl
theorem same_setn (s : Bool) (r t : Dc.Res) : same (setn s r) (setn s t) = same r t := rfl
theorem tryN_setn {s : Bool} {l : Dc.Bs} {x : Int} {b n : Nat} (h : Dc.right l x = true) (hne : l ≠ []) (hn : 1 ≤ n ∧ n ≤ 100) (hx : -40000 ≤ x ∧ x ≤ 40000) : tryN s l x b n = (tryN false l x b n).map (setn s) := by
  unfold tryN
  rw [sig_setn (s := s) (way := 0) h hne hn (by simp) hx, sig_setn (s := s) (way := 2) h hne hn (by simp) hx, sig_setn (s := s) (way := 3) h hne hn (by simp) hx]
  simp only [says_setn, same_setn]
  generalize Dc.sig false l x n 0 = r0
  generalize Dc.sig false l x n 2 = r2
  generalize Dc.sig false l x n 3 = r3
  by_cases c0 : says r0 b = true
  · simp [c0]
  · by_cases c2 : same r2 r0 = false ∧ says r2 b = true
    · simp [c0, c2]
    · by_cases c3 : same r3 r0 = false ∧ says r3 b = true
      · simp [c0, c2, c3]
      · simp [c0, c2, c3]
theorem search_setn {s : Bool} {l : Dc.Bs} {x : Int} {b : Nat} (h : Dc.right l x = true) (hne : l ≠ []) (hx : -40000 ≤ x ∧ x ≤ 40000) : ∀ (k n : Nat), 1 ≤ n → n + k ≤ 100 → search s l x b k n = setn s (search false l x b k n)
  | 0, n, h1, h2 => by rw [search, search]; exact sig_setn h hne (by omega) (by simp) hx
  | k + 1, n, h1, h2 => by
    rw [search, search, tryN_setn h hne (by omega) hx]
    cases tryN false l x b n with
    | some r => rfl
    | none => exact search_setn h hne hx k (n + 1) (by omega) (by omega)
theorem short_setn {s : Bool} {l : Dc.Bs} {x : Int} {b : Nat} (h : Dc.right l x = true) (hne : l ≠ []) (hx : -40000 ≤ x ∧ x ≤ 40000) : short s l x b = setn s (short false l x b) := search_setn h hne hx 16 1 (by omega) (by omega)
def scl (l : Dc.Bs) (x m : Int) : Nat := Dc.nv l * 10 ^ (x - m).toNat
theorem scl_vv {l : Dc.Bs} {x m : Int} (h1 : m ≤ x) (h2 : -200000 ≤ m) : Dc.vv l x = scl l x m * 10 ^ (m + Dc.lift).toNat := by
  have hlift : Dc.lift = 200000 := rfl
  show Dc.nv l * 10 ^ (x + Dc.lift).toNat = _
  rw [scl, Nat.mul_assoc, ← Nat.pow_add, show (x - m).toNat + (m + (Dc.lift : Int)).toNat = (x + (Dc.lift : Int)).toNat by omega]
def nearV (a b c : Nat) : Int := if 2 * b < a + c then 1 else if a + c < 2 * b then 2 else 0
theorem nearV_scale {a b c k : Nat} (hk : 0 < k) : nearV (a * k) (b * k) (c * k) = nearV a b c := by
  have e1 : 2 * (b * k) = 2 * b * k := (Nat.mul_assoc _ _ _).symm
  have e2 : a * k + c * k = (a + c) * k := (Nat.add_mul _ _ _).symm
  have i1 : (2 * (b * k) < a * k + c * k) ↔ 2 * b < a + c := by rw [e1, e2]; exact Nat.mul_lt_mul_right hk
  have i2 : (a * k + c * k < 2 * (b * k)) ↔ a + c < 2 * b := by rw [e1, e2]; exact Nat.mul_lt_mul_right hk
  unfold nearV
  simp only [i1, i2]
theorem nearV_scl {l0 l1 l2 : Dc.Bs} {x0 x1 x2 m : Int} (h0 : m ≤ x0) (h1 : m ≤ x1) (h2 : m ≤ x2) (hm : -200000 ≤ m) : nearV (scl l0 x0 m) (scl l1 x1 m) (scl l2 x2 m) = nearV (Dc.vv l0 x0) (Dc.vv l1 x1) (Dc.vv l2 x2) := by
  rw [scl_vv h0 hm, scl_vv h1 hm, scl_vv h2 hm, nearV_scale (Nat.pow_pos (by decide))]
theorem refN_by {l : Dc.Bs} {x : Int} {b n : Nat} : refN false l x b n =
    (if (says (Dc.sig false l x n 2) b && says (Dc.sig false l x n 3) b && !(same (Dc.sig false l x n 2) (Dc.sig false l x n 3))) = true then
      some (if nearV (Dc.vv (Dc.sig false l x n 2).l (Dc.sig false l x n 2).x) (Dc.vv l x) (Dc.vv (Dc.sig false l x n 3).l (Dc.sig false l x n 3).x) = 2 ∨ nearV (Dc.vv (Dc.sig false l x n 2).l (Dc.sig false l x n 2).x) (Dc.vv l x) (Dc.vv (Dc.sig false l x n 3).l (Dc.sig false l x n 3).x) = 0 ∧ evenN (Dc.sig false l x n 2).l n = false then Dc.sig false l x n 3 else Dc.sig false l x n 2)
    else if says (Dc.sig false l x n 3) b = true then some (Dc.sig false l x n 3)
    else if says (Dc.sig false l x n 2) b = true then some (Dc.sig false l x n 2)
    else none) := by
  unfold refN
  generalize Dc.sig false l x n 2 = r
  generalize Dc.sig false l x n 3 = t
  generalize Dc.vv l x = V
  have e : (Dc.vv r.l r.x + Dc.vv t.l t.x < 2 * V ∨ 2 * V = Dc.vv r.l r.x + Dc.vv t.l t.x ∧ evenN r.l n = false) ↔ (nearV (Dc.vv r.l r.x) V (Dc.vv t.l t.x) = 2 ∨ nearV (Dc.vv r.l r.x) V (Dc.vv t.l t.x) = 0 ∧ evenN r.l n = false) := by
    unfold nearV
    generalize Dc.vv r.l r.x = a
    generalize Dc.vv t.l t.x = d
    by_cases h1 : 2 * V < a + d
    · rw [if_pos h1]
      constructor
      · rintro (h | ⟨h, -⟩) <;> omega
      · rintro (h | ⟨h, -⟩) <;> exact absurd h (by decide)
    · rw [if_neg h1]
      by_cases h2 : a + d < 2 * V
      · rw [if_pos h2]
        exact ⟨fun _ => Or.inl rfl, fun _ => Or.inl h2⟩
      · rw [if_neg h2]
        constructor
        · rintro (h | ⟨-, h⟩)
          · exact absurd h h2
          · exact Or.inr ⟨rfl, h⟩
        · rintro (h | ⟨-, h⟩)
          · exact absurd h (by decide)
          · exact Or.inr ⟨by omega, h⟩
  have c : (says r b = true ∧ says t b = true ∧ same r t = false) ↔ (says r b && says t b && !(same r t)) = true := by
    simp only [Bool.and_eq_true, Bool.not_eq_true', and_assoc]
  simp only [e, c]
end Go.Proofs.YtiglekomfgfilaaGreatDoor.Fl

/- The reference of chapter 10: scaled, plus, cmp, nearer, even. -/
namespace Go.Proofs.YtiglekomfgfilaaGreatDoor
set_option maxRecDepth 100000
set_option maxHeartbeats 4000000
set_option linter.all false
open Go.RowKit
theorem r10_scaled_any (n : Bool) (s : ByteArray) (x m : Int) (k : Nat) (w : World) (hs : s.size ≤ 1100) (hd : Dc.allDig s.data.toList = true) (hk : x - m = (k : Int)) (hk2 : k ≤ 3000) (hx : -100000 ≤ x ∧ x ≤ 100000) :
    Calls Tryz.prog 68 #[.agg #[.bool n, .string s, .int .i64 x], .int .i64 m] w (GivesU (Na.limbs (Fl.scl s.data.toList x m)) w) := by
  have hb0 : Below w.heap.size w (w.alloc (Obj.cells #[Value.bool n, Value.string s, Value.int IntKind.i64 x] 27)) := (Below.refl _ _).alloc (Nat.le_refl _) _
  have dd0 := DecB.new w n s x
  have h1 := fun w1 => r8_digits_any s w1 (by omega) hd
  have h2 := fun w1 => r8_ten_any k w1 (by omega)
  have hN := Dc.nv_lt hd
  rw [bs_length] at hN
  have l1 : (Na.limbs (Dc.nv s.data.toList)).length ≤ 1100 := by
    have h := Na.ten_lt _ _ hN
    obtain ⟨q, hq⟩ : ∃ q, q = 1100 := ⟨_, rfl⟩
    have h2 := Na.limbs_of_bits (m := q) (Nat.lt_of_lt_of_le h (Nat.pow_le_pow_right (by decide) (by omega)))
    omega
  have l2 : (Na.limbs (10 ^ k)).length ≤ 3001 := Nat.le_trans (Na.limbs_of_bits (m := k + 1) (Nat.lt_of_le_of_lt (Na.ten_le k) (Nat.pow_lt_pow_right (by decide) (by omega)))) (by omega)
  have h3 := fun a c b d w1 (sa : Sl w1 a c (Na.limbs (Dc.nv s.data.toList))) (sb : Sl w1 b d (Na.limbs (10 ^ k))) => r1_times_any a c (Na.limbs (Dc.nv s.data.toList)) b d (Na.limbs (10 ^ k)) w1 sa sb (by omega) (by omega)
  rw [Na.val_limbs, Na.val_limbs] at h3
  have e : Fl.scl s.data.toList x m = Dc.nv s.data.toList * 10 ^ k := by rw [Fl.scl, hk, Int.toNat_natCast]
  rw [e]
  obtain ⟨L1, hL1⟩ : ∃ L, L = Na.limbs (Dc.nv s.data.toList) := ⟨_, rfl⟩
  obtain ⟨L2, hL2⟩ : ∃ L, L = Na.limbs (10 ^ k) := ⟨_, rfl⟩
  obtain ⟨L3, hL3⟩ : ∃ L, L = Na.limbs (Dc.nv s.data.toList * 10 ^ k) := ⟨_, rfl⟩
  rw [← hL1] at h1 h3
  rw [← hL2] at h2 h3
  rw [← hL3] at h3 ⊢
  obtain ⟨g, hg⟩ : ∃ g, g = w.heap.size := ⟨_, rfl⟩
  obtain ⟨X, hX⟩ : ∃ X, X = w.alloc (Obj.cells #[Value.bool n, Value.string s, Value.int IntKind.i64 x] 27) := ⟨_, rfl⟩
  rw [← hX] at hb0 dd0
  rw [← hg] at dd0
  obtain ⟨d0, d1, d2, dl⟩ := dd0
  have hwk : IntKind.i64.wrap (k : Int) = (k : Int) := IntWalk.i64_in _ (by omega)
  have H1 := Lib.hid h1; have H2 := Lib.hid h2; have H3 := Lib.hid h3
  have HBX := Lib.hid hb0
  have HG := Lib.hid hg; have HX := Lib.hid hX
  have hzX := hb0.size
  clear h1 h2 h3 hL1 hL2 hL3 hN l1 l2 e hb0 hg hX
  go_enter Tryz.func68, Tryz.ntmps68
  go_upto_region 1 with (fail)
  rw [← HX.out, ← HG.out]
  go_region_held3 (fun w' => w'.cell? ⟨g, 1, none⟩ = some (.string s) ∧ w'.cell? ⟨g, 2, none⟩ = some (.int .i64 x))
    (first | go_keep | (refine ⟨?_, ?_⟩ <;> (first | (rw [hr0_w1]; assumption) | (rw [hr0_w2]; assumption) | (rw [hr0_w3]; assumption))) | (refine ⟨?_, ?_⟩ <;> (first | (go_simp; done) | (simp [go_sem, *]; done))))
    (first
    | (go_at_call 48; (with_reducible refine (H1.out _).mono ?_); rintro e w1 ⟨a1, c1, rfl, s1, z1, hb1⟩; have hB1 : Below X.heap.size X w1 := Below.trans (by (repeat (first | exact Below.refl _ _ | assumption | refine Below.setCell ?_ (by first | omega | (simp <;> omega)) _ | refine Below.alloc ?_ (by first | omega | (simp <;> omega)) _ | refine Below.drew ?_ | refine below_drewN' ?_ _))) (hb1.mono (by first | omega | (simp <;> omega))); have hz1 := hB1.size; have hr0_w1 := fun o => hb1.cell (p := ⟨g, o, none⟩) (by (try simp only [zD, zN, zA, zS]); omega))
    | (go_at_call 51; (with_reducible refine (H2.out _).mono ?_); rintro e w2 ⟨a2, c2, rfl, s2, z2, -, hb2⟩; have hB2 : Below w1.heap.size w1 w2 := Below.trans (by (repeat (first | exact Below.refl _ _ | assumption | refine Below.setCell ?_ (by first | omega | (simp <;> omega)) _ | refine Below.alloc ?_ (by first | omega | (simp <;> omega)) _ | refine Below.drew ?_ | refine below_drewN' ?_ _))) (hb2.mono (by first | omega | (simp <;> omega))); have hz2 := hB2.size; have s12 := s1.on hB2; have hr0_w2 := fun o => hb2.cell (p := ⟨g, o, none⟩) (by (try simp only [zD, zN, zA, zS]); omega))
    | (go_at_call 50; (with_reducible refine (H3.out _ _ _ _ _ (s12.on (by (repeat (first | exact Below.refl _ _ | assumption | refine Below.setCell ?_ (by first | omega | (simp <;> omega)) _ | refine Below.alloc ?_ (by first | omega | (simp <;> omega)) _ | refine Below.drew ?_ | refine below_drewN' ?_ _)))) (s2.on (by (repeat (first | exact Below.refl _ _ | assumption | refine Below.setCell ?_ (by first | omega | (simp <;> omega)) _ | refine Below.alloc ?_ (by first | omega | (simp <;> omega)) _ | refine Below.drew ?_ | refine below_drewN' ?_ _))))).mono ?_); rintro e w3 ⟨a3, c3, rfl, s3, z3, r3, hb3⟩; have hB3 : Below w2.heap.size w2 w3 := Below.trans (by (repeat (first | exact Below.refl _ _ | assumption | refine Below.setCell ?_ (by first | omega | (simp <;> omega)) _ | refine Below.alloc ?_ (by first | omega | (simp <;> omega)) _ | refine Below.drew ?_ | refine below_drewN' ?_ _))) (hb3.mono (by first | omega | (simp <;> omega))); have hr0_w3 := fun o => hb3.cell (p := ⟨g, o, none⟩) (by (try simp only [zD, zN, zA, zS]); omega)))
  all_goals (try go_wp2)
  all_goals (
    have hBa : Below X.heap.size X w2 := hB1.trans (hB2.mono hz1)
    have hBb : Below X.heap.size X w3 := hBa.trans (hB3.mono hBa.size)
    have hBc : Below w.heap.size w w3 := HBX.out.trans (hBb.mono hzX)
    refine bodyPost_ret (v := .slice a3 L3.length c3) (by (simp [results, Tryz.results68, go_sem]; done)) rfl ⟨a3, c3, rfl, s3, z3, hBc⟩)
theorem r10_plus_any (A B : Nat) (a : Option Addr) (c : Nat) (b : Option Addr) (d : Nat) (w : World) (h : Sl w a c (Na.limbs A)) (h' : Sl w b d (Na.limbs B)) (hA : (Na.limbs A).length ≤ 20000) (hB : (Na.limbs B).length ≤ 20000) :
    Calls Tryz.prog 69 #[.slice a (Na.limbs A).length c, .slice b (Na.limbs B).length d] w (GivesU (Na.limbs (A + B)) w) := by
  have h1 := r1_plus_any a c (Na.limbs A) b d (Na.limbs B) w h h' (by omega) (by omega)
  rw [Na.val_limbs, Na.val_limbs] at h1
  obtain ⟨L1, hL1⟩ : ∃ L, L = Na.limbs A := ⟨_, rfl⟩
  obtain ⟨L2, hL2⟩ : ∃ L, L = Na.limbs B := ⟨_, rfl⟩
  obtain ⟨L3, hL3⟩ : ∃ L, L = Na.limbs (A + B) := ⟨_, rfl⟩
  rw [← hL1, ← hL2, ← hL3] at h1
  rw [← hL1, ← hL2, ← hL3]
  have H1 := Lib.hid h1
  clear h1 hL1 hL2 hL3 hA hB h h'
  go_enter Tryz.func69, Tryz.ntmps69
  go_wp2_with (first | (go_at_call 79; (with_reducible refine (H1.out).mono ?_); rintro e w1 ⟨a1, c1, rfl, s1, z1, -, hb1⟩))
  go_ret
  exact ⟨a1, c1, rfl, s1, z1, hb1⟩
theorem r10_cmp_any (A B : Nat) (a : Option Addr) (c : Nat) (b : Option Addr) (d : Nat) (w : World) (h : Sl w a c (Na.limbs A)) (z : a = none → c = 0) (h' : Sl w b d (Na.limbs B)) (z' : b = none → d = 0) (hA : (Na.limbs A).length ≤ 50000) (hB : (Na.limbs B).length ≤ 50000) :
    Calls Tryz.prog 70 #[.slice a (Na.limbs A).length c, .slice b (Na.limbs B).length d] w (RetB (.int .i64 (Na.cmp (Na.limbs A) (Na.limbs B))) w) := by
  have h1 := r1_cmp_any a c (Na.limbs A) b d (Na.limbs B) w h z h' z' (by omega) (by omega)
  obtain ⟨L1, hL1⟩ : ∃ L, L = Na.limbs A := ⟨_, rfl⟩
  obtain ⟨L2, hL2⟩ : ∃ L, L = Na.limbs B := ⟨_, rfl⟩
  rw [← hL1, ← hL2] at h1
  rw [← hL1, ← hL2]
  obtain ⟨q, hq⟩ : ∃ q, q = Na.cmp L1 L2 := ⟨_, rfl⟩
  rw [← hq] at h1 ⊢
  have H1 := Lib.hid h1
  clear h1 hL1 hL2 hA hB h h' hq
  go_enter Tryz.func70, Tryz.ntmps70
  go_wp2_with (first | (go_at_call 85; (with_reducible refine (H1.out).mono ?_); rintro e w1 ⟨rfl, hb1⟩))
  go_ret
  exact RetB.of rfl hb1
end Go.Proofs.YtiglekomfgfilaaGreatDoor

/- The reference of chapter 10: nearer, even. -/
namespace Go.Proofs.YtiglekomfgfilaaGreatDoor
set_option maxRecDepth 100000
set_option maxHeartbeats 8000000
set_option linter.all false
open Go.RowKit
theorem Fl.scl_len {l : Dc.Bs} {x m : Int} (hd : Dc.allDig l = true) : (Na.limbs (Fl.scl l x m)).length ≤ l.length + (x - m).toNat := by
  have h1 := Dc.nv_lt hd
  have h2 : Fl.scl l x m < 10 ^ (l.length + (x - m).toNat) := by
    rw [Fl.scl, Nat.pow_add]; exact Nat.mul_lt_mul_of_pos_right h1 (Nat.pow_pos (by decide))
  exact Na.limbs_of_bits (Nat.lt_of_lt_of_le (Na.ten_lt _ _ h2) (Nat.pow_le_pow_right (by decide) (by omega)))
theorem r10_nearer_any (n0 n1 n2 : Bool) (s0 s1 s2 : ByteArray) (x0 x1 x2 : Int) (w : World) (z0 : s0.size ≤ 1100) (z1 : s1.size ≤ 1100) (z2 : s2.size ≤ 1100)
    (d0 : Dc.allDig s0.data.toList = true) (d1 : Dc.allDig s1.data.toList = true) (d2 : Dc.allDig s2.data.toList = true) (b0 : -1400 ≤ x0 ∧ x0 ≤ 1400) (b1 : -1400 ≤ x1 ∧ x1 ≤ 1400) (b2 : -1400 ≤ x2 ∧ x2 ≤ 1400) :
    Calls Tryz.prog 36 #[.agg #[.bool n0, .string s0, .int .i64 x0], .agg #[.bool n1, .string s1, .int .i64 x1], .agg #[.bool n2, .string s2, .int .i64 x2]] w
      (RetB (.int .i64 (Fl.nearV (Dc.vv s0.data.toList x0) (Dc.vv s1.data.toList x1) (Dc.vv s2.data.toList x2))) w) := by
  obtain ⟨m1, hm1⟩ : ∃ m, m = min x1 x2 := ⟨_, rfl⟩
  obtain ⟨m, hm⟩ : ∃ m, m = min x0 m1 := ⟨_, rfl⟩
  have e1 : min x1 x2 = m1 := hm1.symm
  have e2 : min x0 m1 = m := hm.symm
  have q0 : m ≤ x0 := by omega
  have q1 : m ≤ x1 := by omega
  have q2 : m ≤ x2 := by omega
  have qm : -1400 ≤ m ∧ m ≤ 1400 := by omega
  rw [← Fl.nearV_scl q0 q1 q2 (by omega)]
  have h0 := fun w1 => r10_scaled_any n0 s0 x0 m (x0 - m).toNat w1 z0 d0 (by omega) (by omega) (by omega)
  have h1 := fun w1 => r10_scaled_any n1 s1 x1 m (x1 - m).toNat w1 z1 d1 (by omega) (by omega) (by omega)
  have h2 := fun w1 => r10_scaled_any n2 s2 x2 m (x2 - m).toNat w1 z2 d2 (by omega) (by omega) (by omega)
  have l0 := Fl.scl_len (x := x0) (m := m) d0
  have l1 := Fl.scl_len (x := x1) (m := m) d1
  have l2 := Fl.scl_len (x := x2) (m := m) d2
  rw [bs_length] at l0 l1 l2
  obtain ⟨A, hA⟩ : ∃ A, A = Fl.scl s0.data.toList x0 m := ⟨_, rfl⟩
  obtain ⟨B, hB⟩ : ∃ A, A = Fl.scl s1.data.toList x1 m := ⟨_, rfl⟩
  obtain ⟨C, hC⟩ : ∃ A, A = Fl.scl s2.data.toList x2 m := ⟨_, rfl⟩
  rw [← hA] at h0 l0
  rw [← hB] at h1 l1
  rw [← hC] at h2 l2
  rw [← hA, ← hB, ← hC]
  have p1 := fun a c w1 (sa : Sl w1 a c (Na.limbs B)) => r10_plus_any B B a c a c w1 sa sa (by omega) (by omega)
  have p2 := fun a c b d w1 (sa : Sl w1 a c (Na.limbs A)) (sb : Sl w1 b d (Na.limbs C)) => r10_plus_any A C a c b d w1 sa sb (by omega) (by omega)
  have lsum : ∀ P Q : Nat, (Na.limbs P).length ≤ 4200 → (Na.limbs Q).length ≤ 4200 → (Na.limbs (P + Q)).length ≤ 8401 := fun P Q hP hQ => by
    have a1 := Na.val_lt (Na.limbs P) (Na.ok_limbs P)
    have a2 := Na.val_lt (Na.limbs Q) (Na.ok_limbs Q)
    rw [Na.val_limbs] at a1 a2
    obtain ⟨q, hq⟩ : ∃ q, q = 4200 := ⟨_, rfl⟩
    have a3 := Nat.lt_of_lt_of_le a1 (Nat.pow_le_pow_right (show 0 < Na.B by decide) (show (Na.limbs P).length ≤ q by omega))
    have a4 := Nat.lt_of_lt_of_le a2 (Nat.pow_le_pow_right (show 0 < Na.B by decide) (show (Na.limbs Q).length ≤ q by omega))
    have := Na.len_sum a3 a4
    omega
  have lbb := lsum B B (by omega) (by omega)
  have lac := lsum A C (by omega) (by omega)
  have p3 := fun a c b d w1 (sa : Sl w1 a c (Na.limbs (B + B))) (za : a = none → c = 0) (sb : Sl w1 b d (Na.limbs (A + C))) (zb : b = none → d = 0) => r10_cmp_any (B + B) (A + C) a c b d w1 sa za sb zb (by omega) (by omega)
  have hv : (2 * B < A + C ∧ Na.cmp (Na.limbs (B + B)) (Na.limbs (A + C)) = -1 ∧ Fl.nearV A B C = 1) ∨ (A + C < 2 * B ∧ Na.cmp (Na.limbs (B + B)) (Na.limbs (A + C)) = 1 ∧ Fl.nearV A B C = 2) ∨ (Na.cmp (Na.limbs (B + B)) (Na.limbs (A + C)) = 0 ∧ Fl.nearV A B C = 0) := by
    unfold Fl.nearV
    by_cases c1 : 2 * B < A + C
    · exact Or.inl ⟨c1, Na.cmp_lt (by rw [Na.val_limbs, Na.val_limbs]; omega), if_pos c1⟩
    · by_cases c2 : A + C < 2 * B
      · exact Or.inr (Or.inl ⟨c2, Na.cmp_gt (by rw [Na.val_limbs, Na.val_limbs]; omega), by rw [if_neg c1, if_pos c2]⟩)
      · exact Or.inr (Or.inr ⟨Na.cmp_eq (by rw [Na.val_limbs, Na.val_limbs]; omega), by rw [if_neg c1, if_neg c2]⟩)
  obtain ⟨L0, hL0⟩ : ∃ L, L = Na.limbs A := ⟨_, rfl⟩
  obtain ⟨L1, hL1⟩ : ∃ L, L = Na.limbs B := ⟨_, rfl⟩
  obtain ⟨L2, hL2⟩ : ∃ L, L = Na.limbs C := ⟨_, rfl⟩
  obtain ⟨L3, hL3⟩ : ∃ L, L = Na.limbs (B + B) := ⟨_, rfl⟩
  obtain ⟨L4, hL4⟩ : ∃ L, L = Na.limbs (A + C) := ⟨_, rfl⟩
  obtain ⟨R, hR⟩ : ∃ R, R = Fl.nearV A B C := ⟨_, rfl⟩
  obtain ⟨cm, hcm⟩ : ∃ R, R = Na.cmp (Na.limbs (B + B)) (Na.limbs (A + C)) := ⟨_, rfl⟩
  rw [← hcm] at p3
  rw [← hcm, ← hR] at hv
  rw [← hL3, ← hL4] at p3
  rw [← hL1, ← hL3] at p1
  rw [← hL0, ← hL2, ← hL4] at p2
  rw [← hL0] at h0
  rw [← hL1] at h1
  rw [← hL2] at h2
  rw [← hR]
  have H0 := Lib.hid h0; have H1 := Lib.hid h1; have H2 := Lib.hid h2; have P1 := Lib.hid p1; have P2 := Lib.hid p2; have P3 := Lib.hid p3
  have hb0 : Below w.heap.size w (((w.alloc (Obj.cells #[.bool n0, .string s0, .int .i64 x0] 27)).alloc (Obj.cells #[.bool n1, .string s1, .int .i64 x1] 27)).alloc (Obj.cells #[.bool n2, .string s2, .int .i64 x2] 27)) := (((Below.refl _ _).alloc (Nat.le_refl _) _).alloc (by simp) _).alloc (by simp; omega) _
  have c0 : Cs (((w.alloc (Obj.cells #[.bool n0, .string s0, .int .i64 x0] 27)).alloc (Obj.cells #[.bool n1, .string s1, .int .i64 x1] 27)).alloc (Obj.cells #[.bool n2, .string s2, .int .i64 x2] 27)) w.heap.size (dcs n0 s0 x0) := ((Cs.new w (dcs n0 s0 x0) 27).alloc _).alloc _
  have c1 : Cs (((w.alloc (Obj.cells #[.bool n0, .string s0, .int .i64 x0] 27)).alloc (Obj.cells #[.bool n1, .string s1, .int .i64 x1] 27)).alloc (Obj.cells #[.bool n2, .string s2, .int .i64 x2] 27)) (w.heap.size + 1) (dcs n1 s1 x1) := by
    have h := Cs.new (w.alloc (Obj.cells #[.bool n0, .string s0, .int .i64 x0] 27)) (dcs n1 s1 x1) 27
    rw [World.size_alloc] at h; exact h.alloc _
  have c2 : Cs (((w.alloc (Obj.cells #[.bool n0, .string s0, .int .i64 x0] 27)).alloc (Obj.cells #[.bool n1, .string s1, .int .i64 x1] 27)).alloc (Obj.cells #[.bool n2, .string s2, .int .i64 x2] 27)) (w.heap.size + 1 + 1) (dcs n2 s2 x2) := by
    have h := Cs.new ((w.alloc (Obj.cells #[.bool n0, .string s0, .int .i64 x0] 27)).alloc (Obj.cells #[.bool n1, .string s1, .int .i64 x1] 27)) (dcs n2 s2 x2) 27
    rw [World.size_alloc, World.size_alloc] at h; exact h
  clear h0 h1 h2 p1 p2 p3 hL0 hL1 hL2 hL3 hL4 hR hcm lsum lbb lac hA hB hC l0 l1 l2 d0 d1 d2 hm hm1 q0 q1 q2
  go_enter Tryz.func36, Tryz.ntmps36
  go_upto_if 39 with (first
    | (go_at_call 68; (with_reducible refine (H0.out _).mono ?_); rintro e w1 ⟨a1, k1, rfl, s1', z1', hb1⟩; have hB1 := hb0.trans (hb1.mono hb0.size); have c1 := c1.on hb1; have c2 := c2.on hb1; have y0 := c1.get 0 rfl; have y1 := c1.get 1 rfl; have y2 := c1.get 2 rfl; have yl := c1.1)
    | (go_at_call 68; (with_reducible refine (H1.out _).mono ?_); rintro e w2 ⟨a2, k2, rfl, s2', z2', hb2⟩; have hB2 := hB1.trans (hb2.mono hB1.size); have c2 := c2.on hb2; have s1' := s1'.on hb2; have u0 := c2.get 0 rfl; have u1 := c2.get 1 rfl; have u2 := c2.get 2 rfl; have ul := c2.1)
    | (go_at_call 68; (with_reducible refine (H2.out _).mono ?_); rintro e w3 ⟨a3, k3, rfl, s3', z3', hb3⟩; have hB3 := hB2.trans (hb3.mono hB2.size); have s1' := s1'.on hb3; have s2' := s2'.on hb3)
    | (go_at_call 69; (with_reducible refine (P1.out _ _ _ s2').mono ?_); rintro e w4 ⟨a4, k4, rfl, s4', z4', hb4⟩; have hB4 := hB3.trans (hb4.mono hB3.size); have s1' := s1'.on hb4; have s3' := s3'.on hb4)
    | (go_at_call 69; (with_reducible refine (P2.out _ _ _ _ _ s1' s3').mono ?_); rintro e w5 ⟨a5, k5, rfl, s5', z5', hb5⟩; have hB5 := hB4.trans (hb5.mono hB4.size); have s4' := s4'.on hb5)
    | (go_at_call 70; (with_reducible refine (P3.out _ _ _ _ _ s4' z4' s5' z5').mono ?_); rintro e w6 ⟨rfl, hb6⟩; have hB6 := hB5.trans (hb6.mono hB5.size)))
  rcases hv with ⟨-, rfl, rfl⟩ | ⟨-, rfl, rfl⟩ | ⟨rfl, rfl⟩
  all_goals (
    go_wp2_with fail
    go_ret
    exact RetB.of rfl hB6)
end Go.Proofs.YtiglekomfgfilaaGreatDoor

/- The reference of chapter 10: even; Fifteen. -/
namespace Go.Proofs.YtiglekomfgfilaaGreatDoor
set_option maxRecDepth 100000
set_option maxHeartbeats 4000000
set_option linter.all false
open Go.RowKit
theorem r10_even_any (n : Bool) (s : ByteArray) (x : Int) (k : Nat) (w : World) (hs : s.size ≤ 1000000) (hk : 1 ≤ k ∧ k ≤ 1000) :
    Calls Tryz.prog 37 #[.agg #[.bool n, .string s, .int .i64 x], .int .i64 k] w (RetB (.bool (Fl.evenN s.data.toList k)) w) := by
  have hb0 : Below w.heap.size w (w.alloc (Obj.cells #[Value.bool n, Value.string s, Value.int IntKind.i64 x] 27)) := (Below.refl _ _).alloc (Nat.le_refl _) _
  by_cases h : s.size < k
  · have hv : Fl.evenN s.data.toList k = true := by rw [Fl.evenN, bs_length, if_pos h]
    rw [hv]
    go_enter Tryz.func37, Tryz.ntmps37
    go_wp2_with fail
    go_ret
    exact RetB.of rfl hb0
  · have hp : s.size - 1 < s.size := by omega
    have hv : Fl.evenN s.data.toList k = decide ((s[s.size - 1]'hp).toNat % 2 = 0) := by
      rw [Fl.evenN, bs_length, if_neg h]
      congr 2
      rw [List.getD_eq_getElem?_getD, bs_getElem? s (s.size - 1) hp]; rfl
    rw [hv]
    obtain ⟨i, hi⟩ : ∃ i, i = s.size - 1 := ⟨_, rfl⟩
    have hii : (s.size : Int) - 1 = (i : Int) := by omega
    have hil : i < s.size := by omega
    have e : s[s.size - 1]'hp = s[i]'hil := by congr 1; exact hi.symm
    rw [e]
    obtain ⟨c, hc⟩ : ∃ c, c = s[i]'hil := ⟨_, rfl⟩
    rw [← hc]
    clear hv e hi hp
    go_enter Tryz.func37, Tryz.ntmps37
    go_wp2_with fail
    go_ret
    exact RetB.of (congrArg Value.bool (by rw [hc, Bool.eq_iff_iff]; simp only [beq_iff_eq, decide_eq_true_eq]; omega)) hb0
theorem r10_fifteen_any (x : Nat) (W : World) (hx : x < 18446744073709551616) :
    Calls Tryz.prog 14 #[.int .u64 x] W (RetB (drv (Fl.sig x 15 1)) W) := by
  have hd := fun w1 => r9_sig_any x 15 1 hx (by decide) w1
  unfold Dc.Res.val at hd
  unfold drv dag
  obtain ⟨rn, hrn⟩ : ∃ q, q = (Fl.sig x 15 1).n := ⟨_, rfl⟩
  obtain ⟨rS, hrS⟩ : ∃ q : ByteArray, q = ⟨(Fl.sig x 15 1).l.toArray⟩ := ⟨_, rfl⟩
  obtain ⟨rX, hrX⟩ : ∃ q, q = (Fl.sig x 15 1).x := ⟨_, rfl⟩
  obtain ⟨re, hre⟩ : ∃ q, q = (Fl.sig x 15 1).e := ⟨_, rfl⟩
  rw [← hrn, ← hrS, ← hrX, ← hre] at hd
  rw [← hrn, ← hrS, ← hrX]
  have hb0 : Below W.heap.size W (W.alloc (Obj.cells #[.bool false, .string ⟨#[]⟩, .int .i64 0] 27)) := (Below.refl _ _).alloc (Nat.le_refl _) _
  have f0 := CF.new W (dcs false ⟨#[]⟩ 0) 27
  have HD := Lib.hid hd
  clear hd hrn hrS hrX hre
  go_enter Tryz.func14, Tryz.ntmps14
  go_upto_region 2 with (first
    | (go_at_call 38; (with_reducible refine (HD.out _).mono ?_); rintro e w1 ⟨rfl, hb1⟩; have f1 := (f0.on hb1).alloc (.cells #[.bool rn, .string rS, .int .i64 rX] 27); have hB1 := (hb0.trans (hb1.mono (by simp))).alloc (by have := hb1.size; simp at this; omega) (.cells #[.bool rn, .string rS, .int .i64 rX] 27)))
  have d1 := Cs.new w1 (dcs rn rS rX) 27
  change Cs (w1.alloc (.cells #[.bool rn, .string rS, .int .i64 rX] 27)) _ _ at d1
  obtain ⟨V, hV⟩ : ∃ V, V = w1.alloc (.cells #[.bool rn, .string rS, .int .i64 rX] 27) := ⟨_, rfl⟩
  rw [← hV] at f1 hB1 d1 ⊢
  have r0 := f1.1.get 0 rfl; have r1 := f1.1.get 1 rfl; have r2 := f1.1.get 2 rfl; have rl := f1.1.1; have z0 := f1.2 0; have z1 := f1.2 1; have z2 := f1.2 2
  have y0 := d1.get 0 rfl; have y1 := d1.get 1 rfl; have y2 := d1.get 2 rfl; have yl := d1.1
  have HF1 := Lib.hid f1; have HB1 := Lib.hid hB1
  clear hV f1 hB1 d1 hb1 f0 hb0
  go_wp2_with fail
  obtain ⟨Z, hZ⟩ : ∃ Z, Z = V.setCells W.heap.size 0 (dcs rn rS rX) := ⟨_, rfl⟩
  change bodyPost _ _ _ _ _ (V.setCells W.heap.size 0 (dcs rn rS rX))
  have D : Cs Z W.heap.size (dcs rn rS rX) := by rw [hZ]; exact Cs.stored _ HF1.out.1 rfl
  have bZ : Below W.heap.size W Z := by rw [hZ]; exact below_setCells (Nat.le_refl _) _ _ HB1.out
  rw [← hZ]
  clear hZ r0 r1 r2 z0 z1 z2 rl y0 y1 y2 yl
  have u0 := D.get 0 rfl; have u1 := D.get 1 rfl; have u2 := D.get 2 rfl; have ul := D.1
  refine bodyPost_ret (v := .agg #[.bool rn, .string rS, .int .i64 rX]) (by (simp [results, Tryz.results14, go_sem, u0, u1, u2]; done)) rfl ⟨rfl, bZ⟩
end Go.Proofs.YtiglekomfgfilaaGreatDoor
