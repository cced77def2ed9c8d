/- The Writer in the program: Fifteen, Print. -/
import Derived.Test.YtiglekomfgfilaaGreatDoorZ29
import Derived.Test.YtiglekomfgfilaaGreatDoorZ27
import Derived.Test.YtiglekomfgfilaaGreatDoorZ28
import Derived.Deep.RegionHeld3
import Derived.Test.YtiglekomfgfilaaGreatDoorZ22
import Derived.Test.YtiglekomfgfilaaGreatDoorZ21
namespace Go.Proofs.YtiglekomfgfilaaGreatDoor
set_option maxRecDepth 100000
set_option maxHeartbeats 4000000
set_option linter.all false
open Go.RowKit
theorem sh_fifteen_any (v : Option Addr) (x : Nat) (W : World) (ht : Tab W) (hx : x < 18446744073709551616) :
    Calls Tryz.prog 11 #[.pointer v, .int .u64 x] W (RetB (.tuple #[drv (Fl.sig x 15 1), .int .i64 (Fl.sig x 15 1).e]) W) := by
  have hd := fun w1 (hb : Below W.heap.size W w1) => ex_sig_any x 15 1 hx (by decide) w1 (ht.below hb)
  rw [drv_val] at hd
  unfold drv dag at hd ⊢
  obtain ⟨rn, hrn⟩ : ∃ q, q = (Fl.sig x 15 1).n := ⟨_, rfl⟩
  obtain ⟨rS, hrS⟩ : ∃ q : ByteArray, q = ⟨(Fl.sig x 15 1).l.toArray⟩ := ⟨_, rfl⟩
  obtain ⟨rX, hrX⟩ : ∃ q, q = (Fl.sig x 15 1).x := ⟨_, rfl⟩
  obtain ⟨re, hre⟩ : ∃ q, q = (Fl.sig x 15 1).e := ⟨_, rfl⟩
  rw [← hrn, ← hrS, ← hrX, ← hre] at hd ⊢
  have hb0 : Below W.heap.size W (W.alloc (Obj.cells #[.bool false, .string ⟨#[]⟩, .int .i64 0] 27)) := (Below.refl _ _).alloc (Nat.le_refl _) _
  have f0 := CF.new W (dcs false ⟨#[]⟩ 0) 27
  have HD := Lib.hid hd
  clear hd hrn hrS hrX hre ht
  go_enter Tryz.func11, Tryz.ntmps11
  go_wp2_with (first
    | (go_at_call 33; (with_reducible refine (HD.out _ hb0).mono ?_); rintro e w1 ⟨rfl, hb1⟩; have f1 := f0.on hb1; have hB1 := hb0.trans (hb1.mono (by simp)); have r0 := f1.1.get 0 rfl; have r1 := f1.1.get 1 rfl; have r2 := f1.1.get 2 rfl; have rl := f1.1.1; have z0 := f1.2 0; have z1 := f1.2 1; have z2 := f1.2 2))
  obtain ⟨Z, hZ⟩ : ∃ Z, Z = w1.setCells W.heap.size 0 (dcs rn rS rX) := ⟨_, rfl⟩
  change bodyPost _ _ _ _ _ (w1.setCells W.heap.size 0 (dcs rn rS rX))
  have D : Cs Z W.heap.size (dcs rn rS rX) := by rw [hZ]; exact Cs.stored _ f1.1 rfl
  have bZ : Below W.heap.size W Z := by rw [hZ]; exact below_setCells (Nat.le_refl _) _ _ hB1
  rw [← hZ]
  clear hZ r0 r1 r2
  have u0 := D.get 0 rfl; have u1 := D.get 1 rfl; have u2 := D.get 2 rfl; have ul := D.1
  refine bodyPost_ret (v := .tuple #[.agg #[.bool rn, .string rS, .int .i64 rX], .int .i64 re]) (by (simp [results, Tryz.results11, go_sem, u0, u1, u2]; done)) rfl ⟨rfl, bZ⟩
def TabB (b : Nat) (w : World) : Prop := ∃ W0, Tab W0 ∧ W0.heap.size ≤ b ∧ Below W0.heap.size W0 w
theorem TabB.tab {b : Nat} {w : World} (h : TabB b w) : Tab w := by obtain ⟨W0, h1, h2, h3⟩ := h; exact h1.below h3
theorem TabB.on {b : Nat} {w w' : World} (h : TabB b w) (hb : Below w.heap.size w w') : TabB b w' := by
  obtain ⟨W0, h1, h2, h3⟩ := h; exact ⟨W0, h1, h2, h3.trans (hb.mono h3.size)⟩
theorem TabB.onl {b : Nat} {w w' : World} (h : TabB b w) (ho : Onl b w w') : TabB b w' := by
  obtain ⟨W0, h1, h2, h3⟩ := h; exact ⟨W0, h1, h2, h3.trans (ho.up h2)⟩
theorem Fl.name_kind {x : Nat} (hx : x < 18446744073709551616) (h : Fl.wname x = []) : Fl.kind x < 3 := by
  have hk := Fl.kind_le x
  rcases Nat.lt_or_ge (Fl.kind x) 3 with h3 | h3
  · exact h3
  · exfalso
    rcases (show Fl.kind x = 3 ∨ Fl.kind x = 4 by omega) with h4 | h4
    · rcases Fl.inf_kind hx h4 with e | e <;> rw [e] at h <;> exact absurd h (by decide)
    · rw [Fl.wname, if_pos h4] at h; exact absurd h (by decide)
theorem sh_print_any (v b x : Nat) (W : World) (ht : TabB b W) (hx : x < 18446744073709551616) (hW : Wtr W v b) :
    Calls Tryz.prog 17 #[.pointer (some ⟨v, 0, none⟩), .int .u64 x] W (RetR b (.string ⟨(Fl.wprint x).toArray⟩) W) := by
  have hn := fun w1 => sh_name_any x w1 hx
  by_cases h : Fl.wname x = []
  · have hv : Fl.wprint x = Dc.print (Fl.wdec x).n (Fl.wdec x).l (Fl.wdec x).x := by rw [Fl.wprint, if_neg (by rw [h]; simp)]
    obtain ⟨k1, k2, k3, k4, -⟩ := Fl.wdec_fine x (Fl.name_kind hx h)
    have hxb := Dc.right_exp k3
    rw [h] at hn
    have hd := sh_dec_any v b x W ht.tab hx hW
    rw [k1] at hd
    unfold drv dag at hd
    have hp := fun w1 (ht1 : Tab w1) => d_print_any (Fl.wdec x).n ⟨(Fl.wdec x).l.toArray⟩ (Fl.wdec x).x w1 (by rw [← bs_length, bs_mk]; omega) (by omega) ht1
    rw [bs_mk, ← hv] at hp
    obtain ⟨rn, hrn⟩ : ∃ q, q = (Fl.wdec x).n := ⟨_, rfl⟩
    obtain ⟨rS, hrS⟩ : ∃ q : ByteArray, q = ⟨(Fl.wdec x).l.toArray⟩ := ⟨_, rfl⟩
    obtain ⟨rX, hrX⟩ : ∃ q, q = (Fl.wdec x).x := ⟨_, rfl⟩
    obtain ⟨P, hP⟩ : ∃ q : ByteArray, q = ⟨(Fl.wprint x).toArray⟩ := ⟨_, rfl⟩
    rw [← hrn, ← hrS, ← hrX] at hd hp
    rw [← hP] at hp ⊢
    have hbl := hW.rd.lt
    have HN := Lib.hid hn; have HD := Lib.hid hd; have HP := Lib.hid hp
    have HT := Lib.hid (fun (w1 : World) (ho : Onl b W w1) => ((ht.onl ho).tab : Tab w1))
    clear hn hd hp hrn hrS hrX hP hv k1 k2 k3 k4 hxb h hW ht
    go_enter Tryz.func17, Tryz.ntmps17
    go_wp2_with (first
      | (go_at_call 39; (with_reducible refine (HN.out _).mono ?_); rintro e w' ⟨rfl, rfl⟩)
      | (go_at_call 10; (with_reducible refine (HD.out).mono ?_); rintro e w1 ⟨rfl, ho1, rd1⟩; have hBA : Below w1.heap.size w1 (w1.alloc (Obj.cells #[.bool rn, .string rS, .int .i64 rX] 27)) := (Below.refl _ _).alloc (Nat.le_refl _) _; have oA := ho1.more hbl hBA; have rA := rd1.on hBA; have tA := HT.out _ oA)
      | (go_at_call 42; (with_reducible refine (HP.out _ tA).mono ?_); rintro e w2 ⟨rfl, hb2⟩; have o2 := oA.more hbl hb2; have r2 := rA.on hb2))
    go_ret
    exact ⟨rfl, o2, r2⟩
  · have hv : Fl.wprint x = Fl.wname x := by rw [Fl.wprint, if_pos h]
    rw [hv]
    obtain ⟨P, hP⟩ : ∃ q : ByteArray, q = ⟨(Fl.wname x).toArray⟩ := ⟨_, rfl⟩
    have hemp := isEmpty_of_pos (s := P) (by
      rw [hP, ← bs_length, bs_mk]; exact List.length_pos_iff.2 h)
    rw [← hP] at hn ⊢
    have HN := Lib.hid hn
    have hO := Onl.refl b W
    have hrd := hW.rd
    clear hn hP hv h
    go_enter Tryz.func17, Tryz.ntmps17
    go_wp2_with (first | (go_at_call 39; (with_reducible refine (HN.out _).mono ?_); rintro e w' ⟨rfl, rfl⟩))
    go_ret
    exact ⟨rfl, hO, hrd⟩
end Go.Proofs.YtiglekomfgfilaaGreatDoor

/- The Writer in the program: Parse. -/
namespace Go.Proofs.YtiglekomfgfilaaGreatDoor
set_option maxRecDepth 100000
set_option maxHeartbeats 8000000
set_option linter.all false
open Go.RowKit
def wprs (s : ByteArray) (v b : Nat) (gs : Nat) (W : World) (iv : Value) (wr : World) : Prop :=
  (iv = .int .i64 0 ∨ iv = .int .i64 1 ∧ s.data.toList ≠ Fl.nanS ∨ iv = .int .i64 2 ∧ s.data.toList ≠ Fl.nanS ∧ s.data.toList ≠ Fl.infS ∨ iv = .int .i64 3 ∧ s.data.toList ≠ Fl.nanS ∧ s.data.toList ≠ Fl.infS ∧ s.data.toList ≠ Fl.ninfS) ∧
  Hid (Cs wr gs [.int .u64 9221120237041090560, .int .u64 9218868437227405312, .int .u64 18442240474082181120]) ∧ Hid (Below W.heap.size W wr)
theorem str_eq_true {s : ByteArray} {l : Dc.Bs} (h : s.data.toList = l) : (s.toList == (⟨l.toArray⟩ : ByteArray).toList) = true := by
  rw [toList_data, toList_data, bs_mk, h]; exact beq_self_eq_true _
theorem str_eq_false {s : ByteArray} {l : Dc.Bs} (h : s.data.toList ≠ l) : (s.toList == (⟨l.toArray⟩ : ByteArray).toList) = false := by
  rw [toList_data, toList_data, bs_mk]; exact beq_eq_false_iff_ne.2 h
theorem sh_parse_any (v b : Nat) (s : ByteArray) (W : World) (ht : TabB b W) (hs : s.size ≤ 1000000) (hW : Wtr W v b) :
    Calls Tryz.prog 15 #[.pointer (some ⟨v, 0, none⟩), .string s] W (RetR b (.tuple #[.int .u64 ((Fl.wparse s.data.toList).1 : Nat), .int .i64 (Fl.wparse s.data.toList).2]) W) := by
  have n1 := fun w1 => sh_name_any 9221120237041090560 w1 (by decide)
  have n2 := fun w1 => sh_name_any 9218868437227405312 w1 (by decide)
  have n3 := fun w1 => sh_name_any 18442240474082181120 w1 (by decide)
  rw [show Fl.wname 9221120237041090560 = Fl.nanS by decide +kernel] at n1
  rw [show Fl.wname 9218868437227405312 = Fl.infS by decide +kernel] at n2
  rw [show Fl.wname 18442240474082181120 = Fl.ninfS by decide +kernel] at n3
  obtain ⟨S1, hS1⟩ : ∃ S : ByteArray, S = ⟨Fl.nanS.toArray⟩ := ⟨_, rfl⟩
  obtain ⟨S2, hS2⟩ : ∃ S : ByteArray, S = ⟨Fl.infS.toArray⟩ := ⟨_, rfl⟩
  obtain ⟨S3, hS3⟩ : ∃ S : ByteArray, S = ⟨Fl.ninfS.toArray⟩ := ⟨_, rfl⟩
  rw [← hS1] at n1
  rw [← hS2] at n2
  rw [← hS3] at n3
  have e1t : s.data.toList = Fl.nanS → (s.toList == S1.toList) = true := fun h => by rw [hS1]; exact str_eq_true h
  have e1f : s.data.toList ≠ Fl.nanS → (s.toList == S1.toList) = false := fun h => by rw [hS1]; exact str_eq_false h
  have e2t : s.data.toList = Fl.infS → (s.toList == S2.toList) = true := fun h => by rw [hS2]; exact str_eq_true h
  have e2f : s.data.toList ≠ Fl.infS → (s.toList == S2.toList) = false := fun h => by rw [hS2]; exact str_eq_false h
  have e3t : s.data.toList = Fl.ninfS → (s.toList == S3.toList) = true := fun h => by rw [hS3]; exact str_eq_true h
  have e3f : s.data.toList ≠ Fl.ninfS → (s.toList == S3.toList) = false := fun h => by rw [hS3]; exact str_eq_false h
  have hp := fun w1 (h : Rdr w1 b) => re_parse_any b s w1 hs h
  have hpr := fun x w1 (hx : x < 18446744073709551616) (h1 : TabB b w1) (h2 : Wtr w1 v b) => sh_print_any v b x w1 h1 hx h2
  have hbl := hW.rd.lt
  obtain ⟨R, hR⟩ : ∃ R, R = Fl.wparse s.data.toList := ⟨_, rfl⟩
  rw [← hR]
  have HR := Lib.hid hR
  have HF := Lib.hid (fun w' (h : Below W.heap.size W w') => (⟨hW.rd.onl h, hW.rd.on h⟩ : Onl b W w' ∧ Rdr w' b))
  have HW := Lib.hid (fun w' (h : Below W.heap.size W w') => hW.on h)
  have HTB := Lib.hid (fun w' (h : Below W.heap.size W w') => ht.on h)
  have N1 := Lib.hid (fun w1 => (show Calls Tryz.prog 39 #[.int .u64 9221120237041090560] w1 (Ret0 (.string S1) w1) from n1 w1))
  have N2 := Lib.hid (fun w1 => (show Calls Tryz.prog 39 #[.int .u64 9218868437227405312] w1 (Ret0 (.string S2) w1) from n2 w1))
  have N3 := Lib.hid (fun w1 => (show Calls Tryz.prog 39 #[.int .u64 18442240474082181120] w1 (Ret0 (.string S3) w1) from n3 w1))
  have E1T := Lib.hid e1t; have E1F := Lib.hid e1f; have E2T := Lib.hid e2t; have E2F := Lib.hid e2f; have E3T := Lib.hid e3t; have E3F := Lib.hid e3f
  have HP := Lib.hid hp; have HPR := Lib.hid hpr
  have c0 := Cs.new W [.int .u64 9221120237041090560, .int .u64 9218868437227405312, .int .u64 18442240474082181120] 22
  have hb0 : Below W.heap.size W (W.alloc (.cells #[.int .u64 9221120237041090560, .int .u64 9218868437227405312, .int .u64 18442240474082181120] 22)) := (Below.refl _ _).alloc (Nat.le_refl _) _
  have HC0 := Lib.hid (show Cs (W.alloc (.cells #[.int .u64 9221120237041090560, .int .u64 9218868437227405312, .int .u64 18442240474082181120] 22)) W.heap.size [.int .u64 9221120237041090560, .int .u64 9218868437227405312, .int .u64 18442240474082181120] from c0)
  have HB0 := Lib.hid hb0
  clear hR n1 n2 n3 hS1 hS2 hS3 e1t e1f e2t e2f e3t e3f hp hpr hW ht c0 hb0
  go_enter Tryz.func15, Tryz.ntmps15
  go_wp2_with fail
  go_loopw [12] (wprs s v b W.heap.size W) (fun iv _ => 3 - (intOf iv).toNat)
  case atStart => exact ⟨Or.inl rfl, HC0, HB0⟩
  case round =>
    clear HC0 HB0
    obtain ⟨hcase, HC, HB⟩ := hrel
    have g0 := HC.out.get 0 rfl; have g1 := HC.out.get 1 rfl; have g2 := HC.out.get 2 rfl; have gl := HC.out.1
    rcases hcase with rfl | ⟨rfl, m1⟩ | ⟨rfl, m1, m2⟩ | ⟨rfl, m1, m2, m3⟩
    · by_cases h : s.data.toList = Fl.nanS
      · have hb := E1T.out h
        have hv : R = (9221120237041090560, 0) := by rw [HR.out, Fl.wparse, if_pos h]
        subst hv
        clear h
        go_wp2_with (first | (go_at_call 39; (with_reducible refine (N1.out _).mono ?_); rintro e w' ⟨rfl, rfl⟩))
        refine bodyPost_ret (v := .tuple #[.int .u64 9221120237041090560, .int .i64 0]) (by (simp [results, Tryz.results15, go_sem]; done)) rfl ⟨rfl, HF.out _ HB.out⟩
      · have hb := E1F.out h
        have HM := Lib.hid h
        clear h
        go_wp2_with (first | (go_at_call 39; (with_reducible refine (N1.out _).mono ?_); rintro e w' ⟨rfl, rfl⟩))
        go_roundw
        case rel => exact ⟨Or.inr (Or.inl ⟨rfl, HM.out⟩), HC, HB⟩
        case measure => simp [intOf]
    · have M1 := Lib.hid m1
      clear m1
      by_cases h : s.data.toList = Fl.infS
      · have hb := E2T.out h
        have hv : R = (9218868437227405312, 0) := by rw [HR.out, Fl.wparse, if_neg M1.out, if_pos h]
        subst hv
        clear h
        go_wp2_with (first | (go_at_call 39; (with_reducible refine (N2.out _).mono ?_); rintro e w' ⟨rfl, rfl⟩))
        refine bodyPost_ret (v := .tuple #[.int .u64 9218868437227405312, .int .i64 0]) (by (simp [results, Tryz.results15, go_sem]; done)) rfl ⟨rfl, HF.out _ HB.out⟩
      · have hb := E2F.out h
        have HM := Lib.hid h
        clear h
        go_wp2_with (first | (go_at_call 39; (with_reducible refine (N2.out _).mono ?_); rintro e w' ⟨rfl, rfl⟩))
        go_roundw
        case rel => exact ⟨Or.inr (Or.inr (Or.inl ⟨rfl, M1.out, HM.out⟩)), HC, HB⟩
        case measure => simp [intOf]
    · have M1 := Lib.hid m1; have M2 := Lib.hid m2
      clear m1 m2
      by_cases h : s.data.toList = Fl.ninfS
      · have hb := E3T.out h
        have hv : R = (18442240474082181120, 0) := by rw [HR.out, Fl.wparse, if_neg M1.out, if_neg M2.out, if_pos h]
        subst hv
        clear h
        go_wp2_with (first | (go_at_call 39; (with_reducible refine (N3.out _).mono ?_); rintro e w' ⟨rfl, rfl⟩))
        refine bodyPost_ret (v := .tuple #[.int .u64 18442240474082181120, .int .i64 0]) (by (simp [results, Tryz.results15, go_sem]; done)) rfl ⟨rfl, HF.out _ HB.out⟩
      · have hb := E3F.out h
        have HM := Lib.hid h
        clear h
        go_wp2_with (first | (go_at_call 39; (with_reducible refine (N3.out _).mono ?_); rintro e w' ⟨rfl, rfl⟩))
        go_roundw
        case rel => exact ⟨Or.inr (Or.inr (Or.inr ⟨rfl, M1.out, M2.out, HM.out⟩)), HC, HB⟩
        case measure => simp [intOf]
    · have hw : Fl.wparse s.data.toList = (if (Fl.readS s.data.toList).2 ≠ 0 then (0, (Fl.readS s.data.toList).2) else if Fl.wprint (Fl.readS s.data.toList).1 ≠ s.data.toList then (0, 3) else ((Fl.readS s.data.toList).1, 0)) := by
        rw [Fl.wparse, if_neg m1, if_neg m2, if_neg m3]
      have hlt := Fl.readS_lt s.data.toList
      have hRe := HR.out
      rw [hw] at hRe
      have HP2 := HP.out
      obtain ⟨Q, hQ⟩ : ∃ Q, Q = (Fl.readS s.data.toList).1 := ⟨_, rfl⟩
      obtain ⟨E, hE⟩ : ∃ Q, Q = (Fl.readS s.data.toList).2 := ⟨_, rfl⟩
      rw [← hQ, ← hE] at hRe HP2
      rw [← hQ] at hlt
      have hEr : E = 0 ∨ E = 2 ∨ E = 3 := by
        rw [hE]; unfold Fl.readS
        split
        · exact Or.inl rfl
        · rename_i hne
          rcases Dc.parse_fine s.data.toList with ⟨q, -⟩ | ⟨q, q1, q2⟩
          · exact absurd q hne
          · rw [q2]; exact Or.inr q1
      have HPP := Lib.hid HP2
      have PR := Lib.hid (fun w1 (h1 : TabB b w1) (h2 : Wtr w1 v b) => HPR.out Q w1 hlt h1 h2)
      have hW1 := HW.out _ HB.out
      have wc := hW1.cell; have wl := hW1.lt; have wr' := hW1.rd
      clear HP2 hw hQ hE m1 m2 m3 HR N1 N2 N3 E1T E1F E2T E2F E3T E3F HPR HP
      have hex : (E ≠ 0 ∧ R = (0, E)) ∨ (E = 0 ∧ Fl.wprint Q ≠ s.data.toList ∧ R = (0, 3)) ∨ (E = 0 ∧ Fl.wprint Q = s.data.toList ∧ R = (Q, 0)) := by
        by_cases c : E ≠ 0
        · rw [if_pos c] at hRe; exact Or.inl ⟨c, hRe⟩
        · rw [if_neg c] at hRe
          have c0 : E = 0 := Decidable.not_not.1 c
          by_cases c2 : Fl.wprint Q ≠ s.data.toList
          · rw [if_pos c2] at hRe; exact Or.inr (Or.inl ⟨c0, c2, hRe⟩)
          · rw [if_neg c2] at hRe; exact Or.inr (Or.inr ⟨c0, Decidable.not_not.1 c2, hRe⟩)
      clear hRe
      rcases hex with ⟨c, rfl⟩ | ⟨rfl, c, rfl⟩ | ⟨rfl, c, rfl⟩
      · have hE2 : E = 2 ∨ E = 3 := by omega
        clear c hEr
        rcases hE2 with rfl | rfl
        all_goals (
          go_wp2_with (first | (go_at_call 40; (with_reducible refine (HPP.out _ wr').mono ?_); rintro e w1 ⟨rfl, ho1, rd1⟩))
          refine bodyPost_ret (v := .tuple #[.int .u64 0, .int .i64 _]) (by (simp [results, Tryz.results15, go_sem]; done)) rfl ⟨rfl, (HF.out _ HB.out).1.trans ho1, rd1⟩)
      · have hne : (P : ByteArray) → P = ⟨(Fl.wprint Q).toArray⟩ → (P.toList == s.toList) = false := fun P h => by
          rw [h, toList_data, toList_data, bs_mk]; exact beq_eq_false_iff_ne.2 c
        obtain ⟨P, hP⟩ : ∃ P : ByteArray, P = ⟨(Fl.wprint Q).toArray⟩ := ⟨_, rfl⟩
        have hb := hne P hP
        have PR2 := PR.out
        rw [← hP] at PR2
        have PR3 := Lib.hid PR2
        clear PR PR2 hP hne c
        go_wp2_with (first
          | (go_at_call 40; (with_reducible refine (HPP.out _ wr').mono ?_); rintro e w1 ⟨rfl, ho1, rd1⟩; have t1 := (HTB.out _ HB.out).onl ho1; have W1 := hW1.onl ho1 rd1)
          | (go_at_call 17; (with_reducible refine (PR3.out _ t1 W1).mono ?_); rintro e w2 ⟨rfl, ho2, rd2⟩))
        refine bodyPost_ret (v := .tuple #[.int .u64 0, .int .i64 3]) (by (simp [results, Tryz.results15, go_sem]; done)) rfl ⟨rfl, ((HF.out _ HB.out).1.trans ho1).trans ho2, rd2⟩
      · have heq : (P : ByteArray) → P = ⟨(Fl.wprint Q).toArray⟩ → (P.toList == s.toList) = true := fun P h => by
          rw [h, toList_data, toList_data, bs_mk, c]; exact beq_self_eq_true _
        obtain ⟨P, hP⟩ : ∃ P : ByteArray, P = ⟨(Fl.wprint Q).toArray⟩ := ⟨_, rfl⟩
        have hb := heq P hP
        have PR2 := PR.out
        rw [← hP] at PR2
        have PR3 := Lib.hid PR2
        clear PR PR2 hP heq c
        go_wp2_with (first
          | (go_at_call 40; (with_reducible refine (HPP.out _ wr').mono ?_); rintro e w1 ⟨rfl, ho1, rd1⟩; have t1 := (HTB.out _ HB.out).onl ho1; have W1 := hW1.onl ho1 rd1)
          | (go_at_call 17; (with_reducible refine (PR3.out _ t1 W1).mono ?_); rintro e w2 ⟨rfl, ho2, rd2⟩))
        refine bodyPost_ret (v := .tuple #[.int .u64 (Q : Nat), .int .i64 0]) (by (simp [results, Tryz.results15, go_sem]; done)) rfl ⟨rfl, ((HF.out _ HB.out).1.trans ho1).trans ho2, rd2⟩
end Go.Proofs.YtiglekomfgfilaaGreatDoor

/- Plain Lean: chapter 10's examples. -/
namespace Go.Proofs.YtiglekomfgfilaaGreatDoor.Fl
set_option linter.all false
open Go
theorem shown10_p0 : wprint 4591870180066957722 = [48, 46, 49] := by decide +kernel
theorem shown10_q0 : wparse [48, 46, 49] = (4591870180066957722, 0) := by decide +kernel
theorem shown10_p1 : wprint 9223372036854775808 = [45, 48] := by decide +kernel
theorem shown10_q1 : wparse [45, 48] = (9223372036854775808, 0) := by decide +kernel
theorem shown10_p2 : wprint 4950912855330343670 = [49, 101, 43, 50, 51] := by decide +kernel
theorem shown10_q2 : wparse [49, 101, 43, 50, 51] = (4950912855330343670, 0) := by decide +kernel
theorem shown10_p3 : wprint 1 = [53, 101, 45, 51, 50, 52] := by decide +kernel
theorem shown10_q3 : wparse [53, 101, 45, 51, 50, 52] = (1, 0) := by decide +kernel
theorem shown10_p4 : wprint 4845873199050653696 = [57, 48, 48, 55, 49, 57, 57, 50, 53, 52, 55, 52, 48, 57, 57, 50] := by decide +kernel
theorem shown10_q4 : wparse [57, 48, 48, 55, 49, 57, 57, 50, 53, 52, 55, 52, 48, 57, 57, 50] = (4845873199050653696, 0) := by decide +kernel
theorem shown10_p5 : wprint 9218868437227405311 = [49, 46, 55, 57, 55, 54, 57, 51, 49, 51, 52, 56, 54, 50, 51, 49, 53, 55, 101, 43, 51, 48, 56] := by decide +kernel
theorem shown10_q5 : wparse [49, 46, 55, 57, 55, 54, 57, 51, 49, 51, 52, 56, 54, 50, 51, 49, 53, 55, 101, 43, 51, 48, 56] = (9218868437227405311, 0) := by decide +kernel
theorem shown10_p6 : wprint 9218868437227405312 = [105, 110, 102] := by decide +kernel
theorem shown10_q6 : wparse [105, 110, 102] = (9218868437227405312, 0) := by decide +kernel
theorem shown10_a : wparse [48, 46, 49, 48] = (0, 3) := by decide +kernel
theorem shown10_b : wparse [49, 101, 50, 51] = (0, 3) := by decide +kernel
theorem shown10_c : wparse [110, 97, 110] = (9221120237041090560, 0) := by decide +kernel
theorem shown10_d : sig 4599075939470750516 15 1 = ⟨false, [51], -1, 0⟩ := res_eq (by decide +kernel)
theorem shown10_e : sig 4599676419421066581 15 1 = ⟨false, [51, 51, 51, 51, 51, 51, 51, 51, 51, 51, 51, 51, 51, 51, 51], -15, 0⟩ := res_eq (by decide +kernel)
theorem shown10_f : sig 4877398396442247168 15 1 = ⟨false, [49, 49, 53, 50, 57, 50, 49, 53, 48, 52, 54, 48, 54, 56, 53], 4, 0⟩ := res_eq (by decide +kernel)
theorem shown10_g : wdec 9221120237041090560 = ⟨false, [], 0, 11⟩ := res_eq (by decide +kernel)
end Go.Proofs.YtiglekomfgfilaaGreatDoor.Fl

/- Chapter 10: what the laws ask of the program's own helpers; the examples hold: shown() returns true. -/
namespace Go.Proofs.YtiglekomfgfilaaGreatDoor
set_option maxRecDepth 100000
set_option maxHeartbeats 8000000
set_option linter.all false
open Go.RowKit
attribute [local go_sem] dc_guard
structure St10 (w0 : World) (v b : Nat) (w : World) : Prop where
  tb : TabB b w
  wt : Wtr w v b
  be : Below w0.heap.size w0 w
  le : w0.heap.size ≤ b
theorem St10.on {w0 w w' : World} {v b : Nat} (h : St10 w0 v b w) (hb : Below w.heap.size w w') : St10 w0 v b w' := ⟨h.tb.on hb, h.wt.on hb, h.be.trans (hb.mono h.be.size), h.le⟩
theorem St10.onl {w0 w w' : World} {v b : Nat} (h : St10 w0 v b w) (ho : Onl b w w') (hr : Rdr w' b) : St10 w0 v b w' := ⟨h.tb.onl ho, h.wt.onl ho hr, h.be.trans (ho.up h.le), h.le⟩
theorem l10_dec_any (s : ByteArray) (x : Int) (w : World) : Calls Tryz.prog 26 #[.string s, .int .i64 x] w (RetB (dag false s x) w) := by
  unfold dag
  go_enter Tryz.func26, Tryz.ntmps26
  go_wp2_with fail
  refine bodyPost_ret (v := .agg #[.bool false, .string s, .int .i64 x]) (by (simp [results, Tryz.results26, go_sem]; done)) rfl (RetB.of rfl ((Below.refl _ _).alloc (Nat.le_refl _) _))
def s10L : List Value := [.int .u64 4591870180066957722, .int .u64 9223372036854775808, .int .u64 4950912855330343670, .int .u64 1, .int .u64 4845873199050653696, .int .u64 9218868437227405311, .int .u64 9218868437227405312]
def s10W : List Value := [.string ⟨#[48, 46, 49]⟩, .string ⟨#[45, 48]⟩, .string ⟨#[49, 101, 43, 50, 51]⟩, .string ⟨#[53, 101, 45, 51, 50, 52]⟩, .string ⟨#[57, 48, 48, 55, 49, 57, 57, 50, 53, 52, 55, 52, 48, 57, 57, 50]⟩, .string ⟨#[49, 46, 55, 57, 55, 54, 57, 51, 49, 51, 52, 56, 54, 50, 51, 49, 53, 55, 101, 43, 51, 48, 56]⟩, .string ⟨#[105, 110, 102]⟩]
theorem s10_at : ∀ k : Nat, k < 7 → ∃ (v : Nat) (T : ByteArray), s10L[k]? = some (.int .u64 (v : Nat)) ∧ s10W[k]? = some (.string T) ∧ T.size ≤ 100 ∧ v < 18446744073709551616 ∧ Fl.wprint v = T.data.toList ∧ Fl.wparse T.data.toList = (v, 0)
  | 0, _ => ⟨4591870180066957722, ⟨#[48, 46, 49]⟩, rfl, rfl, by decide, by decide, Fl.shown10_p0, Fl.shown10_q0⟩
  | 1, _ => ⟨9223372036854775808, ⟨#[45, 48]⟩, rfl, rfl, by decide, by decide, Fl.shown10_p1, Fl.shown10_q1⟩
  | 2, _ => ⟨4950912855330343670, ⟨#[49, 101, 43, 50, 51]⟩, rfl, rfl, by decide, by decide, Fl.shown10_p2, Fl.shown10_q2⟩
  | 3, _ => ⟨1, ⟨#[53, 101, 45, 51, 50, 52]⟩, rfl, rfl, by decide, by decide, Fl.shown10_p3, Fl.shown10_q3⟩
  | 4, _ => ⟨4845873199050653696, ⟨#[57, 48, 48, 55, 49, 57, 57, 50, 53, 52, 55, 52, 48, 57, 57, 50]⟩, rfl, rfl, by decide, by decide, Fl.shown10_p4, Fl.shown10_q4⟩
  | 5, _ => ⟨9218868437227405311, ⟨#[49, 46, 55, 57, 55, 54, 57, 51, 49, 51, 52, 56, 54, 50, 51, 49, 53, 55, 101, 43, 51, 48, 56]⟩, rfl, rfl, by decide, by decide, Fl.shown10_p5, Fl.shown10_q5⟩
  | 6, _ => ⟨9218868437227405312, ⟨#[105, 110, 102]⟩, rfl, rfl, by decide, by decide, Fl.shown10_p6, Fl.shown10_q6⟩
  | n + 7, h => absurd h (by omega)
def sh10Loop (w0 : World) (v b L K : Nat) (iv : Value) (wr : World) : Prop := ∃ k : Nat, k ≤ 7 ∧ iv = .int .i64 k ∧ Hid (St10 w0 v b wr) ∧ Hid (Cs wr L s10L) ∧ Hid (Cs wr K s10W)
theorem l10_shown_any (w : World) (ht : Tab w) : Calls Tryz.prog 8 #[] w (RetB (.bool true) w) := by
  have HN := Lib.hid (fun w1 => sh_new_any w1)
  have HP := Lib.hid (fun v b s w1 (hs : s.size ≤ 100) (h : St10 w v b w1) => sh_parse_any v b s w1 h.tb (by omega) h.wt)
  have HQ := Lib.hid (fun v b x w1 (hx : x < 18446744073709551616) (h : St10 w v b w1) => sh_print_any v b x w1 h.tb hx h.wt)
  have HT := Lib.hid ht
  clear ht
  go_enter Tryz.func8, Tryz.ntmps8
  go_upto_region 4 with (first | (go_at_call 9; (with_reducible refine (HN.out _).mono ?_); rintro e w1 ⟨v, b, rfl, gv, gb, wt1, hb1⟩))
  have st1 : St10 w v b w1 := ⟨⟨w, HT.out, gb, hb1⟩, wt1, hb1, gb⟩
  go_wp2_with fail
  have hL0 : Cs ((w1.alloc (.cells s10L.toArray 22)).alloc (.cells s10W.toArray 9)) w1.heap.size s10L := (Cs.new w1 s10L 22).alloc _
  have hW0 : Cs ((w1.alloc (.cells s10L.toArray 22)).alloc (.cells s10W.toArray 9)) (w1.heap.size + 1) s10W := by
    have h := Cs.new (w1.alloc (.cells s10L.toArray 22)) s10W 9
    rw [World.size_alloc] at h; exact h
  have hB0 : Below w1.heap.size w1 ((w1.alloc (.cells s10L.toArray 22)).alloc (.cells s10W.toArray 9)) := ((Below.refl _ _).alloc (Nat.le_refl _) _).alloc (by simp) _
  have hS0 := st1.on hB0
  have hbl := wt1.rd.lt
  have hvl := wt1.lt
  obtain ⟨X, hX⟩ : ∃ X, X = ((w1.alloc (.cells s10L.toArray 22)).alloc (.cells s10W.toArray 9)) := ⟨_, rfl⟩
  change Code.wp _ _ _ _ ((w1.alloc (.cells s10L.toArray 22)).alloc (.cells s10W.toArray 9))
  rw [← hX] at hL0 hW0 hS0 ⊢
  obtain ⟨L, hL⟩ : ∃ L, L = w1.heap.size := ⟨_, rfl⟩
  obtain ⟨K, hK⟩ : ∃ K, K = w1.heap.size + 1 := ⟨_, rfl⟩
  rw [← hK] at hW0
  rw [← hL] at hL0
  rw [← hK, ← hL]
  have hLb : L ≠ b ∧ K ≠ b := by omega
  obtain ⟨hLb, hKb⟩ := hLb
  have HL0 := Lib.hid hL0; have HW0 := Lib.hid hW0; have HS0 := Lib.hid hS0
  clear hX hL hK hL0 hW0 hS0 hB0 st1 wt1 hb1 hbl hvl HN HT
  go_loopw [4] (sh10Loop w v b L K) (fun iv _ => 7 - (intOf iv).toNat)
  case atStart => exact ⟨0, by omega, rfl, HS0, HL0, HW0⟩
  case round =>
    clear HS0 HL0 HW0
    obtain ⟨k, hk, rfl, HS, HL, HW⟩ := hrel
    by_cases hlt : k < 7
    · obtain ⟨x, T, e1, e2, hT, hx, hp, hq⟩ := s10_at k hlt
      have c1 := HL.out.get k e1
      have c2 := HW.out.get k e2
      have hpq := fun w1 (h : St10 w v b w1) => HP.out v b T w1 hT h
      rw [hq] at hpq
      have hpr := fun w1 (h : St10 w v b w1) => HQ.out v b x w1 hx h
      rw [hp] at hpr
      have HPT := Lib.hid hpq
      have HPR := Lib.hid (show ∀ w1, St10 w v b w1 → Calls Tryz.prog 17 #[.pointer (some ⟨v, 0, none⟩), .int .u64 x] w1 (RetR b (.string T) w1) from hpr)
      have hll := HL.out.1; have hwl := HW.out.1
      have E1 := Lib.hid e1; have E2 := Lib.hid e2
      clear hp hq e1 e2 hpq hpr HP HQ
      go_upto_region 10 with (first | (go_at_call 15; (with_reducible refine (HPT.out _ HS.out).mono ?_); rintro e w2 ⟨rfl, ho2, rd2⟩; have S2 := HS.out.onl ho2 rd2; have L2 := HL.out.onl1 ho2 hLb; have K2 := HW.out.onl1 ho2 hKb))
      have b1 := L2.get k E1.out
      have b2 := K2.get k E2.out
      have bl1 := L2.1; have bl2 := K2.1
      have HS2 := Lib.hid S2; have HL2 := Lib.hid L2; have HK2 := Lib.hid K2
      clear S2 L2 K2 c1 c2 hll hwl HS HL HW ho2 rd2 HPT
      go_region_held3 (fun w' => w'.cell? ⟨L, k, none⟩ = some (.int .u64 (x : Nat)) ∧ w'.cell? ⟨K, k, none⟩ = some (.string T))
        (first | go_keep | (refine ⟨?_, ?_⟩ <;> (first | (rw [hr0_w3]; assumption) | (rw [hr1_w3]; assumption))) | (refine ⟨?_, ?_⟩ <;> (first | (go_simp; done) | (simp [go_sem, *]; done))))
        (first
        | (go_at_call 17; (with_reducible refine (HPR.out _ (HS2.out.on (by (repeat (first | exact Below.refl _ _ | assumption | refine Below.setCell ?_ (by first | omega | (simp <;> omega)) _ | refine Below.alloc ?_ (by first | omega | (simp <;> omega)) _ | refine Below.drew ?_ | refine below_drewN' ?_ _))))).mono ?_); rintro e w3 ⟨rfl, ho3, rd3⟩; have S3 := (HS2.out.on (by (repeat (first | exact Below.refl _ _ | assumption | refine Below.setCell ?_ (by first | omega | (simp <;> omega)) _ | refine Below.alloc ?_ (by first | omega | (simp <;> omega)) _ | refine Below.drew ?_ | refine below_drewN' ?_ _)))).onl ho3 rd3; have hr0_w3 := fun o => ho3.cell (k := L) (o := o) hLb (by (try simp only [zD, zN, zA, zS]); omega); have hr1_w3 := fun o => ho3.cell (k := K) (o := o) hKb (by (try simp only [zD, zN, zA, zS]); omega)))
      have hL3 := (HL2.out.on (by (repeat (first | exact Below.refl _ _ | assumption | refine Below.setCell ?_ (by first | omega | (simp <;> omega)) _ | refine Below.alloc ?_ (by first | omega | (simp <;> omega)) _ | refine Below.drew ?_ | refine below_drewN' ?_ _)))).onl1 ho3 hLb
      have hK3 := (HK2.out.on (by (repeat (first | exact Below.refl _ _ | assumption | refine Below.setCell ?_ (by first | omega | (simp <;> omega)) _ | refine Below.alloc ?_ (by first | omega | (simp <;> omega)) _ | refine Below.drew ?_ | refine below_drewN' ?_ _)))).onl1 ho3 hKb
      go_wp2
      go_roundw
      case rel => exact ⟨k + 1, by omega, by go_num, Lib.hid S3, Lib.hid hL3, Lib.hid hK3⟩
      case measure => simp [intOf]; omega
    · obtain rfl : k = 7 := by omega
      clear hlt hk HL HW HQ
      obtain ⟨T1, hT1⟩ : ∃ T : ByteArray, T = ⟨#[51]⟩ := ⟨_, rfl⟩
      obtain ⟨T2, hT2⟩ : ∃ T : ByteArray, T = ⟨#[51, 51, 51, 51, 51, 51, 51, 51, 51, 51, 51, 51, 51, 51, 51]⟩ := ⟨_, rfl⟩
      obtain ⟨T3, hT3⟩ : ∃ T : ByteArray, T = ⟨#[49, 49, 53, 50, 57, 50, 49, 53, 48, 52, 54, 48, 54, 56, 53]⟩ := ⟨_, rfl⟩
      have P1 := Lib.hid (fun w1 (h : St10 w v b w1) => (show Calls Tryz.prog 15 #[.pointer (some ⟨v, 0, none⟩), .string ⟨#[48, 46, 49, 48]⟩] w1 (RetR b (.tuple #[.int .u64 0, .int .i64 3]) w1) from by
        have q := HP.out v b ⟨#[48, 46, 49, 48]⟩ w1 (by decide) h
        rw [show (⟨#[48, 46, 49, 48]⟩ : ByteArray).data.toList = [48, 46, 49, 48] from rfl, Fl.shown10_a] at q; exact q))
      have P2 := Lib.hid (fun w1 (h : St10 w v b w1) => (show Calls Tryz.prog 15 #[.pointer (some ⟨v, 0, none⟩), .string ⟨#[49, 101, 50, 51]⟩] w1 (RetR b (.tuple #[.int .u64 0, .int .i64 3]) w1) from by
        have q := HP.out v b ⟨#[49, 101, 50, 51]⟩ w1 (by decide) h
        rw [show (⟨#[49, 101, 50, 51]⟩ : ByteArray).data.toList = [49, 101, 50, 51] from rfl, Fl.shown10_b] at q; exact q))
      have P3 := Lib.hid (fun w1 (h : St10 w v b w1) => (show Calls Tryz.prog 15 #[.pointer (some ⟨v, 0, none⟩), .string ⟨#[110, 97, 110]⟩] w1 (RetR b (.tuple #[.int .u64 9221120237041090560, .int .i64 0]) w1) from by
        have q := HP.out v b ⟨#[110, 97, 110]⟩ w1 (by decide) h
        rw [show (⟨#[110, 97, 110]⟩ : ByteArray).data.toList = [110, 97, 110] from rfl, Fl.shown10_c] at q; exact q))
      have F1 := Lib.hid (fun w1 (h : St10 w v b w1) => (show Calls Tryz.prog 11 #[.pointer (some ⟨v, 0, none⟩), .int .u64 4599075939470750516] w1 (RetB (.tuple #[.agg #[.bool false, .string T1, .int .i64 (-1)], .int .i64 0]) w1) from by
        have q := sh_fifteen_any (some ⟨v, 0, none⟩) 4599075939470750516 w1 h.tb.tab (by decide)
        rw [Fl.shown10_d] at q; rw [hT1]; exact q))
      have F2 := Lib.hid (fun w1 (h : St10 w v b w1) => (show Calls Tryz.prog 11 #[.pointer (some ⟨v, 0, none⟩), .int .u64 4599676419421066581] w1 (RetB (.tuple #[.agg #[.bool false, .string T2, .int .i64 (-15)], .int .i64 0]) w1) from by
        have q := sh_fifteen_any (some ⟨v, 0, none⟩) 4599676419421066581 w1 h.tb.tab (by decide)
        rw [Fl.shown10_e] at q; rw [hT2]; exact q))
      have F3 := Lib.hid (fun w1 (h : St10 w v b w1) => (show Calls Tryz.prog 11 #[.pointer (some ⟨v, 0, none⟩), .int .u64 4877398396442247168] w1 (RetB (.tuple #[.agg #[.bool false, .string T3, .int .i64 4], .int .i64 0]) w1) from by
        have q := sh_fifteen_any (some ⟨v, 0, none⟩) 4877398396442247168 w1 h.tb.tab (by decide)
        rw [Fl.shown10_f] at q; rw [hT3]; exact q))
      have DN := Lib.hid (fun w1 (h : St10 w v b w1) => (show Calls Tryz.prog 10 #[.pointer (some ⟨v, 0, none⟩), .int .u64 9221120237041090560] w1 (RetR b (.tuple #[.agg #[.bool false, .string ⟨#[]⟩, .int .i64 0], .int .i64 11]) w1) from by
        have q := sh_dec_any v b 9221120237041090560 w1 h.tb.tab (by decide) h.wt
        rw [Fl.shown10_g] at q; exact q))
      have D1 := Lib.hid (fun w1 => (show Calls Tryz.prog 26 #[.string ⟨#[51]⟩, .int .i64 (-1)] w1 (RetB (.agg #[.bool false, .string T1, .int .i64 (-1)]) w1) from by rw [hT1]; exact l10_dec_any _ _ w1))
      have D2 := Lib.hid (fun w1 => (show Calls Tryz.prog 26 #[.string ⟨#[51, 51, 51, 51, 51, 51, 51, 51, 51, 51, 51, 51, 51, 51, 51]⟩, .int .i64 (-15)] w1 (RetB (.agg #[.bool false, .string T2, .int .i64 (-15)]) w1) from by rw [hT2]; exact l10_dec_any _ _ w1))
      have D3 := Lib.hid (fun w1 => (show Calls Tryz.prog 26 #[.string ⟨#[49, 49, 53, 50, 57, 50, 49, 53, 48, 52, 54, 48, 54, 56, 53]⟩, .int .i64 4] w1 (RetB (.agg #[.bool false, .string T3, .int .i64 4]) w1) from by rw [hT3]; exact l10_dec_any _ _ w1))
      have q1 : ∀ w1, (binOp .eql 27 (.agg #[.bool false, .string T1, .int .i64 (-1)]) (.agg #[.bool false, .string T1, .int .i64 (-1)])).run Tryz.prog w1 = .ok (.bool true) w1 := fun w1 => by rw [dc_eql]; simp [dcEq]
      have q2 : ∀ w1, (binOp .eql 27 (.agg #[.bool false, .string T2, .int .i64 (-15)]) (.agg #[.bool false, .string T2, .int .i64 (-15)])).run Tryz.prog w1 = .ok (.bool true) w1 := fun w1 => by rw [dc_eql]; simp [dcEq]
      have q3 : ∀ w1, (binOp .eql 27 (.agg #[.bool false, .string T3, .int .i64 4]) (.agg #[.bool false, .string T3, .int .i64 4])).run Tryz.prog w1 = .ok (.bool true) w1 := fun w1 => by rw [dc_eql]; simp [dcEq]
      clear hT1 hT2 hT3 HP
      go_upto_region 19 with (first
        | (go_at_call 15; (with_reducible refine (P1.out _ HS.out).mono ?_); rintro e w4 ⟨rfl, ho4, rd4⟩; have S4 := Lib.hid (HS.out.onl ho4 rd4))
        | (go_at_call 15; (with_reducible refine (P2.out _ S4.out).mono ?_); rintro e w5 ⟨rfl, ho5, rd5⟩; have S5 := Lib.hid (S4.out.onl ho5 rd5))
        | (go_at_call 15; (with_reducible refine (P3.out _ S5.out).mono ?_); rintro e w6 ⟨rfl, ho6, rd6⟩; have S6 := Lib.hid (S5.out.onl ho6 rd6))
        | (go_at_call 11; (with_reducible refine (F1.out _ S6.out).mono ?_); rintro e w7 ⟨rfl, hb7⟩; have S7 := Lib.hid ((S6.out.on hb7).on ((Below.refl _ w7).alloc (Nat.le_refl _) (.cells #[.bool false, .string T1, .int .i64 (-1)] 27))); have C7 := Cs.new w7 (dcs false T1 (-1)) 27; have z7 := (S6.out.on hb7).wt.rd.lt)
        | (go_at_call 11; (with_reducible refine (F2.out _ S7.out).mono ?_); rintro e w8 ⟨rfl, hb8⟩; have S8 := Lib.hid ((S7.out.on hb8).on ((Below.refl _ w8).alloc (Nat.le_refl _) (.cells #[.bool false, .string T2, .int .i64 (-15)] 27))); have C8 := Cs.new w8 (dcs false T2 (-15)) 27; have E8 := (C7.on hb8).alloc (.cells #[.bool false, .string T2, .int .i64 (-15)] 27); have z8 := (S7.out.on hb8).wt.rd.lt)
        | (go_at_call 11; (with_reducible refine (F3.out _ S8.out).mono ?_); rintro e w9 ⟨rfl, hb9⟩; have S9 := Lib.hid ((S8.out.on hb9).on ((Below.refl _ w9).alloc (Nat.le_refl _) (.cells #[.bool false, .string T3, .int .i64 4] 27))); have C9 := Cs.new w9 (dcs false T3 4) 27; have E9 := (C8.on hb9).alloc (.cells #[.bool false, .string T3, .int .i64 4] 27); have G9 := (E8.on hb9).alloc (.cells #[.bool false, .string T3, .int .i64 4] 27); have z9 := (S8.out.on hb9).wt.rd.lt)
        | (go_at_call 10; (with_reducible refine (DN.out _ S9.out).mono ?_); rintro e w10 ⟨rfl, ho10, rd10⟩; have S10 := Lib.hid ((S9.out.onl ho10 rd10).on ((Below.refl _ w10).alloc (Nat.le_refl _) (.cells #[.bool false, .string ⟨#[]⟩, .int .i64 0] 27))); have C10 := (C9.onl1 ho10 (by omega)).alloc (.cells #[.bool false, .string ⟨#[]⟩, .int .i64 0] 27); have E10 := (E9.onl1 ho10 (by omega)).alloc (.cells #[.bool false, .string ⟨#[]⟩, .int .i64 0] 27); have G10 := (G9.onl1 ho10 (by omega)).alloc (.cells #[.bool false, .string ⟨#[]⟩, .int .i64 0] 27)))
      have hB := S10.out.be
      obtain ⟨g1, hg1⟩ : ∃ g, g = w7.heap.size := ⟨_, rfl⟩
      obtain ⟨g2, hg2⟩ : ∃ g, g = w8.heap.size := ⟨_, rfl⟩
      obtain ⟨g3, hg3⟩ : ∃ g, g = w9.heap.size := ⟨_, rfl⟩
      obtain ⟨X, hX⟩ : ∃ X, X = w10.alloc (.cells #[.bool false, .string ⟨#[]⟩, .int .i64 0] 27) := ⟨_, rfl⟩
      rw [← hX] at hB C10 E10 G10 ⊢
      rw [← hg1] at G10
      rw [← hg2] at E10
      rw [← hg3] at C10
      rw [← hg1, ← hg2, ← hg3]
      have x0 := G10.get 0 rfl; have x1 := G10.get 1 rfl; have x2 := G10.get 2 rfl; have xl := G10.1
      have y0 := E10.get 0 rfl; have y1 := E10.get 1 rfl; have y2 := E10.get 2 rfl; have yl := E10.1
      have v0 := C10.get 0 rfl; have v1 := C10.get 1 rfl; have v2 := C10.get 2 rfl; have vl := C10.1
      have hzX := hB.size
      have HBX := Lib.hid hB
      clear hX hg1 hg2 hg3 hB C10 E10 G10 S4 S5 S6 S7 S8 S9 S10 C7 C8 C9 E8 E9 G9 z7 z8 z9 ho4 ho5 ho6 hb7 hb8 hb9 ho10 rd4 rd5 rd6 rd10 P1 P2 P3 F1 F2 F3 DN HS
      go_region_held3 (fun w' => w'.cell? ⟨g1, 0, none⟩ = some (.bool false) ∧ w'.cell? ⟨g1, 1, none⟩ = some (.string T1) ∧ w'.cell? ⟨g1, 2, none⟩ = some (.int .i64 (-1)) ∧ w'.cell? ⟨g2, 0, none⟩ = some (.bool false) ∧ w'.cell? ⟨g2, 1, none⟩ = some (.string T2) ∧ w'.cell? ⟨g2, 2, none⟩ = some (.int .i64 (-15)) ∧ w'.cell? ⟨g3, 0, none⟩ = some (.bool false) ∧ w'.cell? ⟨g3, 1, none⟩ = some (.string T3) ∧ w'.cell? ⟨g3, 2, none⟩ = some (.int .i64 4))
        (first | go_keep | (refine ⟨?_, ?_, ?_, ?_, ?_, ?_, ?_, ?_, ?_⟩ <;> (first | (rw [hr0_wA]; assumption) | (rw [hr1_wA]; assumption) | (rw [hr2_wA]; assumption) | (rw [hr0_wB]; assumption) | (rw [hr1_wB]; assumption) | (rw [hr2_wB]; assumption) | (rw [hr0_wC]; assumption) | (rw [hr1_wC]; assumption) | (rw [hr2_wC]; assumption))) | (refine ⟨?_, ?_, ?_, ?_, ?_, ?_, ?_, ?_, ?_⟩ <;> (first | (go_simp; done) | (simp [go_sem, *]; done))))
        (first
        | (go_at_call 26; (with_reducible refine (D1.out _).mono ?_); rintro e wA ⟨rfl, hb_wA⟩; have hB_wA : Below (X).heap.size (X) wA := Below.trans (by (repeat (first | exact Below.refl _ _ | assumption | refine Below.setCell ?_ (by first | omega | (simp <;> omega)) _ | refine Below.alloc ?_ (by first | omega | (simp <;> omega)) _ | refine Below.drew ?_ | refine below_drewN' ?_ _))) (hb_wA.mono (by first | omega | (simp <;> omega))); obtain ⟨hc_wA, hf_wA⟩ := bcell hb_wA; have hz_wA := hb_wA.size; (try simp only [zD, zN, zA, zS] at hz_wA); have hk := own6 hb_wA (g1) (by (try simp only [zD, zN, zA, zS]); omega); obtain ⟨hl0_wA, hm0_wA, hn0_wA, hq0_wA, hr0_wA, hg0_wA⟩ := hk; have hk := own6 hb_wA (g2) (by (try simp only [zD, zN, zA, zS]); omega); obtain ⟨hl1_wA, hm1_wA, hn1_wA, hq1_wA, hr1_wA, hg1_wA⟩ := hk; have hk := own6 hb_wA (g3) (by (try simp only [zD, zN, zA, zS]); omega); obtain ⟨hl2_wA, hm2_wA, hn2_wA, hq2_wA, hr2_wA, hg2_wA⟩ := hk)
        | (go_at_call 26; (with_reducible refine (D2.out _).mono ?_); rintro e wB ⟨rfl, hb_wB⟩; have hB_wB : Below (X).heap.size (X) wB := Below.trans (by (repeat (first | exact Below.refl _ _ | assumption | refine Below.setCell ?_ (by first | omega | (simp <;> omega)) _ | refine Below.alloc ?_ (by first | omega | (simp <;> omega)) _ | refine Below.drew ?_ | refine below_drewN' ?_ _))) (hb_wB.mono (by first | omega | (simp <;> omega))); obtain ⟨hc_wB, hf_wB⟩ := bcell hb_wB; have hz_wB := hb_wB.size; (try simp only [zD, zN, zA, zS] at hz_wB); have hk := own6 hb_wB (g1) (by (try simp only [zD, zN, zA, zS]); omega); obtain ⟨hl0_wB, hm0_wB, hn0_wB, hq0_wB, hr0_wB, hg0_wB⟩ := hk; have hk := own6 hb_wB (g2) (by (try simp only [zD, zN, zA, zS]); omega); obtain ⟨hl1_wB, hm1_wB, hn1_wB, hq1_wB, hr1_wB, hg1_wB⟩ := hk; have hk := own6 hb_wB (g3) (by (try simp only [zD, zN, zA, zS]); omega); obtain ⟨hl2_wB, hm2_wB, hn2_wB, hq2_wB, hr2_wB, hg2_wB⟩ := hk)
        | (go_at_call 26; (with_reducible refine (D3.out _).mono ?_); rintro e wC ⟨rfl, hb_wC⟩; have hB_wC : Below (X).heap.size (X) wC := Below.trans (by (repeat (first | exact Below.refl _ _ | assumption | refine Below.setCell ?_ (by first | omega | (simp <;> omega)) _ | refine Below.alloc ?_ (by first | omega | (simp <;> omega)) _ | refine Below.drew ?_ | refine below_drewN' ?_ _))) (hb_wC.mono (by first | omega | (simp <;> omega))); obtain ⟨hc_wC, hf_wC⟩ := bcell hb_wC; have hz_wC := hb_wC.size; (try simp only [zD, zN, zA, zS] at hz_wC); have hk := own6 hb_wC (g1) (by (try simp only [zD, zN, zA, zS]); omega); obtain ⟨hl0_wC, hm0_wC, hn0_wC, hq0_wC, hr0_wC, hg0_wC⟩ := hk; have hk := own6 hb_wC (g2) (by (try simp only [zD, zN, zA, zS]); omega); obtain ⟨hl1_wC, hm1_wC, hn1_wC, hq1_wC, hr1_wC, hg1_wC⟩ := hk; have hk := own6 hb_wC (g3) (by (try simp only [zD, zN, zA, zS]); omega); obtain ⟨hl2_wC, hm2_wC, hn2_wC, hq2_wC, hr2_wC, hg2_wC⟩ := hk))
      all_goals (try go_wp2)
      all_goals (go_ret; exact RetB.of rfl (HBX.out.trans ((by (repeat (first | exact Below.refl _ _ | assumption | refine Below.setCell ?_ (by first | omega | (simp <;> omega)) _ | refine Below.alloc ?_ (by first | omega | (simp <;> omega)) _ | refine Below.drew ?_ | refine below_drewN' ?_ _)) : Below X.heap.size X _).mono hzX)))
end Go.Proofs.YtiglekomfgfilaaGreatDoor

/- Plain Lean: the document's search, without signs: the same decimal; which of two is nearer, by naturals of one unit. -/
namespace Go.Proofs.YtiglekomfgfilaaGreatDoor.Fl
set_option linter.all false
open Go
end Go.Proofs.YtiglekomfgfilaaGreatDoor.Fl

/- The reference of chapter 10: scaled, plus, cmp, nearer, even. -/
namespace Go.Proofs.YtiglekomfgfilaaGreatDoor
set_option linter.all false
open Go.RowKit
end Go.Proofs.YtiglekomfgfilaaGreatDoor

/- The reference of chapter 10: nearer, even. -/
namespace Go.Proofs.YtiglekomfgfilaaGreatDoor
set_option linter.all false
open Go.RowKit
end Go.Proofs.YtiglekomfgfilaaGreatDoor

/- The reference of chapter 10: even; Fifteen. -/
namespace Go.Proofs.YtiglekomfgfilaaGreatDoor
set_option linter.all false
open Go.RowKit
end Go.Proofs.YtiglekomfgfilaaGreatDoor
