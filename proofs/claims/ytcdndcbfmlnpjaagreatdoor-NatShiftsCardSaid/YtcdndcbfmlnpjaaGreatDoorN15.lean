/- Digits. -/
import Derived.Test.YtcdndcbfmlnpjaaGreatDoorN14
import Derived.Test.YtcdndcbfmlnpjaaGreatDoorNf
import Derived.Lib.AppendIntMem
namespace Go.Proofs.YtcdndcbfmlnpjaaGreatDoor
set_option linter.all false
open Go.RowKit

def Tab (w : World) : Prop := Lib.TabBelow Tryz.prog w.heap.size w "internal/strconv.uint64pow10" .u64 Lib.pow10Tab
theorem Tab.on {w w1 : World} (h : Tab w) (hb : Below w.heap.size w w1) : Lib.TabIs Tryz.prog w1 "internal/strconv.uint64pow10" .u64 Lib.pow10Tab := h w1 hb
theorem Tab.below {w w1 : World} (h : Tab w) (hb : Below w.heap.size w w1) : Tab w1 := fun w' hb' => h w' (hb.trans (hb'.mono hb.size))

theorem itoa_any (n : Int) (w : World) (h0 : -9223372036854775808 ≤ n) (h1 : n ≤ 9223372036854775807) (ht : Lib.TabIs Tryz.prog w "internal/strconv.uint64pow10" .u64 Lib.pow10Tab) :
    Calls Tryz.prog 58 #[.int .i64 n] w (RetB (.string ⟨(Lib.itoa n).toArray⟩) w) :=
  (Tryz.strconv_Itoa n h0 h1 w ht).mono fun e w' he => ⟨he.1, by obtain ⟨k, os, e⟩ := he.2; rw [e]; exact Lib.below_grow _ w (Nat.le_refl _) k os⟩

theorem Dc_app (a b : ByteArray) : (a ++ b).data.toList = a.data.toList ++ b.data.toList := by simp
def digLoop (N g : Nat) (w : World) (rv sv : Value) (wr : World) : Prop := ∃ (v cap : Nat) (S : ByteArray) (o : List Nat), rv = .slice (some ⟨g, 0, none⟩) (Na.limbs v).length cap ∧ (Na.limbs v).length ≤ cap ∧ sv = .string S ∧ Hid (Blk wr g o) ∧ Hid (Na.OK o) ∧ Hid ((Na.limbs v).length ≤ o.length) ∧ (Na.limbs v).length ≤ 1000000 ∧ Hid (o.length ≤ cap) ∧
  Hid (o.take (Na.limbs v).length = Na.limbs v) ∧ Hid (if v = 0 then S.data.toList = Lib.decDigits N else Lib.decDigits N = Lib.decDigits v ++ S.data.toList) ∧ Hid (Below w.heap.size w wr)
def strLen : Value → Nat
  | .string s => s.size
  | _ => 0
theorem dec_len_le (l : List Nat) (h : Na.OK l) : (Lib.decDigits (Na.val l)).length ≤ 10 * l.length + 1 := by
  have h1 := Na.val_lt l h
  have h2 : Na.B ^ l.length ≤ 10 ^ (10 * l.length) := by rw [Nat.pow_mul]; exact Nat.pow_le_pow_left (by decide) _
  exact (Na.padk_eq (10 * l.length) _ (Nat.lt_of_lt_of_le h1 (Nat.le_trans h2 (Nat.pow_le_pow_right (by decide) (by omega))))).2

set_option maxHeartbeats 1000000 in
theorem na_digits_zero (a : Option Addr) (c : Nat) (l : List Nat) (w : World) (h : Sl w a c l) (hn : l.length ≤ 1000000) (hz : Na.val l = 0) :
    Calls Tryz.prog 35 #[.slice a l.length c] w (RetB (.string ⟨(Lib.decDigits (Na.val l)).toArray⟩) w) := by
  have H1 := na_trim_any a c l w h hn
  have e1 : Na.cut l = [] := (Na.cut_nil_iff l).2 hz
  rw [e1] at H1
  have H1' := Lib.hid (show Calls Tryz.prog 9 #[.slice a l.length c] w (GivesB [] w) from H1)
  have e2 := Lib.hid (show (⟨(Lib.decDigits (Na.val l)).toArray⟩ : ByteArray) = ⟨#[48]⟩ by rw [hz, Lib.decDigits, dif_pos (by decide)]; rfl)
  clear H1 e1 hz
  go_enter Tryz.func35, Tryz.ntmps35
  go_wp2_with (first | (go_at_call 9; (with_reducible refine (H1'.out).mono ?_); rintro e w1 ⟨g, rfl, hg, hk, hb⟩))
  go_ret
  exact RetB.of (by rw [e2.out]; rfl) hb

set_option maxHeartbeats 2000000 in
theorem na_digits_pos (a : Option Addr) (c : Nat) (l : List Nat) (w : World) (h : Sl w a c l) (hn : l.length ≤ 1000000) (hz : Na.val l ≠ 0) (ht : Tab w) :
    Calls Tryz.prog 35 #[.slice a l.length c] w (RetB (.string ⟨(Lib.decDigits (Na.val l)).toArray⟩) w) := by
  have H1 := Lib.hid (na_trim_any a c l w h hn)
  have hlen : (Na.cut l).length ≤ 1000000 := Nat.le_trans (Na.rt_le h.ok).1 hn
  have hdl := dec_len_le l h.ok
  have hpos : 0 < (Na.cut l).length := by
    rcases Nat.eq_zero_or_pos (Na.cut l).length with e | e
    · exact absurd ((Na.cut_nil_iff l).1 (List.eq_nil_of_length_eq_zero e)) hz
    · exact e
  obtain ⟨N, hN⟩ : ∃ N, N = Na.val l := ⟨_, rfl⟩
  have hcut : Na.cut l = Na.limbs N := by rw [hN]; rfl
  rw [hcut] at H1 hlen hpos
  rw [← hN] at hdl hz ⊢
  obtain ⟨L, hL⟩ : ∃ L, L = (Lib.decDigits N).length := ⟨_, rfl⟩
  rw [← hL] at hdl
  have hL2 : L ≤ 20000000 := by omega
  have HL := Lib.hid hL
  have HZ := Lib.hid hz
  have HT := Lib.hid ht
  have hz0 : (((Na.limbs N).length : Int) == 0) = false := by simp only [beq_eq_false_iff_ne, ne_eq]; omega
  clear hN hcut hL hz ht hdl
  go_enter Tryz.func35, Tryz.ntmps35
  go_wp2_with (first | (go_at_call 9; (with_reducible refine (H1.out).mono ?_); rintro e w1 ⟨g, rfl, hg, hk, hb⟩))
  have HK := Lib.hid hk; have HB := Lib.hid hb
  clear hk hb H1
  go_loopw [3, 4] (digLoop N g w) (fun _ s _ => L + 1 - strLen s)
  case atStart => exact ⟨N, (Na.limbs N).length, ⟨#[]⟩, Na.limbs N, rfl, Nat.le_refl _, rfl, HK, Lib.hid (Na.ok_limbs N), Lib.hid (Nat.le_refl _), hlen, Lib.hid (Nat.le_refl _), Lib.hid (List.take_length), Lib.hid (by rw [if_neg HZ.out]; simp), HB⟩
  case round =>
    clear HK HB hlen hpos
    obtain ⟨v, cap, S, o, rfl, hcap, rfl, HBl, HOk, HOl, hlen, HOc, HTk, HInv, HBe⟩ := hrel
    by_cases hv : v = 0
    · subst hv
      have HE := Lib.hid (show (⟨(Lib.decDigits N).toArray⟩ : ByteArray) = S by have := HInv.out; rw [if_pos rfl] at this; rw [← this])
      have e0 := Lib.hid (show (Na.limbs 0).length = 0 by rw [Na.limbs_zero]; rfl)
      rw [e0.out]
      go_wp2_with fail
      go_ret
      exact RetB.of (by rw [HE.out]; rfl) HBe.out
    · have hpos : 0 < (Na.limbs v).length := by
        rcases Nat.eq_zero_or_pos (Na.limbs v).length with e | e
        · exact absurd (Na.limbs_nil.1 (List.eq_nil_of_length_eq_zero e)) hv
        · exact e
      have hinv := HInv.out
      rw [if_neg hv] at hinv
      have hS := congrArg List.length hinv
      rw [List.length_append, bs_length, ← HL.out] at hS
      obtain ⟨r, hr⟩ : ∃ r, r = v % 1000000000 := ⟨_, rfl⟩
      obtain ⟨u, hu⟩ : ∃ u, u = v / 1000000000 := ⟨_, rfl⟩
      have hrl : r < 1000000000 := by rw [hr]; exact Nat.mod_lt _ (by decide)
      have hsh := na_short_any g (Na.limbs v).length cap 1000000000 o wr HBl.out HOk.out HOl.out hlen (by decide) (by decide)
      rw [HTk.out, Na.val_limbs, ← hr, ← hu] at hsh
      have HSH := Lib.hid (show Calls Tryz.prog 49 #[.slice (some ⟨g, 0, none⟩) (Na.limbs v).length cap, .int .u32 1000000000] wr _ from hsh)
      obtain ⟨I, hI⟩ : ∃ I : ByteArray, I = ⟨(Lib.decDigits r).toArray⟩ := ⟨_, rfl⟩
      have hIl : I.data.toList = Lib.decDigits r := by rw [hI]
      have hIs : I.size = (Lib.decDigits r).length := by rw [hI, size_mk]
      have hI9 : I.size ≤ 9 := by rw [hIs, hr]; exact Na.dig_len v
      have hI1 : 0 < I.size := by rw [hIs, Lib.decDigits]; split <;> simp
      have HI := Lib.hid (fun w' (hb : Below w.heap.size w w') => (by
        have := itoa_any (r : Int) w' (by omega) (by omega) (HT.out.on hb)
        rw [show Lib.itoa (r : Int) = Lib.decDigits r by rw [Lib.itoa, if_neg (by omega), Int.toNat_natCast], ← hI] at this
        exact this : Calls Tryz.prog 58 #[.int .i64 r] w' (RetB (.string I) w')))
      have HCUT := Lib.hid (fun w' o' (hk : Blk w' g o') (hl : o'.length = o.length) (hok : Na.OK o') (hv : Na.val (o'.take (Na.limbs v).length) = u) => (by
        have hll : (o'.take (Na.limbs v).length).length = (Na.limbs v).length := by rw [List.length_take, hl]; have := HOl.out; omega
        have hcu : Na.cut (o'.take (Na.limbs v).length) = Na.limbs u := by rw [Na.cut, hv]
        have hs := (hk.sl hok (c := cap) (by rw [hl]; exact HOc.out)).take (Na.limbs v).length
        have hc := na_cut_any (some ⟨g, 0, none⟩) cap (o'.take (Na.limbs v).length) w' hs (by omega)
        have hrt := Na.rt_le (Na.ok_take hok (Na.limbs v).length)
        rw [hll, hcu] at hc
        have hle : (Na.limbs u).length ≤ (Na.limbs v).length := by have := hrt.1; rw [hll, Na.rt, hcu] at this; exact this
        refine ⟨hc, hle, ?_⟩
        have e := hrt.2
        rw [hcu, Na.rt, hcu, List.take_take, Nat.min_eq_left hle] at e
        exact e.symm : Calls Tryz.prog 38 #[.slice (some ⟨g, 0, none⟩) (Na.limbs v).length cap] w' (Ret0 (.slice (some ⟨g, 0, none⟩) (Na.limbs u).length cap) w') ∧ (Na.limbs u).length ≤ (Na.limbs v).length ∧ o'.take (Na.limbs u).length = Na.limbs u))
      have hSs : S.size ≤ L := by omega
      by_cases hu0 : u = 0
      · have HU := Lib.hid (show Lib.decDigits N = Lib.decDigits r ++ S.data.toList by
          have hvr : v = r := by rw [hu] at hu0; rw [hr]; omega
          rw [← hvr]; exact hinv)
        have hSl : L = I.size + S.size := by rw [HL.out, HU.out, List.length_append, bs_length, hIs]
        have e0 := Lib.hid (show (Na.limbs u).length = 0 by rw [hu0, Na.limbs_zero]; rfl)
        have HU0 := Lib.hid hu0
        have HIL := Lib.hid hIl
        have s1 : ¬ 9223372036854775807 < I.size + S.size := by omega
        clear hsh hinv hS hr hu hI hIl hIs hu0 HInv
        go_wp2_with (first | (go_at_call 49; (with_reducible refine (HSH.out).mono ?_); rintro e w2 ⟨rfl, hb2, o', hk2, hl2, hok2, hv2⟩; have hB2 : Below w.heap.size w w2 := HBe.out.trans (hb2.mono hg)) | (go_at_call 58; (with_reducible refine (HI.out w2 hB2).mono ?_); rintro e w3 ⟨rfl, hb3⟩; have HX := Lib.hid (HCUT.out w3 o' (hk2.on hb3) hl2 hok2 hv2); have hx1 := HX.out.1; rw [e0.out] at hx1; have HX1 := Lib.hid hx1; clear hx1 hv2) | (go_at_call 38; (with_reducible refine (HX1.out).mono ?_); rintro e w' ⟨rfl, rfl⟩))
        go_roundw
        case rel => exact ⟨u, cap, I ++ S, o', by rw [e0.out], by rw [e0.out]; omega, rfl, Lib.hid (hk2.on hb3), Lib.hid hok2, Lib.hid (by rw [e0.out]; omega), by rw [e0.out]; omega, Lib.hid (by rw [hl2]; exact HOc.out), Lib.hid HX.out.2.2, Lib.hid (by rw [if_pos HU0.out, Dc_app, HIL.out, HU.out]), Lib.hid (hB2.trans (hb3.mono hB2.size))⟩
        case measure => simp [strLen, ByteArray.size_append]; omega
      · obtain ⟨Z, hZ⟩ : ∃ Z : ByteArray, Z = ⟨(List.replicate (9 - I.size) (48 : UInt8)).toArray⟩ := ⟨_, rfl⟩
        have hZs : Z.size = 9 - I.size := by rw [hZ, size_mk, List.length_replicate]
        have hup : 0 < (Na.limbs u).length := by
          rcases Nat.eq_zero_or_pos (Na.limbs u).length with e | e
          · exact absurd (Na.limbs_nil.1 (List.eq_nil_of_length_eq_zero e)) hu0
          · exact e
        have HU := Lib.hid (show Lib.decDigits N = Lib.decDigits u ++ (Z ++ I ++ S).data.toList by
          have := Na.dig_step v (by rw [← hu]; exact hu0)
          rw [← hr, ← hu, ← hIs] at this
          rw [hinv, this, Dc_app, Dc_app, hIl, hZ, List.append_assoc])
        have hSl : L = (Lib.decDigits u).length + (Z.size + I.size + S.size) := by rw [HL.out, HU.out, List.length_append, bs_length, ByteArray.size_append, ByteArray.size_append]
        have HRP := Lib.hid (fun w' => (by
          have := Tryz.strings_Repeat ⟨#[48]⟩ (9 - I.size) w' (by omega) (by show 1 * _ ≤ _; omega)
          rw [show ((9 - I.size : Nat) : Int) = 9 - (I.size : Int) by omega, show (⟨(Lib.repeatL (⟨#[48]⟩ : ByteArray).data.toList (9 - I.size)).toArray⟩ : ByteArray) = Z by rw [hZ, ← Na.rep48]] at this
          exact this : Calls Tryz.prog 59 #[.string ⟨#[48]⟩, .int .i64 (9 - (I.size : Int))] w' (RetB (.string Z) w')))
        have HU0 := Lib.hid hu0
        have s1 : ¬ 9223372036854775807 < Z.size + I.size := by omega
        have s2 : ¬ 9223372036854775807 < Z.size + I.size + S.size := by omega
        clear hsh hinv hS hr hu hI hIl hIs hu0 HInv hZ hZs
        go_wp2_with (first | (go_at_call 49; (with_reducible refine (HSH.out).mono ?_); rintro e w2 ⟨rfl, hb2, o', hk2, hl2, hok2, hv2⟩; have hB2 : Below w.heap.size w w2 := HBe.out.trans (hb2.mono hg)) | (go_at_call 58; (with_reducible refine (HI.out w2 hB2).mono ?_); rintro e w3 ⟨rfl, hb3⟩; have HX := Lib.hid (HCUT.out w3 o' (hk2.on hb3) hl2 hok2 hv2); have HL2 := Lib.hid hl2; clear hl2 hv2) | (go_at_call 38; (with_reducible refine (HX.out.1).mono ?_); rintro e w' ⟨rfl, rfl⟩) | (go_at_call 59; (with_reducible refine (HRP.out w3).mono ?_); rintro e w4 ⟨rfl, hb4⟩))
        go_roundw
        case rel => exact ⟨u, cap, Z ++ I ++ S, o', rfl, by have := HX.out.2.1; omega, rfl, Lib.hid ((hk2.on hb3).on hb4), Lib.hid hok2, Lib.hid (by have h1 := HX.out.2.1; have h2 := HOl.out; rw [HL2.out]; omega), by have := HX.out.2.1; omega, Lib.hid (by rw [HL2.out]; exact HOc.out), Lib.hid HX.out.2.2, Lib.hid (by rw [if_neg HU0.out]; exact HU.out), Lib.hid ((hB2.trans (hb3.mono hB2.size)).trans (hb4.mono (Nat.le_trans hB2.size hb3.size)))⟩
        case measure => simp [strLen, ByteArray.size_append]; omega

theorem na_digits_any (a : Option Addr) (c : Nat) (l : List Nat) (w : World) (h : Sl w a c l) (hn : l.length ≤ 1000000) (ht : Tab w) :
    Calls Tryz.prog 35 #[.slice a l.length c] w (RetB (.string ⟨(Lib.decDigits (Na.val l)).toArray⟩) w) := by
  by_cases hz : Na.val l = 0
  · exact na_digits_zero a c l w h hn hz
  · exact na_digits_pos a c l w h hn hz ht
end Go.Proofs.YtcdndcbfmlnpjaaGreatDoor
