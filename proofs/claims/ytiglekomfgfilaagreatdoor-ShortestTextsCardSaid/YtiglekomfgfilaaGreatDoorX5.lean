/- Digits. -/
import Derived.Test.YtiglekomfgfilaaGreatDoorX4
import Derived.Lib.AppendIntMem
import Derived.Test.YtiglekomfgfilaaGreatDoorRows
import Derived.ProofKit
import Derived.Lib.LaidTab
import Derived.Lib.AtoiAll
import Derived.Lib.SlTrimSet
import Derived.WalkKit
import Derived.Lib.Strings
import Derived.Lib.TrimByte
import Derived.Lib.Bytealg
import Derived.Lib.Repeat
namespace Go.Proofs.YtiglekomfgfilaaGreatDoor
set_option maxRecDepth 100000
set_option maxHeartbeats 2000000
set_option linter.all false
open Go.RowKit
def Tab (w : World) : Prop := Lib.TabBelow Tryz.prog w.heap.size w "internal/strconv.uint64pow10" .u64 Lib.pow10Tab
theorem Tab.on {w w1 : World} (h : Tab w) (hb : Below w.heap.size w w1) : Lib.TabIs Tryz.prog w1 "internal/strconv.uint64pow10" .u64 Lib.pow10Tab := h w1 hb
theorem Tab.below {w w1 : World} (h : Tab w) (hb : Below w.heap.size w w1) : Tab w1 := fun w' hb' => h w' (hb.trans (hb'.mono hb.size))
theorem itoa_any (n : Int) (w : World) (h0 : -9223372036854775808 ≤ n) (h1 : n ≤ 9223372036854775807) (ht : Lib.TabIs Tryz.prog w "internal/strconv.uint64pow10" .u64 Lib.pow10Tab) :
    Calls Tryz.prog 75 #[.int .i64 n] w (RetB (.string ⟨(Lib.itoa n).toArray⟩) w) :=
  (Tryz.strconv_Itoa n h0 h1 w ht).mono fun e w' he => ⟨he.1, by obtain ⟨k, os, e⟩ := he.2; rw [e]; exact Lib.below_grow _ w (Nat.le_refl _) k os⟩
theorem Dc_app (a b : ByteArray) : (a ++ b).data.toList = a.data.toList ++ b.data.toList := by simp
def digLoop (N g : Nat) (w : World) (rv sv : Value) (wr : World) : Prop := ∃ (v cap : Nat) (S : ByteArray) (o : List Nat), rv = .slice (some ⟨g, 0, none⟩) (Na.limbs v).length cap ∧ (Na.limbs v).length ≤ cap ∧ sv = .string S ∧ Hid (Blk wr g o) ∧ Hid (Na.OK o) ∧ Hid ((Na.limbs v).length ≤ o.length) ∧ (Na.limbs v).length ≤ 1000000 ∧ Hid (o.length ≤ cap) ∧
  Hid (o.take (Na.limbs v).length = Na.limbs v) ∧ Hid (if v = 0 then S.data.toList = Lib.decDigits N else Lib.decDigits N = Lib.decDigits v ++ S.data.toList) ∧ Hid (Below w.heap.size w wr)
def strLen : Value → Nat
  | .string s => s.size
  | _ => 0
theorem dec_len_le (l : List Nat) (h : Na.OK l) : (Lib.decDigits (Na.val l)).length ≤ 10 * l.length + 1 := by
  have h1 := Na.val_lt l h
  have h2 : Na.B ^ l.length ≤ 10 ^ (10 * l.length) := by rw [Nat.pow_mul]; exact Nat.pow_le_pow_left (by decide) _
  exact (Na.padk_eq (10 * l.length) _ (Nat.lt_of_lt_of_le h1 (Nat.le_trans h2 (Nat.pow_le_pow_right (by decide) (by omega))))).2
theorem na_digits_zero (a : Option Addr) (c : Nat) (l : List Nat) (w : World) (h : Sl w a c l) (hn : l.length ≤ 1000000) (hz : Na.val l = 0) :
    Calls Tryz.prog 95 #[.slice a l.length c] w (RetB (.string ⟨(Lib.decDigits (Na.val l)).toArray⟩) w) := by
  have H1 := na_trim_any a c l w h hn
  have e1 : Na.cut l = [] := (Na.cut_nil_iff l).2 hz
  rw [e1] at H1
  have H1' := Lib.hid (show Calls Tryz.prog 96 #[.slice a l.length c] w (GivesB [] w) from H1)
  have e2 := Lib.hid (show (⟨(Lib.decDigits (Na.val l)).toArray⟩ : ByteArray) = ⟨#[48]⟩ by rw [hz, Lib.decDigits, dif_pos (by decide)]; rfl)
  clear H1 e1 hz
  go_enter Tryz.func95, Tryz.ntmps95
  go_wp2_with (first | (go_at_call 96; (with_reducible refine (H1'.out).mono ?_); rintro e w1 ⟨g, rfl, hg, hk, hb⟩))
  go_ret
  exact RetB.of (by rw [e2.out]; rfl) hb
theorem na_digits_pos (a : Option Addr) (c : Nat) (l : List Nat) (w : World) (h : Sl w a c l) (hn : l.length ≤ 1000000) (hz : Na.val l ≠ 0) (ht : Tab w) :
    Calls Tryz.prog 95 #[.slice a l.length c] w (RetB (.string ⟨(Lib.decDigits (Na.val l)).toArray⟩) w) := by
  have H1 := Lib.hid (na_trim_any a c l w h hn)
  have hlen : (Na.cut l).length ≤ 1000000 := Nat.le_trans (Na.rt_le h.ok).1 hn
  have hdl := dec_len_le l h.ok
  have hpos : 0 < (Na.cut l).length := by
    rcases Nat.eq_zero_or_pos (Na.cut l).length with e | e
    · exact absurd ((Na.cut_nil_iff l).1 (List.eq_nil_of_length_eq_zero e)) hz
    · exact e
  obtain ⟨N, hN⟩ : ∃ N, N = Na.val l := ⟨_, rfl⟩
  have hcut : Na.cut l = Na.limbs N := by rw [hN]; rfl
  rw [hcut] at H1 hlen hpos
  rw [← hN] at hdl hz ⊢
  obtain ⟨L, hL⟩ : ∃ L, L = (Lib.decDigits N).length := ⟨_, rfl⟩
  rw [← hL] at hdl
  have hL2 : L ≤ 20000000 := by omega
  have HL := Lib.hid hL
  have HZ := Lib.hid hz
  have HT := Lib.hid ht
  have hz0 : (((Na.limbs N).length : Int) == 0) = false := by simp only [beq_eq_false_iff_ne, ne_eq]; omega
  clear hN hcut hL hz ht hdl
  go_enter Tryz.func95, Tryz.ntmps95
  go_wp2_with (first | (go_at_call 96; (with_reducible refine (H1.out).mono ?_); rintro e w1 ⟨g, rfl, hg, hk, hb⟩))
  have HK := Lib.hid hk; have HB := Lib.hid hb
  clear hk hb H1
  go_loopw [3, 4] (digLoop N g w) (fun _ s _ => L + 1 - strLen s)
  case atStart => exact ⟨N, (Na.limbs N).length, ⟨#[]⟩, Na.limbs N, rfl, Nat.le_refl _, rfl, HK, Lib.hid (Na.ok_limbs N), Lib.hid (Nat.le_refl _), hlen, Lib.hid (Nat.le_refl _), Lib.hid (List.take_length), Lib.hid (by rw [if_neg HZ.out]; simp), HB⟩
  case round =>
    clear HK HB hlen hpos
    obtain ⟨v, cap, S, o, rfl, hcap, rfl, HBl, HOk, HOl, hlen, HOc, HTk, HInv, HBe⟩ := hrel
    by_cases hv : v = 0
    · subst hv
      have HE := Lib.hid (show (⟨(Lib.decDigits N).toArray⟩ : ByteArray) = S by have := HInv.out; rw [if_pos rfl] at this; rw [← this])
      have e0 := Lib.hid (show (Na.limbs 0).length = 0 by rw [Na.limbs_zero]; rfl)
      rw [e0.out]
      go_wp2_with fail
      go_ret
      exact RetB.of (by rw [HE.out]; rfl) HBe.out
    · have hpos : 0 < (Na.limbs v).length := by
        rcases Nat.eq_zero_or_pos (Na.limbs v).length with e | e
        · exact absurd (Na.limbs_nil.1 (List.eq_nil_of_length_eq_zero e)) hv
        · exact e
      have hinv := HInv.out
      rw [if_neg hv] at hinv
      have hS := congrArg List.length hinv
      rw [List.length_append, bs_length, ← HL.out] at hS
      obtain ⟨r, hr⟩ : ∃ r, r = v % 1000000000 := ⟨_, rfl⟩
      obtain ⟨u, hu⟩ : ∃ u, u = v / 1000000000 := ⟨_, rfl⟩
      have hrl : r < 1000000000 := by rw [hr]; exact Nat.mod_lt _ (by decide)
      have hsh := na_short_any g (Na.limbs v).length cap 1000000000 o wr HBl.out HOk.out HOl.out hlen (by decide) (by decide)
      rw [HTk.out, Na.val_limbs, ← hr, ← hu] at hsh
      have HSH := Lib.hid (show Calls Tryz.prog 120 #[.slice (some ⟨g, 0, none⟩) (Na.limbs v).length cap, .int .u32 1000000000] wr _ from hsh)
      obtain ⟨I, hI⟩ : ∃ I : ByteArray, I = ⟨(Lib.decDigits r).toArray⟩ := ⟨_, rfl⟩
      have hIl : I.data.toList = Lib.decDigits r := by rw [hI]
      have hIs : I.size = (Lib.decDigits r).length := by rw [hI, size_mk]
      have hI9 : I.size ≤ 9 := by rw [hIs, hr]; exact Na.dig_len v
      have hI1 : 0 < I.size := by rw [hIs, Lib.decDigits]; split <;> simp
      have HI := Lib.hid (fun w' (hb : Below w.heap.size w w') => (by
        have := itoa_any (r : Int) w' (by omega) (by omega) (HT.out.on hb)
        rw [show Lib.itoa (r : Int) = Lib.decDigits r by rw [Lib.itoa, if_neg (by omega), Int.toNat_natCast], ← hI] at this
        exact this : Calls Tryz.prog 75 #[.int .i64 r] w' (RetB (.string I) w')))
      have HCUT := Lib.hid (fun w' o' (hk : Blk w' g o') (hl : o'.length = o.length) (hok : Na.OK o') (hv : Na.val (o'.take (Na.limbs v).length) = u) => (by
        have hll : (o'.take (Na.limbs v).length).length = (Na.limbs v).length := by rw [List.length_take, hl]; have := HOl.out; omega
        have hcu : Na.cut (o'.take (Na.limbs v).length) = Na.limbs u := by rw [Na.cut, hv]
        have hs := (hk.sl hok (c := cap) (by rw [hl]; exact HOc.out)).take (Na.limbs v).length
        have hc := na_cut_any (some ⟨g, 0, none⟩) cap (o'.take (Na.limbs v).length) w' hs (by omega)
        have hrt := Na.rt_le (Na.ok_take hok (Na.limbs v).length)
        rw [hll, hcu] at hc
        have hle : (Na.limbs u).length ≤ (Na.limbs v).length := by have := hrt.1; rw [hll, Na.rt, hcu] at this; exact this
        refine ⟨hc, hle, ?_⟩
        have e := hrt.2
        rw [hcu, Na.rt, hcu, List.take_take, Nat.min_eq_left hle] at e
        exact e.symm : Calls Tryz.prog 115 #[.slice (some ⟨g, 0, none⟩) (Na.limbs v).length cap] w' (Ret0 (.slice (some ⟨g, 0, none⟩) (Na.limbs u).length cap) w') ∧ (Na.limbs u).length ≤ (Na.limbs v).length ∧ o'.take (Na.limbs u).length = Na.limbs u))
      have hSs : S.size ≤ L := by omega
      by_cases hu0 : u = 0
      · have HU := Lib.hid (show Lib.decDigits N = Lib.decDigits r ++ S.data.toList by
          have hvr : v = r := by rw [hu] at hu0; rw [hr]; omega
          rw [← hvr]; exact hinv)
        have hSl : L = I.size + S.size := by rw [HL.out, HU.out, List.length_append, bs_length, hIs]
        have e0 := Lib.hid (show (Na.limbs u).length = 0 by rw [hu0, Na.limbs_zero]; rfl)
        have HU0 := Lib.hid hu0
        have HIL := Lib.hid hIl
        have s1 : ¬ 9223372036854775807 < I.size + S.size := by omega
        clear hsh hinv hS hr hu hI hIl hIs hu0 HInv
        go_wp2_with (first | (go_at_call 120; (with_reducible refine (HSH.out).mono ?_); rintro e w2 ⟨rfl, hb2, o', hk2, hl2, hok2, hv2⟩; have hB2 : Below w.heap.size w w2 := HBe.out.trans (hb2.mono hg)) | (go_at_call 75; (with_reducible refine (HI.out w2 hB2).mono ?_); rintro e w3 ⟨rfl, hb3⟩; have HX := Lib.hid (HCUT.out w3 o' (hk2.on hb3) hl2 hok2 hv2); have hx1 := HX.out.1; rw [e0.out] at hx1; have HX1 := Lib.hid hx1; clear hx1 hv2) | (go_at_call 115; (with_reducible refine (HX1.out).mono ?_); rintro e w' ⟨rfl, rfl⟩))
        go_roundw
        case rel => exact ⟨u, cap, I ++ S, o', by rw [e0.out], by rw [e0.out]; omega, rfl, Lib.hid (hk2.on hb3), Lib.hid hok2, Lib.hid (by rw [e0.out]; omega), by rw [e0.out]; omega, Lib.hid (by rw [hl2]; exact HOc.out), Lib.hid HX.out.2.2, Lib.hid (by rw [if_pos HU0.out, Dc_app, HIL.out, HU.out]), Lib.hid (hB2.trans (hb3.mono hB2.size))⟩
        case measure => simp [strLen, ByteArray.size_append]; omega
      · obtain ⟨Z, hZ⟩ : ∃ Z : ByteArray, Z = ⟨(List.replicate (9 - I.size) (48 : UInt8)).toArray⟩ := ⟨_, rfl⟩
        have hZs : Z.size = 9 - I.size := by rw [hZ, size_mk, List.length_replicate]
        have hup : 0 < (Na.limbs u).length := by
          rcases Nat.eq_zero_or_pos (Na.limbs u).length with e | e
          · exact absurd (Na.limbs_nil.1 (List.eq_nil_of_length_eq_zero e)) hu0
          · exact e
        have HU := Lib.hid (show Lib.decDigits N = Lib.decDigits u ++ (Z ++ I ++ S).data.toList by
          have := Na.dig_step v (by rw [← hu]; exact hu0)
          rw [← hr, ← hu, ← hIs] at this
          rw [hinv, this, Dc_app, Dc_app, hIl, hZ, List.append_assoc])
        have hSl : L = (Lib.decDigits u).length + (Z.size + I.size + S.size) := by rw [HL.out, HU.out, List.length_append, bs_length, ByteArray.size_append, ByteArray.size_append]
        have HRP := Lib.hid (fun w' => (by
          have := Tryz.strings_Repeat ⟨#[48]⟩ (9 - I.size) w' (by omega) (by show 1 * _ ≤ _; omega)
          rw [show ((9 - I.size : Nat) : Int) = 9 - (I.size : Int) by omega, show (⟨(Lib.repeatL (⟨#[48]⟩ : ByteArray).data.toList (9 - I.size)).toArray⟩ : ByteArray) = Z by rw [hZ, ← Na.rep48]] at this
          exact this : Calls Tryz.prog 74 #[.string ⟨#[48]⟩, .int .i64 (9 - (I.size : Int))] w' (RetB (.string Z) w')))
        have HU0 := Lib.hid hu0
        have s1 : ¬ 9223372036854775807 < Z.size + I.size := by omega
        have s2 : ¬ 9223372036854775807 < Z.size + I.size + S.size := by omega
        clear hsh hinv hS hr hu hI hIl hIs hu0 HInv hZ hZs
        go_wp2_with (first | (go_at_call 120; (with_reducible refine (HSH.out).mono ?_); rintro e w2 ⟨rfl, hb2, o', hk2, hl2, hok2, hv2⟩; have hB2 : Below w.heap.size w w2 := HBe.out.trans (hb2.mono hg)) | (go_at_call 75; (with_reducible refine (HI.out w2 hB2).mono ?_); rintro e w3 ⟨rfl, hb3⟩; have HX := Lib.hid (HCUT.out w3 o' (hk2.on hb3) hl2 hok2 hv2); have HL2 := Lib.hid hl2; clear hl2 hv2) | (go_at_call 115; (with_reducible refine (HX.out.1).mono ?_); rintro e w' ⟨rfl, rfl⟩) | (go_at_call 74; (with_reducible refine (HRP.out w3).mono ?_); rintro e w4 ⟨rfl, hb4⟩))
        go_roundw
        case rel => exact ⟨u, cap, Z ++ I ++ S, o', rfl, by have := HX.out.2.1; omega, rfl, Lib.hid ((hk2.on hb3).on hb4), Lib.hid hok2, Lib.hid (by have h1 := HX.out.2.1; have h2 := HOl.out; rw [HL2.out]; omega), by have := HX.out.2.1; omega, Lib.hid (by rw [HL2.out]; exact HOc.out), Lib.hid HX.out.2.2, Lib.hid (by rw [if_neg HU0.out]; exact HU.out), Lib.hid ((hB2.trans (hb3.mono hB2.size)).trans (hb4.mono (Nat.le_trans hB2.size hb3.size)))⟩
        case measure => simp [strLen, ByteArray.size_append]; omega
theorem na_digits_any (a : Option Addr) (c : Nat) (l : List Nat) (w : World) (h : Sl w a c l) (hn : l.length ≤ 1000000) (ht : Tab w) :
    Calls Tryz.prog 95 #[.slice a l.length c] w (RetB (.string ⟨(Lib.decDigits (Na.val l)).toArray⟩) w) := by
  by_cases hz : Na.val l = 0
  · exact na_digits_zero a c l w h hn hz
  · exact na_digits_pos a c l w h hn hz ht
end Go.Proofs.YtiglekomfgfilaaGreatDoor

/- What the cards of chapter 1 take of the listed variables: the table of powers of ten. -/
namespace Go.Proofs.YtiglekomfgfilaaGreatDoor
set_option linter.all false
open Go.ChangeShapes Go.WideShapes Go.ChangeAt Go.RowKit
theorem own : ownKnob Tryz.prog.godebug = none := by kernel_rfl
theorem gTab : Tryz.prog.globalNamed "internal/strconv.uint64pow10" = some 3 := by kernel_rfl
theorem tab_of_laid {W : World} (h2 : laidMetH Tryz.prog [("internal/strconv.uint64pow10", Rows.laid_internal_strconv_uint64pow10)] W) : Tab W := by
  have h3 : Lib.TabIs Tryz.prog W "internal/strconv.uint64pow10" .u64 [1, 10, 100, 1000, 10000, 100000, 1000000, 10000000, 100000000, 1000000000, 10000000000, 100000000000, 1000000000000, 10000000000000, 100000000000000, 1000000000000000, 10000000000000000, 100000000000000000, 1000000000000000000, 10000000000000000000] :=
    Lib.tabIs_of_head (rest := []) gTab (show (Tryz.prog.globals[3]?).map (·.type) = some 221 by kernel_rfl) Tryz.underlying221 Tryz.underlying22 (show Tryz.prog.cellsOf 22 = 1 by kernel_rfl) (show Tryz.prog.cellsOf 221 = 20 by kernel_rfl) h2
  have h4 : Lib.TabIs Tryz.prog W "internal/strconv.uint64pow10" .u64 Lib.pow10Tab := by
    rw [show Lib.pow10Tab = [1, 10, 100, 1000, 10000, 100000, 1000000, 10000000, 100000000, 1000000000, 10000000000, 100000000000, 1000000000000, 10000000000000, 100000000000000, 1000000000000000, 10000000000000000, 100000000000000000, 1000000000000000000, 10000000000000000000] from by kernel_rfl]; exact h3
  exact Lib.tabBelow_of_tabIs h4
end Go.Proofs.YtiglekomfgfilaaGreatDoor

/- Plain Lean: a shift down. -/
namespace Go.Proofs.YtiglekomfgfilaaGreatDoor.Na
set_option linter.all false
open Go
theorem shr_head (x y Y Y2 s : Nat) (hs : s < 32) (hx : x < B) (hY : Y = y + B * Y2) : (x + B * Y) / 2 ^ s = ((x + y * B) / 2 ^ s) % B + B * (Y / 2 ^ s) := by
  obtain ⟨p, hp⟩ : ∃ p, p = 2 ^ s := ⟨_, rfl⟩
  obtain ⟨c, hc⟩ : ∃ c, c = 2 ^ (32 - s) := ⟨_, rfl⟩
  have hB : B = p * c := by rw [hp, hc, ← Nat.pow_add, show s + (32 - s) = 32 by omega]
  have hp0 : 0 < p := by rw [hp]; exact Nat.pow_pos (by decide)
  rw [← hp]
  have e1 : (x + B * Y) / p = x / p + c * Y := by rw [hB, Nat.mul_assoc, Nat.add_mul_div_left _ _ hp0]
  have e2 : (x + y * B) / p = x / p + c * y := by rw [hB, Nat.mul_left_comm, Nat.add_mul_div_left _ _ hp0, Nat.mul_comm y]
  have hmod : Y % p = y % p := by rw [hY, hB, Nat.mul_assoc, Nat.add_mul_mod_self_left]
  have h1 : c * Y = B * (Y / p) + c * (y % p) := by
    have := congrArg (c * ·) (Nat.div_add_mod Y p)
    simp only [Nat.mul_add, hmod] at this
    rw [← this, hB, ← Nat.mul_assoc, Nat.mul_comm c p]
  have h2 : c * y = B * (y / p) + c * (y % p) := by
    have := congrArg (c * ·) (Nat.div_add_mod y p)
    simp only [Nat.mul_add] at this
    rw [← this, hB, ← Nat.mul_assoc, Nat.mul_comm c p]
  have hxc : x / p < c := by rw [Nat.div_lt_iff_lt_mul hp0, Nat.mul_comm, ← hB]; exact hx
  have hm : c * (y % p) + c ≤ B := by
    have := Nat.mul_le_mul_left c (show y % p + 1 ≤ p from Nat.mod_lt _ hp0)
    rw [Nat.mul_add, Nat.mul_one, Nat.mul_comm c p, ← hB] at this; exact this
  rw [e1, e2, h1, h2]
  have e3 : (x / p + (B * (y / p) + c * (y % p))) % B = x / p + c * (y % p) := by
    rw [show x / p + (B * (y / p) + c * (y % p)) = (x / p + c * (y % p)) + B * (y / p) by omega, Nat.add_mul_mod_self_left, Nat.mod_eq_of_lt (by omega)]
  rw [e3]; omega
theorem shr_lost (L V k s : Nat) (hL : L < B ^ k) : (L + B ^ k * V) / 2 ^ (32 * k + s) = V / 2 ^ s ∧ ((L + B ^ k * V) % 2 ^ (32 * k + s) ≠ 0 ↔ L ≠ 0 ∨ V % 2 ^ s ≠ 0) := by
  have hB : 2 ^ (32 * k) = B ^ k := by rw [Nat.pow_mul]
  have h0 : 0 < B ^ k := Nat.pow_pos (by decide)
  rw [Nat.pow_add, hB]
  constructor
  · rw [← Nat.div_div_eq_div_mul, Nat.add_mul_div_left _ _ h0, Nat.div_eq_of_lt hL, Nat.zero_add]
  · have e : (L + B ^ k * V) % (B ^ k * 2 ^ s) = L + B ^ k * (V % 2 ^ s) := by
      rw [Nat.mod_mul, Nat.add_mul_div_left _ _ h0, Nat.div_eq_of_lt hL, Nat.zero_add, Nat.add_mul_mod_self_left, Nat.mod_eq_of_lt hL]
    rw [e]
    constructor
    · intro h
      rcases Nat.eq_zero_or_pos L with hl | hl
      · rcases Nat.eq_zero_or_pos (V % 2 ^ s) with hv | hv
        · rw [hl, hv] at h; simp at h
        · right; omega
      · left; omega
    · rintro (h | h)
      · omega
      · have := Nat.mul_pos h0 (show 0 < V % 2 ^ s by omega); omega
theorem and_mask (x s : Nat) (hx : x < 4294967296) (hs : s < 32) : bits BinOp.and IntKind.u32 (x : Int) ((2 ^ s - 1 : Nat) : Int) = ((x % 2 ^ s : Nat) : Int) := by
  have h1 : 2 ^ s ≤ 2 ^ 31 := Nat.pow_le_pow_right (by decide) (by omega)
  rw [(bits_and_u32 x (2 ^ s - 1) hx (by omega)).1, Nat.and_two_pow_sub_one_eq_mod]
end Go.Proofs.YtiglekomfgfilaaGreatDoor.Na

/- Plain Lean: a text of digits as a number. -/
namespace Go.Proofs.YtiglekomfgfilaaGreatDoor.Na
set_option linter.all false
open Go
def isD (c : UInt8) : Bool := decide (48 ≤ c.toNat) && decide (c.toNat ≤ 57)
def num (t : List UInt8) : Nat := t.foldl (fun a c => 10 * a + (c.toNat - 48)) 0
def parse (t : List UInt8) : List Nat × Int := if t = [] ∨ t.all isD = false then ([], 3) else fits (num t)
theorem num_from (t : List UInt8) : ∀ a, t.foldl (fun a c => 10 * a + (c.toNat - 48)) a = a * 10 ^ t.length + num t := by
  induction t with
  | nil => intro a; simp [num]
  | cons c t ih =>
    intro a
    have h2 : num (c :: t) = (c.toNat - 48) * 10 ^ t.length + num t := by
      rw [num, List.foldl_cons, Nat.mul_zero, Nat.zero_add, ih]
    rw [List.foldl_cons, ih, h2, List.length_cons, Nat.pow_succ, Nat.add_mul]
    rw [show 10 * a * 10 ^ t.length = a * (10 ^ t.length * 10) by rw [Nat.mul_comm 10 a, Nat.mul_assoc, Nat.mul_comm 10]]
    omega
theorem num_app (a b : List UInt8) : num (a ++ b) = num a * 10 ^ b.length + num b := by
  rw [num, List.foldl_append, num_from]; rfl
theorem num_lt (t : List UInt8) (h : t.all isD = true) : num t < 10 ^ t.length := by
  induction t with
  | nil => simp [num]
  | cons c t ih =>
    rw [List.all_cons, Bool.and_eq_true] at h
    have h1 := ih h.2
    have hc : c.toNat - 48 ≤ 9 := by
      have := h.1; simp only [isD, Bool.and_eq_true, decide_eq_true_eq] at this; omega
    rw [num, List.foldl_cons, Nat.mul_zero, Nat.zero_add, num_from, List.length_cons, Nat.pow_succ]
    have := Nat.mul_le_mul_right (10 ^ t.length) hc
    omega
theorem num_ge (c : UInt8) (t : List UInt8) (h : isD c = true) (h0 : c ≠ 48) : 10 ^ t.length ≤ num (c :: t) := by
  have hc : 1 ≤ c.toNat - 48 := by
    have h1 : c.toNat ≠ 48 := fun e => h0 (UInt8.toNat_inj.1 (by rw [e]; rfl))
    simp only [isD, Bool.and_eq_true, decide_eq_true_eq] at h; omega
  rw [num, List.foldl_cons, Nat.mul_zero, Nat.zero_add, num_from]
  have := Nat.mul_le_mul_right (10 ^ t.length) hc
  omega
theorem num_trim (t : List UInt8) : num (t.dropWhile (· == 48)) = num t := by
  induction t with
  | nil => rfl
  | cons c t ih =>
    by_cases h : (c == 48) = true
    · have hc : c = 48 := by simpa using h
      subst hc
      rw [List.dropWhile_cons, if_pos (by rfl), ih]; rfl
    · rw [List.dropWhile_cons, if_neg (by simpa using h)]
end Go.Proofs.YtiglekomfgfilaaGreatDoor.Na

/- Plain Lean: a text of digits, nine at a time. -/
namespace Go.Proofs.YtiglekomfgfilaaGreatDoor.Na
set_option linter.all false
open Go
theorem parseUint_num (l : List UInt8) : ∀ (a : Nat), l.all isD = true → a * 10 ^ l.length + 10 ^ l.length ≤ 1000000000000000000 → Lib.parseUint10 a l = .ok (a * 10 ^ l.length + num l) := by
  induction l with
  | nil => intro a _ _; simp [Lib.parseUint10, num]
  | cons c l ih =>
    intro a hd hb
    rw [List.all_cons, Bool.and_eq_true] at hd
    have hc : 48 ≤ c.toNat ∧ c.toNat ≤ 57 := by
      have := hd.1; simp only [isD, Bool.and_eq_true, decide_eq_true_eq] at this; exact this
    have hp : 1 ≤ 10 ^ l.length := Nat.one_le_pow _ _ (by decide)
    have hn : num (c :: l) = (c.toNat - 48) * 10 ^ l.length + num l := by
      rw [num, List.foldl_cons, Nat.mul_zero, Nat.zero_add, num_from]
    rw [List.length_cons, Nat.pow_succ] at hb ⊢
    have hb2 : a * (10 ^ l.length * 10) = (a * 10) * 10 ^ l.length := by rw [Nat.mul_comm (10 ^ l.length) 10, Nat.mul_assoc]
    have hstep : (a * 10 + (c.toNat - 48)) * 10 ^ l.length + 10 ^ l.length ≤ a * (10 ^ l.length * 10) + 10 ^ l.length * 10 := by
      rw [hb2, Nat.add_mul]
      have : (c.toNat - 48) * 10 ^ l.length ≤ 9 * 10 ^ l.length := Nat.mul_le_mul_right _ (by omega)
      omega
    have ha : a ≤ 100000000000000000 := by
      have : a * 10 ≤ a * 10 * 10 ^ l.length := Nat.le_mul_of_pos_right _ hp
      omega
    rw [Lib.parseUint10, if_pos ⟨hc.1, hc.2⟩, if_neg (by omega), if_neg (by omega), ih _ hd.2 (by omega), hn, hb2, Nat.add_mul, Nat.add_assoc]
theorem atoi_num (l : List UInt8) (hd : l.all isD = true) (hne : l ≠ []) (hl : l.length ≤ 9) : Lib.atoiAll l = .ok (num l : Nat) := by
  have h4 : 10 ^ l.length ≤ 10 ^ 9 := Nat.pow_le_pow_right (by decide) hl
  have h1 := parseUint_num l 0 hd (by omega)
  rw [Nat.zero_mul, Nat.zero_add] at h1
  have h2 := num_lt l hd
  cases l with
  | nil => exact absurd rfl hne
  | cons c r =>
    rw [List.all_cons, Bool.and_eq_true] at hd
    have hc : 48 ≤ c.toNat ∧ c.toNat ≤ 57 := by
      have := hd.1; simp only [isD, Bool.and_eq_true, decide_eq_true_eq] at this; exact this
    have h43 : ¬ (c.toNat = 43 ∨ c.toNat = 45) := by omega
    have h45 : ¬ c.toNat = 45 := by omega
    have h5 : Lib.parseMag (if c.toNat = 43 ∨ c.toNat = 45 then r else c :: r) = .ok (num (c :: r)) := by
      rw [if_neg h43, Lib.parseMag, if_neg (by simp), h1]
    unfold Lib.atoiAll
    simp only []
    rw [h5]
    simp [h45]; omega
def dset : List UInt8 := [48, 49, 50, 51, 52, 53, 54, 55, 56, 57]
theorem isD_set (c : UInt8) : dset.contains c = isD c := by
  obtain ⟨k, hk⟩ : ∃ k : Nat, k = c.toNat := ⟨_, rfl⟩
  have h1 : ∀ d : UInt8, (c = d) ↔ k = d.toNat := fun d => by rw [hk]; exact UInt8.toNat_inj.symm
  rw [Bool.eq_iff_iff]
  simp only [dset, List.contains_iff_mem, List.mem_cons, List.not_mem_nil, or_false, isD, Bool.and_eq_true, decide_eq_true_eq, h1, ← hk, UInt8.toNat_ofNat]
  omega
theorem dropWhile_nil {α : Type} (p : α → Bool) (l : List α) : l.dropWhile p = [] ↔ l.all p = true := by
  induction l with
  | nil => simp
  | cons a l ih =>
    by_cases h : p a = true
    · rw [List.dropWhile_cons, if_pos h, ih, List.all_cons, h, Bool.true_and]
    · rw [List.dropWhile_cons, if_neg h, List.all_cons]; simp [h]
theorem trimS_nil (l cs : List UInt8) : Lib.trimS l cs = [] ↔ l.all (cs.contains ·) = true := by
  rw [Lib.trimS, Lib.trimLeftS, dropWhile_nil, Lib.trimRightS, List.all_reverse]
  have h := List.takeWhile_append_dropWhile (p := (cs.contains ·)) (l := l.reverse)
  have h2 : (l.reverse.takeWhile (cs.contains ·)).all (cs.contains ·) = true := by
    exact List.all_takeWhile
  have h3 : l.all (cs.contains ·) = l.reverse.all (cs.contains ·) := List.all_reverse.symm
  rw [h3]
  conv => rhs; rw [← h]
  rw [List.all_append, h2, Bool.true_and]
theorem trim_digits (l : List UInt8) : Lib.trimS l dset = [] ↔ l.all isD = true := by
  rw [trimS_nil]
  have : (fun c => dset.contains c) = isD := funext isD_set
  rw [this]
theorem all_dropWhile (l : List UInt8) (h : l.all isD = true) : (l.dropWhile (· == 48)).all isD = true := by
  rw [List.all_eq_true] at h ⊢
  exact fun x hx => h x ((List.dropWhile_sublist _).subset hx)
theorem head_dropWhile (l : List UInt8) (c : UInt8) (t : List UInt8) (h : l.dropWhile (· == 48) = c :: t) : c ≠ 48 := by
  induction l with
  | nil => simp at h
  | cons a l ih =>
    by_cases ha : (a == 48) = true
    · rw [List.dropWhile_cons, if_pos ha] at h; exact ih h
    · rw [List.dropWhile_cons, if_neg ha] at h
      injection h with h1 h2
      subst h1
      simpa using ha
theorem pow_pow_le (a b m n k : Nat) (h : a ≤ b ^ n) (hk : n * m ≤ k) (hb : 0 < b) : a ^ m ≤ b ^ k := by
  have := Nat.pow_le_pow_left h m
  rw [← Nat.pow_mul] at this
  exact Nat.le_trans this (Nat.pow_le_pow_right hb hk)
theorem pow_big (k : Nat) (h : 2560 ≤ k) : B ^ 256 ≤ 10 ^ k := pow_pow_le B 10 256 10 k (by decide) h (by decide)
theorem num_long (l : List UInt8) (hd : l.all isD = true) (h : 3000 < (l.dropWhile (· == 48)).length) : fits (num l) = ([], 2) := by
  rw [← num_trim]
  have hd2 := all_dropWhile l hd
  cases e : l.dropWhile (· == 48) with
  | nil => rw [e] at h; simp at h
  | cons c t =>
    have h1 := head_dropWhile l c t e
    rw [e] at h hd2
    rw [List.all_cons, Bool.and_eq_true] at hd2
    have h2 := num_ge c t hd2.1 h1
    rw [List.length_cons] at h
    have h3 := pow_big t.length (by omega)
    rw [fits, if_pos]
    exact limbs_len_gt _ _ (Nat.le_trans h3 h2)
theorem fits_more {a b : Nat} (h : fits a = ([], 2)) (h2 : a ≤ b) : fits b = ([], 2) := by
  by_cases h1 : 256 < (limbs a).length
  · rw [fits, if_pos]
    refine limbs_len_gt _ _ (Nat.le_trans ?_ h2)
    exact Nat.le_of_not_lt fun hl => by have := (limbs_len_iff a 256).2 hl; omega
  · rw [fits, if_neg h1] at h
    injection h with _ h
    exact absurd h (by decide)
theorem num_split (l : List UInt8) (k n : Nat) : num (l.take (k + n)) = num (l.take k) * 10 ^ ((l.drop k).take n).length + num ((l.drop k).take n) := by
  rw [← num_app, List.take_add]
theorem num_pre (l : List UInt8) (k : Nat) : num (l.take k) ≤ num l := by
  have := num_app (l.take k) (l.drop k)
  rw [List.take_append_drop] at this
  rw [this]
  have := Nat.mul_le_mul_left (num (l.take k)) (Nat.one_le_pow (l.drop k).length 10 (by decide))
  omega
end Go.Proofs.YtiglekomfgfilaaGreatDoor.Na

/- Plain Lean: decimals as lists of digits; no program in sight. -/
namespace Go.Proofs.YtiglekomfgfilaaGreatDoor.Dc
set_option linter.all false
abbrev Bs := List UInt8
def isDig (c : UInt8) : Bool := decide (48 ≤ (c.toNat : Int)) && decide ((c.toNat : Int) ≤ 57)
def allDig (l : Bs) : Bool := l.all isDig
def right (l : Bs) (x : Int) : Bool :=
  if l = [] then x == 0
  else decide (l.length ≤ 1100) && (decide (-100000 ≤ x) && (decide (x ≤ 100000) && (allDig l && ((l[0]? != some 48) && (l[l.length - 1]? != some 48)))))
theorem right_nil (l : Bs) (x : Int) (h : l.length = 0) : right l x = (x == 0) := by
  have : l = [] := List.length_eq_zero_iff.1 h
  simp [right, this]
theorem right_false (l : Bs) (x : Int) (h : 0 < l.length) (h' : 1100 < l.length ∨ x < -100000 ∨ 100000 < x ∨ allDig l = false ∨ l[0]? = some 48 ∨ l[l.length - 1]? = some 48) : right l x = false := by
  have hne : l ≠ [] := by intro e; simp [e] at h
  rw [right, if_neg hne]
  rcases h' with h' | h' | h' | h' | h' | h'
  · rw [decide_eq_false (by omega)]; rfl
  · rw [decide_eq_false (p := -100000 ≤ x) (by omega)]; simp
  · rw [decide_eq_false (p := x ≤ 100000) (by omega)]; simp
  · rw [h']; simp
  · rw [h']; simp
  · rw [h']; simp
theorem right_true (l : Bs) (x : Int) (h : 0 < l.length) (h1 : l.length ≤ 1100) (h2 : -100000 ≤ x) (h3 : x ≤ 100000) (h4 : allDig l = true) (h5 : l[0]? ≠ some 48) (h6 : l[l.length - 1]? ≠ some 48) : right l x = true := by
  have hne : l ≠ [] := by intro e; simp [e] at h
  rw [right, if_neg hne, h4]
  simp [h1, h2, h3, h5, h6]
theorem get?_bytes (s : ByteArray) (k : Nat) (h : k < s.size) : s.data.toList[k]? = some s[k] := by
  simp [ByteArray.getElem_eq_getElem_data, h]
theorem last?_bytes (s : ByteArray) (h : 0 < s.size) : s.data.toList[s.data.toList.length - 1]? = some s[s.size - 1] := by
  rw [show s.data.toList.length = s.size by simp]; exact get?_bytes s _ (by omega)
theorem u8_of_int {c d : UInt8} (h : (c.toNat : Int) = d.toNat) : c = d := UInt8.toNat_inj.1 (by omega)
theorem int_of_u8 {c d : UInt8} (h : c = d) : (c.toNat : Int) = d.toNat := by rw [h]
theorem right_bytes_false (s : ByteArray) (x : Int) (h0 : 0 < s.size) (h : 1100 < s.size ∨ x < -100000 ∨ 100000 < x ∨ (s[0].toNat : Int) = 48 ∨ (s[s.size - 1].toNat : Int) = 48) : right s.data.toList x = false := by
  have hl : s.data.toList.length = s.size := by simp
  refine right_false _ _ (by omega) ?_
  rcases h with h | h | h | h | h
  · exact .inl (by omega)
  · exact .inr (.inl h)
  · exact .inr (.inr (.inl h))
  · exact .inr (.inr (.inr (.inr (.inl (by rw [get?_bytes s 0 h0]; exact congrArg some (u8_of_int h))))))
  · exact .inr (.inr (.inr (.inr (.inr (by rw [last?_bytes s h0]; exact congrArg some (u8_of_int h))))))
theorem right_bytes_nodig (s : ByteArray) (x : Int) (k : Nat) (hk : k < s.size) (h : isDig s[k] = false) : right s.data.toList x = false := by
  have hl : s.data.toList.length = s.size := by simp
  refine right_false _ _ (by omega) (.inr (.inr (.inr (.inl ?_))))
  rw [allDig, List.all_eq_false]
  exact ⟨s[k], List.mem_of_getElem? (get?_bytes s k hk), by simp [h]⟩
theorem right_bytes_true (s : ByteArray) (x : Int) (h0 : 0 < s.size) (a1 : s.size ≤ 1100) (a2 : -100000 ≤ x) (a3 : x ≤ 100000) (a4 : ¬ (s[0].toNat : Int) = 48) (a5 : ¬ (s[s.size - 1].toNat : Int) = 48) (a6 : allDig s.data.toList = true) : right s.data.toList x = true := by
  have hl : s.data.toList.length = s.size := by simp
  exact right_true _ _ (by omega) (by omega) a2 a3 a6 (by rw [get?_bytes s 0 h0]; intro h; exact a4 (int_of_u8 (Option.some.inj h))) (by rw [last?_bytes s h0]; intro h; exact a5 (int_of_u8 (Option.some.inj h)))
theorem hasSuffix_zero (s : ByteArray) (h0 : 0 < s.size) : Lib.hasSuffix s.data.toList [48] = decide ((s[s.size - 1].toNat : Int) = 48) := by
  have h1 := last?_bytes s h0
  have hne : s.data.toList ≠ [] := by intro e; rw [e] at h1; cases h1
  rw [Lib.hasSuffix, Bool.eq_iff_iff, List.isSuffixOf_iff_suffix, decide_eq_true_iff]
  constructor
  · rintro ⟨t, ht⟩
    rw [← ht] at h1
    simp at h1
    rw [← h1]; rfl
  · intro h
    have h2 : s[s.size - 1] = 48 := u8_of_int (by simpa using h)
    refine ⟨s.data.toList.dropLast, ?_⟩
    have h3 := List.dropLast_concat_getLast hne
    have h4 : s.data.toList.getLast hne = 48 := by
      have h5 := List.getLast?_eq_getElem? (l := s.data.toList)
      rw [h1, List.getLast?_eq_some_getLast hne, h2] at h5
      exact Option.some.inj h5
    rw [h4] at h3
    exact h3
theorem right_plain_false (s : ByteArray) (x : Int) (h0 : 0 < s.size) (h : allDig s.data.toList = false) : right s.data.toList x = false := by
  have hl : s.data.toList.length = s.size := by simp
  exact right_false _ _ (by omega) (.inr (.inr (.inr (.inl h))))
def point (l : Bs) (x : Int) : Int := if right l x then l.length + x else 0
theorem point_eq (s : ByteArray) (x : Int) : point s.data.toList x = if right s.data.toList x then (s.size : Int) + x else 0 := by
  simp [point]
theorem right_len {l : Bs} {x : Int} (h : right l x = true) : l.length ≤ 1100 := by
  rw [right] at h
  split at h
  · rename_i e; simp [e]
  · simp only [Bool.and_eq_true, decide_eq_true_eq] at h; exact h.1
theorem right_exp {l : Bs} {x : Int} (h : right l x = true) : -100000 ≤ x ∧ x ≤ 100000 := by
  rw [right] at h
  split at h
  · have : x = 0 := by simpa using h
    omega
  · simp only [Bool.and_eq_true, decide_eq_true_eq] at h; exact ⟨h.2.1, h.2.2.1⟩
theorem right_dig {l : Bs} {x : Int} (h : right l x = true) : allDig l = true := by
  rw [right] at h
  split at h
  · rename_i e; simp [e, allDig]
  · simp only [Bool.and_eq_true, decide_eq_true_eq] at h; exact h.2.2.2.1
end Go.Proofs.YtiglekomfgfilaaGreatDoor.Dc

/- Plain Lean: what is made of digits. -/
namespace Go.Proofs.YtiglekomfgfilaaGreatDoor.Dc
set_option linter.all false
structure Res where
  n : Bool
  l : Bs
  x : Int
  e : Int
def Res.val (r : Res) : Value := .tuple #[.agg #[.bool r.n, .string ⟨r.l.toArray⟩, .int .i64 r.x], .int .i64 r.e]
def lead (l : Bs) : Bs := Lib.trimLeftB l 48
def core (l : Bs) : Bs := Lib.trimRightB (lead l) 48
def tz (l : Bs) : Nat := (lead l).length - (core l).length
def mk (n : Bool) (l : Bs) (x : Int) : Res :=
  if allDig l = true then
    if core l = [] then ⟨n, [], 0, 0⟩
    else if right (core l) (x + tz l) = true then ⟨n, core l, x + tz l, 0⟩
    else ⟨false, [], 0, 2⟩
  else ⟨false, [], 0, 3⟩
theorem mk_bad {n : Bool} {l : Bs} {x : Int} (h : ¬ allDig l = true) : mk n l x = ⟨false, [], 0, 3⟩ := by rw [mk, if_neg h]
theorem mk_zero {n : Bool} {l : Bs} {x : Int} (h : allDig l = true) (h1 : core l = []) : mk n l x = ⟨n, [], 0, 0⟩ := by rw [mk, if_pos h, if_pos h1]
theorem mk_ok {n : Bool} {l : Bs} {x : Int} (h : allDig l = true) (h1 : core l ≠ []) (h2 : right (core l) (x + tz l) = true) : mk n l x = ⟨n, core l, x + tz l, 0⟩ := by rw [mk, if_pos h, if_neg h1, if_pos h2]
theorem mk_over {n : Bool} {l : Bs} {x : Int} (h : allDig l = true) (h1 : core l ≠ []) (h2 : ¬ right (core l) (x + tz l) = true) : mk n l x = ⟨false, [], 0, 2⟩ := by rw [mk, if_pos h, if_neg h1, if_neg h2]
theorem dropWhile_all (a r : Bs) (h : ∀ c ∈ a, c = 48) : (a ++ r).dropWhile (· == 48) = r.dropWhile (· == 48) :=
  List.dropWhile_append_of_pos (fun c hc => by simp [h c hc])
theorem dropWhile_head (b : Bs) (h : ∀ c, b[0]? = some c → c ≠ 48) : b.dropWhile (· == 48) = b := by
  cases b with
  | nil => rfl
  | cons c b => rw [List.dropWhile_cons_of_neg]; simpa using h c rfl
theorem tz_int (l : Bs) : (tz l : Int) = (lead l).length - (core l).length := by
  have : (core l).length ≤ (lead l).length := by
    rw [core, Lib.trimRightB, List.length_reverse]
    have := (List.dropWhile_sublist (· == 48) (l := (lead l).reverse)).length_le
    simpa using this
  unfold tz; omega
theorem core_split (l a b z : Bs) (hl : l = a ++ (b ++ z)) (ha : ∀ c ∈ a, c = 48) (hz : ∀ c ∈ z, c = 48) (hb : b ≠ []) (h1 : ∀ c, b[0]? = some c → c ≠ 48) (h2 : ∀ c, b[b.length - 1]? = some c → c ≠ 48) :
    lead l = b ++ z ∧ core l = b := by
  have e1 : lead l = b ++ z := by
    rw [lead, Lib.trimLeftB, hl, dropWhile_all _ _ ha]
    refine dropWhile_head _ fun c hc => h1 c ?_
    have : 0 < b.length := List.length_pos_iff.2 hb
    rwa [List.getElem?_append_left this] at hc
  refine ⟨e1, ?_⟩
  rw [core, e1, Lib.trimRightB, List.reverse_append, dropWhile_all _ _ (fun c hc => hz c (by simpa using hc)), dropWhile_head, List.reverse_reverse]
  intro c hc
  refine h2 c ?_
  have : 0 < b.length := List.length_pos_iff.2 hb
  rwa [List.getElem?_reverse this] at hc
theorem core_zero (l : Bs) (h : ∀ c ∈ l, c = 48) : core l = [] := by
  have : lead l = [] := by
    rw [lead, Lib.trimLeftB]; have := dropWhile_all l [] h; simpa using this
  rw [core, this]; rfl
theorem lead_mem {l : Bs} {c : UInt8} (h : c ∈ lead l) : c ∈ l := by
  rw [lead, Lib.trimLeftB] at h
  exact (List.dropWhile_sublist _).mem h
theorem core_mem {l : Bs} {c : UInt8} (h : c ∈ core l) : c ∈ l := by
  rw [core, Lib.trimRightB, List.mem_reverse] at h
  have := (List.dropWhile_sublist _).mem h
  exact lead_mem (by simpa using this)
theorem core_len (l : Bs) : (core l).length ≤ (lead l).length := by
  rw [core, Lib.trimRightB, List.length_reverse]
  have := (List.dropWhile_sublist (· == 48) (l := (lead l).reverse)).length_le
  simpa using this
theorem lead_len (l : Bs) : (lead l).length ≤ l.length := by
  rw [lead, Lib.trimLeftB]
  exact (List.dropWhile_sublist _).length_le
theorem tz_le (l : Bs) : tz l ≤ l.length := by have := lead_len l; unfold tz; omega
theorem dropWhile_get0 (l : Bs) (c : UInt8) (h : (l.dropWhile (· == 48))[0]? = some c) : c ≠ 48 := by
  induction l with
  | nil => simp at h
  | cons a l ih =>
    by_cases ha : a = 48
    · rw [List.dropWhile_cons_of_pos (by simpa using ha)] at h; exact ih h
    · rw [List.dropWhile_cons_of_neg (by simpa using ha)] at h
      simp at h; rw [← h]; exact ha
theorem core_last (l : Bs) (c : UInt8) (h : (core l)[(core l).length - 1]? = some c) : c ≠ 48 := by
  rw [core, Lib.trimRightB] at h
  generalize hd : (lead l).reverse.dropWhile (· == 48) = d at h
  have hd0 := fun c => dropWhile_get0 (lead l).reverse c
  rw [hd] at hd0
  cases d with
  | nil => simp at h
  | cons a d =>
    rw [List.getElem?_reverse (by simp)] at h
    exact hd0 c (by simpa using h)
theorem lead_core (l : Bs) (h : core l ≠ []) : ∃ z, lead l = core l ++ z ∧ ∀ c ∈ z, c = 48 := by
  have hs := List.takeWhile_append_dropWhile (p := (· == 48)) (l := (lead l).reverse)
  refine ⟨((lead l).reverse.takeWhile (· == 48)).reverse, ?_, ?_⟩
  · rw [core, Lib.trimRightB, ← List.reverse_append, hs, List.reverse_reverse]
  · intro c hc
    rw [List.mem_reverse] at hc
    have := List.all_eq_true.1 (List.all_takeWhile (l := (lead l).reverse) (p := (· == 48))) c hc
    simpa using this
theorem core_first (l : Bs) (c : UInt8) (hne : core l ≠ []) (h : (core l)[0]? = some c) : c ≠ 48 := by
  obtain ⟨z, hz, _⟩ := lead_core l hne
  have h2 : (lead l)[0]? = some c := by
    rw [hz, List.getElem?_append_left (List.length_pos_iff.2 hne)]; exact h
  rw [lead, Lib.trimLeftB] at h2
  exact dropWhile_get0 _ _ h2
theorem core_dig {l : Bs} (h : allDig l = true) : allDig (core l) = true := by
  rw [allDig, List.all_eq_true] at *
  exact fun c hc => h c (core_mem hc)
theorem right_core {l : Bs} (x : Int) (h : allDig l = true) (hne : core l ≠ []) : right (core l) x = true ↔ ((core l).length ≤ 1100 ∧ -100000 ≤ x ∧ x ≤ 100000) := by
  constructor
  · intro hr; exact ⟨right_len hr, right_exp hr⟩
  · rintro ⟨a, b, c⟩
    exact right_true _ _ (List.length_pos_iff.2 hne) a b c (core_dig h) (fun e => core_first l _ hne e rfl) (fun e => core_last l _ e rfl)
theorem far_not {l : Bs} {x : Int} (hl : l.length ≤ 1000000000) (hne : core l ≠ []) (h : x < -1099511627776 ∨ 1099511627776 ≤ x) : ¬ right (core l) (x + tz l) = true ∧ ¬ right (core l) x = true := by
  have h1 := tz_le l
  exact ⟨fun hr => by have := right_exp hr; omega, fun hr => by have := right_exp hr; omega⟩
def is0 (c : UInt8) : Bool := c == 48
theorem is0_mem {l : Bs} (h : l.all is0 = true) : ∀ c ∈ l, c = 48 := by
  intro c hc
  have := List.all_eq_true.1 h c hc
  simpa [is0] using this
theorem is0_iff (c : UInt8) : is0 c = true ↔ (c.toNat : Int) = 48 := by
  constructor
  · intro h; have : c = 48 := by simpa [is0] using h
    rw [this]; rfl
  · intro h; have : c = 48 := u8_of_int (by simpa using h)
    rw [this]; rfl
theorem cut_core_zero (l : Bs) (f : Nat) (h1 : (l.take f).all is0 = true) (h2 : (l.drop f).all is0 = true) : core l = [] := by
  refine core_zero l fun c hc => ?_
  rw [← List.take_append_drop f l] at hc
  rcases List.mem_append.1 hc with h | h
  · exact is0_mem h1 c h
  · exact is0_mem h2 c h
theorem cut_core (s : ByteArray) (f t : Nat) (hft : f < t) (hts : t ≤ s.size) (h1 : (s.data.toList.take f).all is0 = true) (h2 : (s.data.toList.drop t).all is0 = true)
    (h3 : ¬ (s[f].toNat : Int) = 48) (h4 : ¬ (s[t - 1].toNat : Int) = 48) : core s.data.toList = (s.extract f t).data.toList ∧ (tz s.data.toList : Int) = s.size - t := by
  have hl : s.data.toList.length = s.size := by simp
  have hb : (s.extract f t).data.toList = (s.data.toList.drop f).take (t - f) := Lib.extract_data s f t
  have hlen : ((s.data.toList.drop f).take (t - f)).length = t - f := by rw [List.length_take, List.length_drop, hl]; omega
  have hsp : s.data.toList = s.data.toList.take f ++ ((s.data.toList.drop f).take (t - f) ++ s.data.toList.drop t) := by
    have e1 := List.take_append_drop f s.data.toList
    have e2 := List.take_append_drop (t - f) (s.data.toList.drop f)
    rw [List.drop_drop, show f + (t - f) = t by omega] at e2
    rw [e2, e1]
  have hg : ∀ i, i < t - f → ((s.data.toList.drop f).take (t - f))[i]? = s.data.toList[f + i]? := fun i hi => by
    rw [List.getElem?_take_of_lt hi, List.getElem?_drop]
  obtain ⟨c1, c2⟩ := core_split s.data.toList (s.data.toList.take f) ((s.data.toList.drop f).take (t - f)) (s.data.toList.drop t) hsp (is0_mem h1) (is0_mem h2)
    (by intro e; rw [e] at hlen; simp at hlen; omega)
    (fun c hc => by
      rw [hg 0 (by omega), Nat.add_zero, get?_bytes s f (by omega)] at hc
      intro e; exact h3 (by rw [Option.some.inj hc, e]; rfl))
    (fun c hc => by
      rw [hlen, hg (t - f - 1) (by omega), show f + (t - f - 1) = t - 1 by omega, get?_bytes s (t - 1) (by omega)] at hc
      intro e; exact h4 (by rw [Option.some.inj hc, e]; rfl))
  refine ⟨by rw [c2, hb], ?_⟩
  rw [tz_int, c1, c2, List.length_append, hlen, List.length_drop, hl]; omega
end Go.Proofs.YtiglekomfgfilaaGreatDoor.Dc

/- Plain Lean: rounding decimals, digit by digit. -/
namespace Go.Proofs.YtiglekomfgfilaaGreatDoor.Dc
set_option linter.all false
def odd (l : Bs) : Bool := match l.getLast? with
  | some c => c.toNat % 2 == 1
  | none => false
def half (rest : Bs) : Int := Lib.compareBytes rest [53]
def up (neg : Bool) (kept rest : Bs) (way : Int) : Bool :=
  if rest = [] then false
  else if way = 0 then decide (0 < half rest) || (decide (half rest = 0) && odd kept)
  else if way = 1 then decide (0 ≤ half rest)
  else if way = 3 then true
  else if way = 4 then neg
  else decide (way = 5) && !neg
def no9 (l : Bs) : Bs := Lib.trimRightB l 57
def more (l : Bs) : Bs :=
  match (no9 l).getLast? with
  | none => 49 :: Lib.repeatL [48] (l.length - (no9 l).length)
  | some c => (no9 l).dropLast ++ [c + 1] ++ Lib.repeatL [48] (l.length - (no9 l).length)
def cut (n : Bool) (l : Bs) (x k way : Int) : Res :=
  let kept := l.take k.toNat
  let rest := if k < 0 then 48 :: l else l.drop k.toNat
  mk n (if up n kept rest way then more kept else kept) (x + l.length - k)
theorem and_one (c : UInt8) : bits BinOp.and IntKind.u8 (c.toNat : Int) 1 = ((c.toNat % 2 : Nat) : Int) := by
  have h : ∀ n : Fin 256, bits BinOp.and IntKind.u8 ((n : Nat) : Int) 1 = (((n : Nat) % 2 : Nat) : Int) := by decide +kernel
  exact h ⟨c.toNat, c.toNat_lt⟩
theorem odd_nil {l : Bs} (h : l.length = 0) : odd l = false := by
  rw [List.length_eq_zero_iff.1 h]; rfl
theorem odd_last (s : ByteArray) (h : 0 < s.size) : odd s.data.toList = (((s[s.size - 1].toNat % 2 : Nat) : Int) == 1) := by
  have h1 := last?_bytes s h
  rw [odd, List.getLast?_eq_getElem?, h1]
  simp only []
  rw [Bool.eq_iff_iff]; simp; omega
theorem no9_len (l : Bs) : (no9 l).length ≤ l.length := by
  rw [no9, Lib.trimRightB, List.length_reverse]
  have := (List.dropWhile_sublist (· == 57) (l := l.reverse)).length_le
  simpa using this
theorem no9_mem {l : Bs} {c : UInt8} (h : c ∈ no9 l) : c ∈ l := by
  rw [no9, Lib.trimRightB, List.mem_reverse] at h
  have := (List.dropWhile_sublist _).mem h
  simpa using this
theorem more_nil {l : Bs} (h : no9 l = []) : more l = 49 :: Lib.repeatL [48] (l.length - (no9 l).length) := by
  unfold more
  split
  · rfl
  · rename_i c hc; rw [h] at hc; cases hc
theorem more_cons {l : Bs} {c : UInt8} (h : (no9 l).getLast? = some c) : more l = (no9 l).dropLast ++ [c + 1] ++ Lib.repeatL [48] (l.length - (no9 l).length) := by
  unfold more
  split
  · rename_i hc; rw [h] at hc; cases hc
  · rename_i d hc; rw [h] at hc; cases hc; rfl
theorem dig_mem {l : Bs} (h : allDig l = true) {c : UInt8} (hc : c ∈ l) : 48 ≤ c.toNat ∧ c.toNat ≤ 57 := by
  have := List.all_eq_true.1 h c hc
  simp [isDig] at this; omega
theorem more_parts (s : ByteArray) (hd : allDig s.data.toList = true) : ∃ T Z : ByteArray, T = ⟨(no9 s.data.toList).toArray⟩ ∧ Z = ⟨(Lib.repeatL [48] (s.size - T.size)).toArray⟩ ∧ T.size ≤ s.size ∧
    ((T.size = 0 ∧ (⟨#[49]⟩ : ByteArray) ++ Z = ⟨(more s.data.toList).toArray⟩) ∨
     (∃ (c : UInt8) (h : 0 < T.size), T[T.size - 1] = c ∧ 48 ≤ c.toNat ∧ c.toNat ≤ 57 ∧ T.extract 0 (T.size - 1) ++ ⟨#[c + 1]⟩ ++ Z = ⟨(more s.data.toList).toArray⟩)) := by
  have hl : s.data.toList.length = s.size := by simp
  have hsz : (⟨(no9 s.data.toList).toArray⟩ : ByteArray).size = (no9 s.data.toList).length := by simp [ByteArray.size]
  refine ⟨_, _, rfl, rfl, by rw [hsz, ← hl]; exact no9_len _, ?_⟩
  cases he : (no9 s.data.toList).getLast? with
  | none =>
    have hn : no9 s.data.toList = [] := by simpa using he
    refine .inl ⟨by rw [hsz, hn]; rfl, ?_⟩
    rw [hsz, more_nil hn, hl, show (⟨#[49]⟩ : ByteArray) = ⟨[49].toArray⟩ from rfl, ByteArray.mk_append_mk]; rfl
  | some c =>
    have hc := dig_mem hd (no9_mem (List.mem_of_getLast? he))
    have hpos : 0 < (no9 s.data.toList).length := by
      cases e : no9 s.data.toList with
      | nil => rw [e] at he; cases he
      | cons => simp
    refine .inr ⟨c, by rw [hsz]; exact hpos, ?_, hc.1, hc.2, ?_⟩
    · have h2 := get?_bytes (⟨(no9 s.data.toList).toArray⟩ : ByteArray) ((⟨(no9 s.data.toList).toArray⟩ : ByteArray).size - 1) (by rw [hsz]; omega)
      rw [List.getLast?_eq_getElem?] at he
      have h3 : (⟨(no9 s.data.toList).toArray⟩ : ByteArray).data.toList = no9 s.data.toList := rfl
      rw [h3] at h2
      have h4 : (no9 s.data.toList)[(⟨(no9 s.data.toList).toArray⟩ : ByteArray).size - 1]? = some c := by rw [hsz]; exact he
      rw [h4] at h2
      exact (Option.some.inj h2).symm
    · rw [more_cons he, ByteArray.extract_mk, show (⟨#[c + 1]⟩ : ByteArray) = ⟨[c + 1].toArray⟩ from rfl, ByteArray.mk_append_mk, ByteArray.mk_append_mk, hsz, List.drop_zero, Nat.sub_zero, List.dropLast_eq_take, hl]
def sig (n : Bool) (l : Bs) (x k way : Int) : Res :=
  if right l x = true ∧ 0 ≤ way ∧ way ≤ 5 ∧ 1 ≤ k then
    if l.length ≤ k then ⟨n, l, x, 0⟩ else cut n l x k way
  else ⟨false, [], 0, 1⟩
def place (n : Bool) (l : Bs) (x k way : Int) : Res :=
  if right l x = true ∧ 0 ≤ way ∧ way ≤ 5 ∧ -100000 ≤ k ∧ k ≤ 100000 then
    if l ≠ [] ∧ point l x + k < l.length then cut n l x (point l x + k) way else ⟨n, l, x, 0⟩
  else ⟨false, [], 0, 1⟩
theorem encode_next (c : UInt8) (h1 : 48 ≤ c.toNat) (h2 : c.toNat ≤ 57) : Utf8.encode ((c.toNat : Int) + 1) = ⟨#[c + 1]⟩ := by
  have h : ∀ n : Fin 256, (n : Nat) ≤ 57 → Utf8.encode (((n : Nat) : Int) + 1) = ⟨#[UInt8.ofNat n + 1]⟩ := by decide +kernel
  have := h ⟨c.toNat, c.toNat_lt⟩ h2
  simpa using this
theorem contains_digs (c : UInt8) : ([48, 49, 50, 51, 52, 53, 54, 55, 56, 57] : List UInt8).contains c = isDig c := by
  have h : ∀ n : Fin 256, ([48, 49, 50, 51, 52, 53, 54, 55, 56, 57] : List UInt8).contains (UInt8.ofNat n) = isDig (UInt8.ofNat n) := by decide +kernel
  have := h ⟨c.toNat, c.toNat_lt⟩
  simpa using this
theorem dropWhile_digs (l : Bs) : Lib.trimLeftS l ([48, 49, 50, 51, 52, 53, 54, 55, 56, 57] : List UInt8) = l.dropWhile isDig := by
  rw [Lib.trimLeftS]; congr 1; funext c; exact contains_digs c
theorem take_tw (l : Bs) (p : UInt8 → Bool) (k : Nat) (h : k + (l.dropWhile p).length = l.length) : l.take k = l.takeWhile p := by
  have e := congrArg List.length (List.takeWhile_append_dropWhile (p := p) (l := l))
  rw [List.length_append] at e
  have := List.take_left' (l₂ := l.dropWhile p) (show (l.takeWhile p).length = k by omega)
  rwa [List.takeWhile_append_dropWhile] at this
theorem dig_take {l : Bs} (h : allDig l = true) (k : Nat) : allDig (l.take k) = true := by
  rw [allDig, List.all_eq_true] at *
  exact fun c hc => h c (List.mem_of_mem_take hc)
theorem more_len (l : Bs) : (more l).length ≤ l.length + 1 := by
  have h := no9_len l
  unfold more
  split
  · rw [List.length_cons, Lib.repeatL_length]; simp
  · rename_i c hc
    have hp : 0 < (no9 l).length := by
      cases e : no9 l with
      | nil => rw [e] at hc; cases hc
      | cons => simp
    rw [List.length_append, List.length_append, List.length_dropLast, Lib.repeatL_length]; simp; omega
theorem cut_rest (s : ByteArray) (k : Int) (h : k ≤ 0) : (⟨(Lib.repeatL [48] (max 0 (min (-k) 1)).toNat).toArray⟩ : ByteArray) ++ s = ⟨(if k < 0 then 48 :: s.data.toList else s.data.toList.drop k.toNat).toArray⟩ := by
  have hs : s = ⟨s.data.toList.toArray⟩ := rfl
  by_cases hk : k < 0
  · rw [if_pos hk, show (max 0 (min (-k) 1)).toNat = 1 by omega]
    conv => lhs; rw [hs]
    rw [ByteArray.mk_append_mk]; rfl
  · rw [if_neg hk, show (max 0 (min (-k) 1)).toNat = 0 by omega, show k.toNat = 0 by omega]
    conv => lhs; rw [hs]
    rw [ByteArray.mk_append_mk]; rfl
end Go.Proofs.YtiglekomfgfilaaGreatDoor.Dc
