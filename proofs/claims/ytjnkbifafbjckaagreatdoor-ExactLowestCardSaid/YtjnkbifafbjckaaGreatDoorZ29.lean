/- The decimal of a number is read as the number, has at most 767 digits, and its other sign is the number's. -/
import Derived.Test.YtjnkbifafbjckaaGreatDoorZ26
import Derived.Test.YtjnkbifafbjckaaGreatDoorZ28
import Derived.Laws.Bits64
import Derived.Test.YtjnkbifafbjckaaGreatDoorZ18
import Derived.Test.YtjnkbifafbjckaaGreatDoorZ21
import Derived.Lib.Small
namespace Go.Proofs.YtjnkbifafbjckaaGreatDoor
set_option linter.all false
open Go.RowKit
attribute [local go_sem] Dc.Res.val

set_option maxRecDepth 100000 in
set_option maxHeartbeats 4000000 in
theorem l9_back_none (x : Nat) (w : World) (ht : Tab w) (hx : x < 18446744073709551616) (hk : 3 ≤ Fl.kind x) :
    Calls Tryz.prog 3 #[.int .u64 x] w (RetB (.bool true) w) := by
  have HS := Lib.hid (l9_shown_any w ht)
  have h1 := fun w1 (hb : Below w.heap.size w w1) => ex_dec_any x hx w1 (ht.below hb)
  have hd : Fl.dec x = ⟨false, [], 0, 11⟩ := by rw [Fl.dec, if_pos hk]
  rw [hd] at h1
  have h2 := fun w1 => r3_kind_any x hx w1
  obtain ⟨K, hK⟩ : ∃ K, K = Fl.kind x := ⟨_, rfl⟩
  rw [← hK] at h2 hk
  have hki : decide (3 ≤ (K : Int)) = true := decide_eq_true (by omega)
  have hki2 : decide (3 ≤ K) = true := decide_eq_true hk
  have H1 := Lib.hid h1; have H2 := Lib.hid h2
  clear h1 h2 hd hK
  go_enter Tryz.func3, Tryz.ntmps3
  go_wp2_with (first
    | (go_at_call 17; (with_reducible refine (HS.out).mono ?_); rintro e w1 ⟨rfl, hb_w1⟩; have hB_w1 : Below (w).heap.size (w) w1 := Below.trans (by (repeat (first | exact Below.refl _ _ | assumption | refine Below.setCell ?_ (by first | omega | (simp <;> omega)) _ | refine Below.alloc ?_ (by first | omega | (simp <;> omega)) _ | refine Below.drew ?_ | refine below_drewN' ?_ _))) (hb_w1.mono (by first | omega | (simp <;> omega))); obtain ⟨hc_w1, hf_w1⟩ := bcell hb_w1; have hz_w1 := hb_w1.size; (try simp only [size_drew', size_drewN', World.size_alloc, World.size_setCell] at hz_w1))
    | (go_at_call 18; (with_reducible refine (H1.out _ (by (repeat (first | exact Below.refl _ _ | assumption | refine Below.setCell ?_ (by first | omega | (simp <;> omega)) _ | refine Below.alloc ?_ (by first | omega | (simp <;> omega)) _ | refine Below.drew ?_ | refine below_drewN' ?_ _)))).mono ?_); rintro e w2 ⟨rfl, hb_w2⟩; have hB_w2 : Below (w).heap.size (w) w2 := Below.trans (by (repeat (first | exact Below.refl _ _ | assumption | refine Below.setCell ?_ (by first | omega | (simp <;> omega)) _ | refine Below.alloc ?_ (by first | omega | (simp <;> omega)) _ | refine Below.drew ?_ | refine below_drewN' ?_ _))) (hb_w2.mono (by first | omega | (simp <;> omega))); obtain ⟨hc_w2, hf_w2⟩ := bcell hb_w2; have hz_w2 := hb_w2.size; (try simp only [size_drew', size_drewN', World.size_alloc, World.size_setCell] at hz_w2))
    | (go_at_call 19; (with_reducible refine (H2.out _).mono ?_); rintro e w' ⟨rfl, rfl⟩))
  go_ret
  exact RetB.of rfl (by (repeat (first | exact Below.refl _ _ | assumption | refine Below.setCell ?_ (by first | omega | (simp <;> omega)) _ | refine Below.alloc ?_ (by first | omega | (simp <;> omega)) _ | refine Below.drew ?_ | refine below_drewN' ?_ _)))

set_option maxRecDepth 100000 in
set_option maxHeartbeats 4000000 in
theorem l9_back_fine (x : Nat) (w : World) (ht : Tab w) (hx : x < 18446744073709551616) (hk : Fl.kind x < 3) :
    Calls Tryz.prog 3 #[.int .u64 x] w (RetB (.bool true) w) := by
  have HS := Lib.hid (l9_shown_any w ht)
  have h1 := fun w1 (hb : Below w.heap.size w w1) => ex_dec_any x hx w1 (ht.below hb)
  have h3 := fun w1 (hb : Below w.heap.size w w1) => ex_dec_any (Fl.flip x) (Fl.flip_lt hx) w1 (ht.below hb)
  obtain ⟨hI, -⟩ := Fl.dec_worth x hk
  have hlen := Fl.dec_len x
  have hbd := Fl.bits_dec x hk
  obtain ⟨hs1, hs2⟩ := Fl.of_sign (Fl.neg x) (!Fl.neg x) (Fl.mant x) (Fl.expn x) hI.ok
  have hd : Fl.dec x = ⟨Fl.neg x, (Fl.of (Fl.neg x) (Fl.mant x) (Fl.expn x)).l, (Fl.of (Fl.neg x) (Fl.mant x) (Fl.expn x)).x, 0⟩ := by
    rw [Fl.dec, if_neg (by omega), Fl.okd, hs2]
  have hd2 : Fl.dec (Fl.flip x) = ⟨!Fl.neg x, (Fl.of (Fl.neg x) (Fl.mant x) (Fl.expn x)).l, (Fl.of (Fl.neg x) (Fl.mant x) (Fl.expn x)).x, 0⟩ := by
    rw [Fl.dec, Fl.flip_kind hx, if_neg (by omega), Fl.flip_neg hx, Fl.flip_mant hx, Fl.flip_expn hx, hs1, Fl.okd]
  rw [hd] at h1
  rw [hd2] at h3
  have hright := hI.right
  have hsum : Fl.wsign (Fl.neg x) + x % 9223372036854775808 = x := by
    unfold Fl.wsign Fl.neg
    by_cases h : 9223372036854775808 ≤ x
    · rw [decide_eq_true h, if_pos rfl]; omega
    · rw [decide_eq_false h, if_neg (by decide)]; omega
  obtain ⟨n, hn⟩ : ∃ n, n = Fl.neg x := ⟨_, rfl⟩
  obtain ⟨l, hl⟩ : ∃ l, l = (Fl.of (Fl.neg x) (Fl.mant x) (Fl.expn x)).l := ⟨_, rfl⟩
  obtain ⟨X, hX⟩ : ∃ X, X = (Fl.of (Fl.neg x) (Fl.mant x) (Fl.expn x)).x := ⟨_, rfl⟩
  rw [← hl, ← hX] at h1 h3 hright hbd
  rw [← hl] at hlen
  rw [← hn] at h1 h3 hsum
  obtain ⟨S, hS⟩ : ∃ S : ByteArray, S = ⟨l.toArray⟩ := ⟨_, rfl⟩
  have hSl : S.data.toList = l := by rw [hS]
  have hSs : S.size ≤ 767 := by rw [← bs_length, hSl]; exact hlen
  have h1' : ∀ w1, Below w.heap.size w w1 → Calls Tryz.prog 18 #[.int .u64 x] w1 (RetB (.tuple #[.agg #[.bool n, .string S, .int .i64 X], .int .i64 0]) w1) := fun w1 hb => by rw [hS]; exact h1 w1 hb
  have h3' : ∀ w1, Below w.heap.size w w1 → Calls Tryz.prog 18 #[.int .u64 (Fl.flip x)] w1 (RetB (.tuple #[.agg #[.bool !n, .string S, .int .i64 X], .int .i64 0]) w1) := fun w1 hb => by rw [hS]; exact h3 w1 hb
  have h4 := fun w1 => d_right_any n S X w1 (by omega)
  rw [hSl, hright] at h4
  have h5 := fun w1 => r8_bits_any n S X w1 (by rw [hSl]; exact hright)
  rw [hSl, hbd, hsum] at h5
  have h2 := fun w1 => r3_kind_any x hx w1
  obtain ⟨K, hK⟩ : ∃ K, K = Fl.kind x := ⟨_, rfl⟩
  rw [← hK] at h2 hk
  have hki : decide (3 ≤ (K : Int)) = false := decide_eq_false (by omega)
  have hki2 : decide (3 ≤ K) = false := decide_eq_false (by omega)
  have hSd : decide ((S.size : Int) ≤ 767) = true := decide_eq_true (by omega)
  have hxo : bits .xor .u64 (x : Int) 9223372036854775808 = ((Fl.flip x : Nat) : Int) := by
    have := bits_xor_u64_nat x 9223372036854775808 hx (by decide)
    rw [Fl.flip_xor hx] at this
    exact this
  obtain ⟨F, hF⟩ : ∃ F, F = Fl.flip x := ⟨_, rfl⟩
  rw [← hF] at h3' hxo
  have H1 := Lib.hid h1'; have H2 := Lib.hid h2; have H3 := Lib.hid h3'; have H4 := Lib.hid h4; have H5 := Lib.hid h5
  clear hF
  clear h1 h2 hd hK h3 h1' h3' h4 h5 hS hSl hSs hlen hbd hs1 hs2 hd2 hright hsum hn hl hX hI
  go_enter Tryz.func3, Tryz.ntmps3
  go_wp2_with (first
    | (go_at_call 17; (with_reducible refine (HS.out).mono ?_); rintro e w1 ⟨rfl, hb_w1⟩; have hB_w1 : Below (w).heap.size (w) w1 := Below.trans (by (repeat (first | exact Below.refl _ _ | assumption | refine Below.setCell ?_ (by first | omega | (simp <;> omega)) _ | refine Below.alloc ?_ (by first | omega | (simp <;> omega)) _ | refine Below.drew ?_ | refine below_drewN' ?_ _))) (hb_w1.mono (by first | omega | (simp <;> omega))); obtain ⟨hc_w1, hf_w1⟩ := bcell hb_w1; have hz_w1 := hb_w1.size; (try simp only [size_drew', size_drewN', World.size_alloc, World.size_setCell] at hz_w1))
    | (go_at_call 18; (with_reducible refine (H1.out _ (by (repeat (first | exact Below.refl _ _ | assumption | refine Below.setCell ?_ (by first | omega | (simp <;> omega)) _ | refine Below.alloc ?_ (by first | omega | (simp <;> omega)) _ | refine Below.drew ?_ | refine below_drewN' ?_ _)))).mono ?_); rintro e w2 ⟨rfl, hb_w2⟩; have hB_w2 : Below (w).heap.size (w) w2 := Below.trans (by (repeat (first | exact Below.refl _ _ | assumption | refine Below.setCell ?_ (by first | omega | (simp <;> omega)) _ | refine Below.alloc ?_ (by first | omega | (simp <;> omega)) _ | refine Below.drew ?_ | refine below_drewN' ?_ _))) (hb_w2.mono (by first | omega | (simp <;> omega))); obtain ⟨hc_w2, hf_w2⟩ := bcell hb_w2; have hz_w2 := hb_w2.size; (try simp only [size_drew', size_drewN', World.size_alloc, World.size_setCell] at hz_w2))
    | (go_at_call 19; (with_reducible refine (H2.out _).mono ?_); rintro e w' ⟨rfl, rfl⟩)
    | (go_at_call 20; (with_reducible refine (H4.out _).mono ?_); rintro e w4 ⟨rfl, hb_w4⟩; have hB_w4 : Below (w).heap.size (w) w4 := Below.trans (by (repeat (first | exact Below.refl _ _ | assumption | refine Below.setCell ?_ (by first | omega | (simp <;> omega)) _ | refine Below.alloc ?_ (by first | omega | (simp <;> omega)) _ | refine Below.drew ?_ | refine below_drewN' ?_ _))) (hb_w4.mono (by first | omega | (simp <;> omega))); obtain ⟨hc_w4, hf_w4⟩ := bcell hb_w4; have hz_w4 := hb_w4.size; (try simp only [size_drew', size_drewN', World.size_alloc, World.size_setCell] at hz_w4); have hl0_w4 : w2.heap.size < w4.heap.size := (by omega); have hm0_w4 : w2.heap.size ≤ w4.heap.size := (by omega); have hn0_w4 : ¬ w2.heap.size = w4.heap.size := (by omega); have hq0_w4 : ¬ w4.heap.size = w2.heap.size := (by omega); have hr0_w4 := fun o => hc_w4 (w2.heap.size) o (by (try simp only [size_drew', size_drewN', World.size_alloc, World.size_setCell]); omega); have hg0_w4 := fun o => hf_w4 (w2.heap.size) o (by (try simp only [size_drew', size_drewN', World.size_alloc, World.size_setCell]); omega))
    | (go_at_call 18; (with_reducible refine (H3.out _ (by (repeat (first | exact Below.refl _ _ | assumption | refine Below.setCell ?_ (by first | omega | (simp <;> omega)) _ | refine Below.alloc ?_ (by first | omega | (simp <;> omega)) _ | refine Below.drew ?_ | refine below_drewN' ?_ _)))).mono ?_); rintro e w5 ⟨rfl, hb_w5⟩; have hB_w5 : Below (w).heap.size (w) w5 := Below.trans (by (repeat (first | exact Below.refl _ _ | assumption | refine Below.setCell ?_ (by first | omega | (simp <;> omega)) _ | refine Below.alloc ?_ (by first | omega | (simp <;> omega)) _ | refine Below.drew ?_ | refine below_drewN' ?_ _))) (hb_w5.mono (by first | omega | (simp <;> omega))); obtain ⟨hc_w5, hf_w5⟩ := bcell hb_w5; have hz_w5 := hb_w5.size; (try simp only [size_drew', size_drewN', World.size_alloc, World.size_setCell] at hz_w5); have hl0_w5 : w2.heap.size < w5.heap.size := (by omega); have hm0_w5 : w2.heap.size ≤ w5.heap.size := (by omega); have hn0_w5 : ¬ w2.heap.size = w5.heap.size := (by omega); have hq0_w5 : ¬ w5.heap.size = w2.heap.size := (by omega); have hr0_w5 := fun o => hc_w5 (w2.heap.size) o (by (try simp only [size_drew', size_drewN', World.size_alloc, World.size_setCell]); omega); have hg0_w5 := fun o => hf_w5 (w2.heap.size) o (by (try simp only [size_drew', size_drewN', World.size_alloc, World.size_setCell]); omega))
    | (go_at_call 21; (with_reducible refine (H5.out _).mono ?_); rintro e w6 ⟨rfl, hb_w6⟩; have hB_w6 : Below (w).heap.size (w) w6 := Below.trans (by (repeat (first | exact Below.refl _ _ | assumption | refine Below.setCell ?_ (by first | omega | (simp <;> omega)) _ | refine Below.alloc ?_ (by first | omega | (simp <;> omega)) _ | refine Below.drew ?_ | refine below_drewN' ?_ _))) (hb_w6.mono (by first | omega | (simp <;> omega))); obtain ⟨hc_w6, hf_w6⟩ := bcell hb_w6; have hz_w6 := hb_w6.size; (try simp only [size_drew', size_drewN', World.size_alloc, World.size_setCell] at hz_w6); have hl0_w6 : w2.heap.size < w6.heap.size := (by omega); have hm0_w6 : w2.heap.size ≤ w6.heap.size := (by omega); have hn0_w6 : ¬ w2.heap.size = w6.heap.size := (by omega); have hq0_w6 : ¬ w6.heap.size = w2.heap.size := (by omega); have hr0_w6 := fun o => hc_w6 (w2.heap.size) o (by (try simp only [size_drew', size_drewN', World.size_alloc, World.size_setCell]); omega); have hg0_w6 := fun o => hf_w6 (w2.heap.size) o (by (try simp only [size_drew', size_drewN', World.size_alloc, World.size_setCell]); omega); have hl1_w6 : w5.heap.size < w6.heap.size := (by omega); have hm1_w6 : w5.heap.size ≤ w6.heap.size := (by omega); have hn1_w6 : ¬ w5.heap.size = w6.heap.size := (by omega); have hq1_w6 : ¬ w6.heap.size = w5.heap.size := (by omega); have hr1_w6 := fun o => hc_w6 (w5.heap.size) o (by (try simp only [size_drew', size_drewN', World.size_alloc, World.size_setCell]); omega); have hg1_w6 := fun o => hf_w6 (w5.heap.size) o (by (try simp only [size_drew', size_drewN', World.size_alloc, World.size_setCell]); omega)))
  go_ret
  exact RetB.of rfl (by (repeat (first | exact Below.refl _ _ | assumption | refine Below.setCell ?_ (by first | omega | (simp <;> omega)) _ | refine Below.alloc ?_ (by first | omega | (simp <;> omega)) _ | refine Below.drew ?_ | refine below_drewN' ?_ _)))
theorem l9_back_any (x : Nat) (w : World) (ht : Tab w) (hx : x < 18446744073709551616) :
    Calls Tryz.prog 3 #[.int .u64 x] w (RetB (.bool true) w) := by
  by_cases h : 3 ≤ Fl.kind x
  · exact l9_back_none x w ht hx h
  · exact l9_back_fine x w ht hx (by omega)
end Go.Proofs.YtjnkbifafbjckaaGreatDoor

namespace Go.Proofs.YtjnkbifafbjckaaGreatDoor
set_option linter.all false
open Go.RowKit

theorem or2_any (b : Nat) (x y : Int) (w : World) (h0 : w.cell? ⟨b, 0, none⟩ = some (.int .i64 x)) (h1 : w.cell? ⟨b, 1, none⟩ = some (.int .i64 y)) :
    Calls Tryz.prog 148 #[.slice (some ⟨b, 0, none⟩) 2 2] w (Ret0 (.int .i64 (if x = 0 then y else x)) w) := by
  obtain ⟨r, hr⟩ : ∃ r, r = if x = 0 then y else x := ⟨_, rfl⟩
  rw [← hr]
  have HR := Lib.hid hr; clear hr
  go_enter Tryz.func148, Tryz.ntmps148
  go_wp2_with fail
  go_loop [5, 8] (fun _ i => ∃ k : Nat, k ≤ 2 ∧ i = .int .i64 k ∧ (0 < k → x = 0) ∧ (1 < k → y = 0)) (fun _ i => 2 - (intOf i).toNat)
  case atStart => exact ⟨0, by omega, rfl, by omega, by omega⟩
  case round =>
    obtain ⟨k, hk, rfl, h2, h3⟩ := hrel
    have H2 := Lib.hid h2; have H3 := Lib.hid h3; clear h2 h3
    have hcase : k = 0 ∨ k = 1 ∨ k = 2 := by omega
    rcases hcase with rfl | rfl | rfl
    · by_cases hx : x = 0
      · have e : ((x : Int) != 0) = false := by simpa using hx
        have HX := Lib.hid hx; clear hx
        go_wp2
        go_round
        case rel => exact ⟨1, by omega, by rfl, fun _ => HX.out, by omega⟩
        case measure => simp [intOf]
      · have e : ((x : Int) != 0) = true := by simpa using hx
        have HX := Lib.hid hx; clear hx
        go_wp2
        go_ret
        exact Ret0.of (congrArg (Value.int .i64) (by rw [HR.out, if_neg HX.out]))
    · by_cases hy : y = 0
      · have e : ((y : Int) != 0) = false := by simpa using hy
        have HX := Lib.hid hy; clear hy
        go_wp2
        go_round
        case rel => exact ⟨2, by omega, by rfl, fun _ => H2.out (by omega), fun _ => HX.out⟩
        case measure => simp [intOf]
      · have e : ((y : Int) != 0) = true := by simpa using hy
        have HX := Lib.hid hy; clear hy
        go_wp2
        go_ret
        exact Ret0.of (congrArg (Value.int .i64) (by rw [HR.out, if_pos (H2.out (by omega))]))
    · go_wp2
      go_ret
      exact Ret0.of (congrArg (Value.int .i64) (by rw [HR.out, if_pos (H2.out (by omega)), H3.out (by omega)]))

theorem cmpc (x y : Int) (w : World) : Calls Tryz.prog 99 #[.int .i64 x, .int .i64 y] w (Ret0 (.int .i64 (Lib.compareInt x y)) w) :=
  (Tryz.cmp_Compare_int x y w).mono fun _ _ e => ⟨e.1, e.2.symm⟩
theorem strc (s t : ByteArray) (w : World) : Calls Tryz.prog 149 #[.string s, .string t] w (Ret0 (.int .i64 (Lib.compareBytes s.data.toList t.data.toList)) w) :=
  (Tryz.strings_Compare s t w).mono fun _ _ e => ⟨e.1, e.2.symm⟩

theorem sg_int (a b : Nat) : Lib.compareInt a b = Dc.sg a b := by
  unfold Lib.compareInt Dc.sg
  by_cases h : a < b
  · rw [if_pos h, if_pos (by omega)]
  · rw [if_neg h, if_neg (by omega)]
    by_cases h2 : b < a
    · rw [if_pos h2, if_pos (by omega)]
    · rw [if_neg h2, if_neg (by omega)]

set_option maxRecDepth 100000 in
set_option maxHeartbeats 2000000 in
theorem d_size_any (na nb : Bool) (s t : ByteArray) (x y : Int) (w : World) (hs : Dc.right s.data.toList x = true) (ht : Dc.right t.data.toList y = true) :
    Calls Tryz.prog 100 #[.agg #[.bool na, .string s, .int .i64 x], .agg #[.bool nb, .string t, .int .i64 y]] w (RetB (.int .i64 (Dc.sizeC s.data.toList x t.data.toList y)) w) := by
  have hls := Dc.right_len hs
  have hlt := Dc.right_len ht
  have hxs := Dc.right_exp hs
  have hxt := Dc.right_exp ht
  rw [bs_length] at hls hlt
  obtain ⟨hx1, hx2⟩ := hxs
  obtain ⟨hy1, hy2⟩ := hxt
  have hp1 := fun w => d_point_any na s x w (by omega)
  have hp2 := fun w => d_point_any nb t y w (by omega)
  rw [Dc.point_eq, if_pos hs] at hp1
  rw [Dc.point_eq, if_pos ht] at hp2
  obtain ⟨r, hr⟩ : ∃ r, r = Dc.sizeC s.data.toList x t.data.toList y := ⟨_, rfl⟩
  rw [← hr]
  have h1 := Lib.hid hp1; have h2 := Lib.hid hp2; clear hp1 hp2 hs ht
  by_cases h0 : s.size = 0 ∨ t.size = 0
  · have hor : s.data.toList = [] ∨ t.data.toList = [] := by
      rcases h0 with h | h
      · exact .inl (List.length_eq_zero_iff.1 (by rw [bs_length]; exact h))
      · exact .inr (List.length_eq_zero_iff.1 (by rw [bs_length]; exact h))
    rw [Dc.sizeC, if_pos hor, ← sg_int, bs_length, bs_length] at hr
    have HR := Lib.hid hr; clear hr hor
    by_cases e : s.size = 0
    · have e1 := isEmpty_of_zero e
      have HE := Lib.hid e; have H0 := Lib.hid h0; clear e h0
      go_enter Tryz.func100, Tryz.ntmps100
      go_wp2_with (go_at_call 99; (with_reducible refine (cmpc _ _ _).mono ?_); rintro e w' ⟨rfl, rfl⟩)
      go_ret
      exact RetB.of (congrArg (Value.int .i64) HR.out.symm) (by (repeat (first | exact Below.refl _ _ | assumption | refine Below.setCell ?_ (by first | omega | (simp <;> omega)) _ | refine Below.alloc ?_ (by first | omega | (simp <;> omega)) _ | refine Below.drew ?_ | refine below_drewN' ?_ _)))
    · have e1 := isEmpty_of_pos (s := s) (by omega)
      have e2 := isEmpty_of_zero (s := t) (by omega)
      have HE := Lib.hid e; have H0 := Lib.hid h0; clear e h0
      go_enter Tryz.func100, Tryz.ntmps100
      go_wp2_with (go_at_call 99; (with_reducible refine (cmpc _ _ _).mono ?_); rintro e w' ⟨rfl, rfl⟩)
      go_ret
      exact RetB.of (congrArg (Value.int .i64) HR.out.symm) (by (repeat (first | exact Below.refl _ _ | assumption | refine Below.setCell ?_ (by first | omega | (simp <;> omega)) _ | refine Below.alloc ?_ (by first | omega | (simp <;> omega)) _ | refine Below.drew ?_ | refine below_drewN' ?_ _)))
  · have e1 := isEmpty_of_pos (s := s) (by omega)
    have e2 := isEmpty_of_pos (s := t) (by omega)
    have hor : ¬ (s.data.toList = [] ∨ t.data.toList = []) := by
      rintro (h | h)
      · have := congrArg List.length h; rw [bs_length, List.length_nil] at this; omega
      · have := congrArg List.length h; rw [bs_length, List.length_nil] at this; omega
    rw [Dc.sizeC, if_neg hor, bs_length, bs_length] at hr
    obtain ⟨cb, hcb⟩ : ∃ c, c = Lib.compareBytes s.data.toList t.data.toList := ⟨_, rfl⟩
    obtain ⟨ci, hci⟩ : ∃ c, c = Lib.compareInt ((s.size : Int) + x) ((t.size : Int) + y) := ⟨_, rfl⟩
    rw [← hcb] at hr
    have hrr : r = if ci = 0 then cb else ci := by
      rw [hr, hci, Lib.compareInt]
      by_cases a1 : (s.size : Int) + x < t.size + y
      · rw [if_pos a1, if_pos a1]; rfl
      · rw [if_neg a1, if_neg a1]
        by_cases a2 : (t.size : Int) + y < s.size + x
        · rw [if_pos a2, if_pos a2]; rfl
        · rw [if_neg a2, if_neg a2]; rfl
    have c1 : ∀ w, Calls Tryz.prog 99 #[.int .i64 ((s.size : Int) + x), .int .i64 ((t.size : Int) + y)] w (Ret0 (.int .i64 ci) w) := fun w => by rw [hci]; exact cmpc _ _ w
    have c2 : ∀ w, Calls Tryz.prog 149 #[.string s, .string t] w (Ret0 (.int .i64 cb) w) := fun w => by rw [hcb]; exact strc _ _ w
    have c3 : ∀ b w, w.cell? ⟨b, 0, none⟩ = some (.int .i64 ci) → w.cell? ⟨b, 1, none⟩ = some (.int .i64 cb) → Calls Tryz.prog 148 #[.slice (some ⟨b, 0, none⟩) 2 2] w (Ret0 (.int .i64 r) w) := fun b w q1 q2 => by rw [hrr]; exact or2_any b ci cb w q1 q2
    have C1 := Lib.hid c1; have C2 := Lib.hid c2; have C3 := Lib.hid c3; clear c1 c2 c3 hr hrr hcb hci h0 hor
    go_enter Tryz.func100, Tryz.ntmps100
    go_wp2_with fail
    go_region_held3 (fun w' => w'.cell? ⟨w.heap.size, 0, none⟩ = some (.bool na) ∧ w'.cell? ⟨w.heap.size, 1, none⟩ = some (.string s) ∧ w'.cell? ⟨w.heap.size, 2, none⟩ = some (.int .i64 x) ∧ w'.cell? ⟨w.heap.size + 1, 0, none⟩ = some (.bool nb) ∧ w'.cell? ⟨w.heap.size + 1, 1, none⟩ = some (.string t) ∧ w'.cell? ⟨w.heap.size + 1, 2, none⟩ = some (.int .i64 y)) (first | go_keep | (refine ⟨?_, ?_, ?_, ?_, ?_, ?_⟩ <;> first | (rw [hr0_w1]; assumption) | (rw [hr1_w1]; assumption) | (rw [hr0_w2]; assumption) | (rw [hr1_w2]; assumption))) (first
      | (go_at_call 145; (with_reducible refine (h1.out _).mono ?_); rintro e w1 ⟨rfl, hb_w1⟩; have hB_w1 : Below (w).heap.size (w) w1 := Below.trans (by (repeat (first | exact Below.refl _ _ | assumption | refine Below.setCell ?_ (by first | omega | (simp <;> omega)) _ | refine Below.alloc ?_ (by first | omega | (simp <;> omega)) _ | refine Below.drew ?_ | refine below_drewN' ?_ _))) (hb_w1.mono (by first | omega | (simp <;> omega))); obtain ⟨hc_w1, hf_w1⟩ := bcell hb_w1; have hz_w1 := hb_w1.size; (try simp only [size_drew', size_drewN', World.size_alloc, World.size_setCell] at hz_w1); have hl0_w1 : w.heap.size < w1.heap.size := (by omega); have hm0_w1 : w.heap.size ≤ w1.heap.size := (by omega); have hn0_w1 : ¬ w.heap.size = w1.heap.size := (by omega); have hq0_w1 : ¬ w1.heap.size = w.heap.size := (by omega); have hr0_w1 := fun o => hc_w1 (w.heap.size) o (by (try simp only [size_drew', size_drewN', World.size_alloc, World.size_setCell]); omega); have hg0_w1 := fun o => hf_w1 (w.heap.size) o (by (try simp only [size_drew', size_drewN', World.size_alloc, World.size_setCell]); omega); have hl1_w1 : w.heap.size + 1 < w1.heap.size := (by omega); have hm1_w1 : w.heap.size + 1 ≤ w1.heap.size := (by omega); have hn1_w1 : ¬ w.heap.size + 1 = w1.heap.size := (by omega); have hq1_w1 : ¬ w1.heap.size = w.heap.size + 1 := (by omega); have hr1_w1 := fun o => hc_w1 (w.heap.size + 1) o (by (try simp only [size_drew', size_drewN', World.size_alloc, World.size_setCell]); omega); have hg1_w1 := fun o => hf_w1 (w.heap.size + 1) o (by (try simp only [size_drew', size_drewN', World.size_alloc, World.size_setCell]); omega))
      | (go_at_call 145; (with_reducible refine (h2.out _).mono ?_); rintro e w2 ⟨rfl, hb_w2⟩; have hB_w2 : Below (w).heap.size (w) w2 := Below.trans (by (repeat (first | exact Below.refl _ _ | assumption | refine Below.setCell ?_ (by first | omega | (simp <;> omega)) _ | refine Below.alloc ?_ (by first | omega | (simp <;> omega)) _ | refine Below.drew ?_ | refine below_drewN' ?_ _))) (hb_w2.mono (by first | omega | (simp <;> omega))); obtain ⟨hc_w2, hf_w2⟩ := bcell hb_w2; have hz_w2 := hb_w2.size; (try simp only [size_drew', size_drewN', World.size_alloc, World.size_setCell] at hz_w2); have hl0_w2 : w.heap.size < w2.heap.size := (by omega); have hm0_w2 : w.heap.size ≤ w2.heap.size := (by omega); have hn0_w2 : ¬ w.heap.size = w2.heap.size := (by omega); have hq0_w2 : ¬ w2.heap.size = w.heap.size := (by omega); have hr0_w2 := fun o => hc_w2 (w.heap.size) o (by (try simp only [size_drew', size_drewN', World.size_alloc, World.size_setCell]); omega); have hg0_w2 := fun o => hf_w2 (w.heap.size) o (by (try simp only [size_drew', size_drewN', World.size_alloc, World.size_setCell]); omega); have hl1_w2 : w.heap.size + 1 < w2.heap.size := (by omega); have hm1_w2 : w.heap.size + 1 ≤ w2.heap.size := (by omega); have hn1_w2 : ¬ w.heap.size + 1 = w2.heap.size := (by omega); have hq1_w2 : ¬ w2.heap.size = w.heap.size + 1 := (by omega); have hr1_w2 := fun o => hc_w2 (w.heap.size + 1) o (by (try simp only [size_drew', size_drewN', World.size_alloc, World.size_setCell]); omega); have hg1_w2 := fun o => hf_w2 (w.heap.size + 1) o (by (try simp only [size_drew', size_drewN', World.size_alloc, World.size_setCell]); omega))
      | (go_at_call 99; (with_reducible refine (C1.out _).mono ?_); rintro e w' ⟨rfl, rfl⟩)
      | (go_at_call 149; (with_reducible refine (C2.out _).mono ?_); rintro e w' ⟨rfl, rfl⟩)
      | (go_at_call 148; (with_reducible refine (C3.out _ _ (by simp [go_sem]) (by simp [go_sem])).mono ?_); rintro e w' ⟨rfl, rfl⟩))
    all_goals go_wp2
    all_goals go_ways
    all_goals go_ret
    all_goals exact RetB.of rfl (by (repeat (first | exact Below.refl _ _ | assumption | refine Below.setCell ?_ (by first | omega | (simp <;> omega)) _ | refine Below.alloc ?_ (by first | omega | (simp <;> omega)) _ | refine Below.drew ?_ | refine below_drewN' ?_ _)))
end Go.Proofs.YtjnkbifafbjckaaGreatDoor
