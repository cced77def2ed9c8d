/- Shl, the main way. -/
import Derived.Test.YtcdndcbfmlnpjaaGreatDoorMk
namespace Go.Proofs.YtcdndcbfmlnpjaaGreatDoor
set_option linter.all false
open Go.RowKit

def ShiftR (g off N s : Nat) (O q : List Nat) (w : World) (e : Ending) (w' : World) : Prop := e = .returned (.tuple #[]) ∧ Below g w w' ∧ ∃ o', Blk w' g o' ∧ o'.length = off + N ∧ Na.OK o' ∧ o'.take off = O.take off ∧ ∃ cc, Na.val (o'.drop off) + Na.B ^ N * cc = Na.val (q.take N) * 2 ^ s

set_option maxHeartbeats 2000000 in
theorem na_shl_main (a : Option Addr) (c : Nat) (l : List Nat) (n : Nat) (w : World) (h : Sl w a c l) (hn : l.length ≤ 1000000) (hb : Na.big l = false) (hz : Na.val l ≠ 0) (ho : n ≤ 8192 ∧ Na.bitLen (Na.val l) + n ≤ 8192) :
    Calls Tryz.prog 27 #[.slice a l.length c, .int .i64 n] w (GivesE (Na.shl l n) w) := by
  have hB : Below w.heap.size w (w.alloc (Obj.cells #[Value.slice a l.length c] 26)) := (Below.refl _ _).alloc (Nat.le_refl _) _
  have e2 := Lib.hid (show Na.shl l n = (Na.limbs (Na.val l * 2 ^ n), 0) by rw [Na.shl, if_neg (by omega), hb, if_neg (by simp), if_neg hz, if_neg (by omega), Int.toNat_natCast])
  have H1 := Lib.hid (na_over1_any h hn false hb)
  have hr : Na.rt l ≠ 0 := fun e => hz ((Na.cut_nil_iff l).1 (List.eq_nil_of_length_eq_zero e))
  have H2 := na_right_any a c l _ (h.on hB) hn
  obtain ⟨rm, hrm⟩ : ∃ x, x = Na.rt l := ⟨_, rfl⟩
  rw [← hrm] at H2 hr
  have hr0 : ((rm : Int) == 0) = false := by simpa using hr
  have H2' := Lib.hid H2
  have H3 := na_len_any a c l _ (h.on hB) hn
  obtain ⟨bl, hbe⟩ : ∃ x, x = Na.bitLen (Na.val l) := ⟨_, rfl⟩
  rw [← hbe] at H3 ho
  have H3' := Lib.hid H3
  have H4 := na_cut_any a c l _ (h.on hB) hn
  have hl1 : (Na.cut l).length ≤ 256 := Nat.le_of_not_lt (of_decide_eq_false hb)
  have S1 := h.cut
  have V1 := Lib.hid (Na.val_cut (a := l))
  obtain ⟨q, hq⟩ : ∃ q, q = Na.cut l := ⟨_, rfl⟩
  rw [← hq] at H4 hl1 S1 V1
  obtain ⟨ln, hqn⟩ : ∃ n, q.length = n := ⟨_, rfl⟩
  rw [hqn] at H4 hl1
  have HQ := Lib.hid hqn
  have H4' := Lib.hid H4
  obtain ⟨p, hp⟩ : ∃ p, p = n / 32 := ⟨_, rfl⟩
  obtain ⟨s, hs⟩ : ∃ s, s = n % 32 := ⟨_, rfl⟩
  have hpi : (n : Int) / 32 = (p : Int) := by omega
  have hsi : (n : Int) % 32 = (s : Int) := by omega
  have hs2 : s < 32 := by omega
  have hp2 : p ≤ 256 := by omega
  have HN := Lib.hid (show n = 32 * p + s by omega)
  obtain ⟨ho1, ho2⟩ := ho
  have ho3 : ¬ 8192 < (bl : Int) + n := by omega
  have ho4 : ¬ 8192 < (n : Int) := by omega
  have ho5 : bl ≤ 8192 := by omega
  clear hb hz H2 hr H3 H4 hbe hrm hq hqn hp hs ho2
  go_enter Tryz.func27, Tryz.ntmps27
  go_wp2_with (first | (go_at_call 40; (with_reducible refine (H1.out).mono ?_); rintro e w' ⟨rfl, rfl⟩) | (go_at_call 37; (with_reducible refine (H2'.out).mono ?_); rintro e w' ⟨rfl, rfl⟩) | (go_at_call 15; (with_reducible refine (H3'.out).mono ?_); rintro e w' ⟨rfl, rfl⟩) | (go_at_call 38; (with_reducible refine (H4'.out).mono ?_); rintro e w' ⟨rfl, rfl⟩) | (at_make; refine mk_u32 rfl _ _ rfl _ _ (p + ln + 1) rfl rfl rfl rfl (by omega) ?_))
  intro w1 hK hgrow
  have HB1 := Lib.hid (hgrow.out _ _ hB (by simp [World.size_alloc]))
  have hK' := Lib.hid (show Blk w1 (w.heap.size + 1) (List.replicate (p + ln + 1) 0) by have := hK.out; simpa [World.size_alloc] using this)
  clear hgrow hB hK
  have hsh : Calls Tryz.prog 52 #[.slice (some ⟨w.heap.size + 1, p, none⟩) (p + ln + 1 - p) (p + ln + 1 - p), .slice a ln c, .int .i64 s] w1 (ShiftR (w.heap.size + 1) p (ln + 1) s (List.replicate (p + ln + 1) 0) q w1) := by
    rw [show p + ln + 1 - p = ln + 1 by omega]
    have := na_shift_any (w.heap.size + 1) p (ln + 1) (ln + 1) s c (List.replicate (p + ln + 1) 0) q a w1 hK'.out (by intro x hx; rw [List.eq_of_mem_replicate hx]; decide) (by simp; omega) (fun wr hb => S1.on (HB1.out.trans (hb.mono (by omega)))) hs2 (by have := HQ.out; omega) (by omega)
    rw [HQ.out] at this; exact this
  have HSH := Lib.hid hsh
  have HCUT := Lib.hid (fun w2 (e : Ending) (hr : ShiftR (w.heap.size + 1) p (ln + 1) s (List.replicate (p + ln + 1) 0) q w1 e w2) => (by
    obtain ⟨_, hb2, o', hk2, hl2, hok2, htk, cc, hval⟩ := hr
    have hb3 : Below w.heap.size w w2 := HB1.out.trans (hb2.mono (by omega))
    have hv : Na.val o' = Na.val l * 2 ^ n := by
      have hq1 : Na.val (q.take (ln + 1)) = Na.val l := by rw [List.take_of_length_le (by rw [HQ.out]; omega), V1.out]
      have hlt : Na.val l * 2 ^ s < Na.B ^ (ln + 1) := by
        have h1 := Na.val_lt q S1.ok
        rw [V1.out, HQ.out] at h1
        have h2 : 2 ^ s ≤ Na.B := Nat.le_trans (Nat.pow_le_pow_right (by decide) (show s ≤ 32 by omega)) (by decide)
        rw [Nat.pow_succ]
        exact Nat.lt_of_lt_of_le (Nat.mul_lt_mul_of_pos_right h1 (Nat.pow_pos (by decide))) (Nat.mul_le_mul_left _ h2)
      rw [hq1] at hval
      refine Na.shl_val o' [Na.val l] p s (ln + 1) cc _ ?_ (by omega) (by rw [hval]; simp [Na.val]) (by simpa [Na.val] using hlt) (by rw [HN.out]; simp [Na.val])
      rw [htk, List.take_replicate, Na.val_zeros]
    have hcut : Na.cut o' = Na.limbs (Na.val l * 2 ^ n) := by rw [Na.cut, hv]
    have hs3 := hk2.sl hok2 (c := p + ln + 1) (by omega)
    have hc := na_cut_any (some ⟨w.heap.size + 1, 0, none⟩) (p + ln + 1) o' w2 hs3 (by omega)
    have hs4 := hs3.cut
    rw [hl2, hcut] at hc
    rw [hcut] at hs4
    exact ⟨hc, hs4, hk2.own (by omega), hb3⟩ : Calls Tryz.prog 38 #[.slice (some ⟨w.heap.size + 1, 0, none⟩) (p + ln + 1) (p + ln + 1)] w2 (Ret0 (.slice (some ⟨w.heap.size + 1, 0, none⟩) (Na.limbs (Na.val l * 2 ^ n)).length (p + ln + 1)) w2) ∧
      Sl w2 (some ⟨w.heap.size + 1, 0, none⟩) (p + ln + 1) (Na.limbs (Na.val l * 2 ^ n)) ∧ Own w2 w.heap.size (some ⟨w.heap.size + 1, 0, none⟩) (Na.limbs (Na.val l * 2 ^ n)).length ∧ Below w.heap.size w w2))
  clear hsh
  go_wp2_with (first | (go_at_call 52; (with_reducible refine (HSH.out).mono ?_); intro e w2 hr; have HX := Lib.hid (HCUT.out w2 e hr); obtain ⟨rfl, -⟩ := hr) | (go_at_call 38; (with_reducible refine (HX.out.1).mono ?_); rintro e w' ⟨rfl, rfl⟩))
  refine bodyPost_ret (v := .tuple #[.slice (some ⟨w.heap.size + 1, 0, none⟩) (Na.limbs (Na.val l * 2 ^ n)).length (p + ln + 1), .int .i64 0]) (by simp [results, Tryz.results27, go_sem]) rfl (by rw [e2.out]; exact ⟨_, _, rfl, HX.out.2.1, HX.out.2.2.1, HX.out.2.2.2⟩)

theorem na_shl_any (a : Option Addr) (c : Nat) (l : List Nat) (n : Int) (w : World) (h : Sl w a c l) (hn : l.length ≤ 1000000) (hi : -9223372036854775808 ≤ n ∧ n ≤ 9223372036854775807) :
    Calls Tryz.prog 27 #[.slice a l.length c, .int .i64 n] w (GivesE (Na.shl l n) w) := by
  by_cases h0 : n < 0
  · exact na_shl_arg a c l n w h hn hi h0
  · cases hb : Na.big l with
    | true => exact na_shl_big a c l n w h hn hi (by omega) hb
    | false =>
      by_cases hz : Na.val l = 0
      · exact na_shl_zero a c l n w h hn hi (by omega) hb hz
      · by_cases ho : 8192 < n ∨ 8192 < (Na.bitLen (Na.val l) : Int) + n
        · exact na_shl_over a c l n w h hn hi (by omega) hb hz ho
        · obtain ⟨n', rfl⟩ : ∃ x : Nat, n = x := ⟨n.toNat, by omega⟩
          exact na_shl_main a c l n' w h hn hb hz (by omega)
end Go.Proofs.YtcdndcbfmlnpjaaGreatDoor
