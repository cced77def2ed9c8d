/- Pow. -/
import Derived.Test.YtcdndcbfmlnpjaaGreatDoorN10
namespace Go.Proofs.YtcdndcbfmlnpjaaGreatDoor
set_option linter.all false
open Go.RowKit

def powLoop (b n : Nat) (w : World) (ov iv : Value) (wr : World) : Prop := ∃ (k : Nat) (a : Option Addr) (c : Nat), k ≤ n ∧ iv = .int .i64 k ∧ ov = .slice a (Na.limbs (b ^ k)).length c ∧ (Na.limbs (b ^ k)).length ≤ 256 ∧ Hid (Sl wr a c (Na.limbs (b ^ k))) ∧ Hid (Own wr w.heap.size a (Na.limbs (b ^ k)).length) ∧ Hid (Below w.heap.size w wr)

theorem Na.limbs_one : Na.limbs 1 = [1] := by rw [Na.limbs_pos (by decide)]; simp [Na.B, Na.limbs_zero]

theorem blk_one (w : World) : Blk (w.alloc (Obj.cells #[Value.int IntKind.u32 1] 63)) w.heap.size [1] := by
  show (w.heap.push _)[w.heap.size]? = _; simp [u32s]

set_option maxHeartbeats 1000000 in
theorem na_pow_arg (b n : Int) (w : World) (h : b < 0 ∨ 1000000 < b ∨ n < 0) (hb : -9223372036854775808 ≤ b ∧ b ≤ 9223372036854775807) (hn : -9223372036854775808 ≤ n ∧ n ≤ 9223372036854775807) :
    Calls Tryz.prog 31 #[.int .i64 b, .int .i64 n] w (GivesE (Na.pow b n) w) := by
  have e2 := Lib.hid (show Na.pow b n = ([], 1) from if_pos h)
  have hend : GivesE (Na.pow b n) w (.returned (.tuple #[.slice none 0 0, .int .i64 1])) w := by
    rw [e2.out]; exact ⟨none, 0, rfl, Sl.nil _ _ _, Own.nil _ _ _, Below.refl _ _⟩
  have HE := Lib.hid hend
  clear hend
  by_cases h1 : b < 0
  · clear h
    go_enter Tryz.func31, Tryz.ntmps31
    go_wp2
    refine bodyPost_ret (v := .tuple #[.slice none 0 0, .int .i64 1]) (by simp [results, Tryz.results31, go_sem]) rfl HE.out
  · by_cases h2 : 1000000 < b
    · clear h
      go_enter Tryz.func31, Tryz.ntmps31
      go_wp2
      refine bodyPost_ret (v := .tuple #[.slice none 0 0, .int .i64 1]) (by simp [results, Tryz.results31, go_sem]) rfl HE.out
    · have h3 : n < 0 := by omega
      clear h
      go_enter Tryz.func31, Tryz.ntmps31
      go_wp2
      refine bodyPost_ret (v := .tuple #[.slice none 0 0, .int .i64 1]) (by simp [results, Tryz.results31, go_sem]) rfl HE.out

set_option maxHeartbeats 1000000 in
theorem na_pow_zero (n : Nat) (w : World) (h0 : 0 < n) (hn : n ≤ 9223372036854775807) : Calls Tryz.prog 31 #[.int .i64 0, .int .i64 n] w (GivesE (Na.pow 0 n) w) := by
  have e2 := Lib.hid (show Na.pow 0 n = ([], 0) by rw [Na.pow, if_neg (by omega), if_pos ⟨rfl, by omega⟩])
  have hB : Below w.heap.size w (w.alloc (Obj.cells #[Value.int IntKind.u32 1] 63)) := (Below.refl _ _).alloc (Nat.le_refl _) _
  go_enter Tryz.func31, Tryz.ntmps31
  go_wp2
  refine bodyPost_ret (v := .tuple #[.slice none 0 0, .int .i64 0]) (by simp [results, Tryz.results31, go_sem]) rfl (by rw [e2.out]; exact ⟨none, 0, rfl, Sl.nil _ _ _, Own.nil _ _ _, hB⟩)

set_option maxHeartbeats 1000000 in
theorem na_pow_one (b n : Nat) (w : World) (h : b = 1 ∨ b = 0 ∧ n = 0) (hn : n ≤ 9223372036854775807) : Calls Tryz.prog 31 #[.int .i64 b, .int .i64 n] w (GivesE (Na.pow b n) w) := by
  have hp : b ^ n = 1 := by rcases h with rfl | ⟨rfl, rfl⟩ <;> simp
  have e2 := Lib.hid (show Na.pow b n = ([1], 0) by rw [Na.pow, if_neg (by omega), if_neg (by omega), Int.toNat_natCast, Int.toNat_natCast, hp, Na.fits, Na.limbs_one]; rfl)
  have hB : Below w.heap.size w (w.alloc (Obj.cells #[Value.int IntKind.u32 1] 63)) := (Below.refl _ _).alloc (Nat.le_refl _) _
  have hend : GivesE (Na.pow b n) w (.returned (.tuple #[.slice (some ⟨w.heap.size, 0, none⟩) 1 1, .int .i64 0])) (w.alloc (Obj.cells #[Value.int IntKind.u32 1] 63)) := by
    rw [e2.out]; exact ⟨some ⟨w.heap.size, 0, none⟩, 1, rfl, (blk_one w).sl (fun x hx => by rw [List.mem_singleton.1 hx]; decide) (Nat.le_refl _), (blk_one w).own (Nat.le_refl _), hB⟩
  have HE := Lib.hid hend
  clear hend hp e2 hB
  rcases h with rfl | ⟨rfl, rfl⟩
  all_goals (
    go_enter Tryz.func31, Tryz.ntmps31
    go_wp2
    refine bodyPost_ret (v := .tuple #[.slice (some ⟨w.heap.size, 0, none⟩) 1 1, .int .i64 0]) (by simp [results, Tryz.results31, go_sem]) rfl HE.out)

set_option maxHeartbeats 2000000 in
theorem na_pow_more (b n : Nat) (w : World) (h2 : 2 ≤ b) (hb : b ≤ 1000000) (hn : n ≤ 9223372036854775807) : Calls Tryz.prog 31 #[.int .i64 b, .int .i64 n] w (GivesE (Na.pow b n) w) := by
  have E2 := Lib.hid (show Na.pow b n = Na.fits (b ^ n) by rw [Na.pow, if_neg (by omega), if_neg (by omega), Int.toNat_natCast, Int.toNat_natCast])
  have hB : Below w.heap.size w (w.alloc (Obj.cells #[Value.int IntKind.u32 1] 63)) := (Below.refl _ _).alloc (Nat.le_refl _) _
  have HB := Lib.hid hB
  have HS0 := Lib.hid ((blk_one w).sl (fun x hx => by rw [List.mem_singleton.1 hx]; decide : Na.OK [1]) (Nat.le_refl 1))
  have HO0 := Lib.hid ((blk_one w).own (n := 1) (Nat.le_refl w.heap.size))
  have HOF := Lib.hid (fun w => na_of_any b (by omega) w)
  have hlb : (Na.limbs b).length ≤ 256 := (Na.limbs_len_iff b 256).2 (Nat.lt_of_le_of_lt (show b ≤ 1000000 by omega) (by decide +kernel))
  have HLB := Lib.hid hlb
  clear hB hlb
  go_enter Tryz.func31, Tryz.ntmps31
  go_wp2_with fail
  go_loopw [6, 31] (powLoop b n w) (fun _ i _ => n - (intOf i).toNat)
  case atStart => exact ⟨0, some ⟨w.heap.size, 0, none⟩, 1, Nat.zero_le _, rfl, by simp [Na.limbs_one], by simp [Na.limbs_one], by simpa [Na.limbs_one] using HS0, by simpa [Na.limbs_one] using HO0, HB⟩
  case round =>
    obtain ⟨k, a, c, hk, rfl, rfl, hlen, HSl, HOw, HBe⟩ := hrel
    obtain ⟨x, hx⟩ : ∃ x, x = b ^ k := ⟨_, rfl⟩
    rw [← hx] at hlen HSl HOw ⊢
    have HX := Lib.hid hx
    clear hx
    by_cases hlt : k < n
    · have hmul : Na.mul (Na.limbs x) (Na.limbs b) = Na.fits (b ^ (k + 1)) := by
        rw [Na.mul, if_neg (by simp [Na.big, Na.rt_limbs]; exact ⟨hlen, HLB.out⟩), Na.val_limbs, Na.val_limbs, HX.out, Nat.pow_succ]
      have HM := Lib.hid (fun w1 a' c' (hs : Sl w1 a c (Na.limbs x)) (hs' : Sl w1 a' c' (Na.limbs b)) => (by
        have := na_mul_any a c (Na.limbs x) a' c' (Na.limbs b) w1 hs hs' (by omega) (by have := HLB.out; omega)
        rwa [hmul] at this : Calls Tryz.prog 23 #[.slice a (Na.limbs x).length c, .slice a' (Na.limbs b).length c'] w1 (GivesE (Na.fits (b ^ (k + 1))) w1)))
      clear hmul
      by_cases hover : 256 < (Na.limbs (b ^ (k + 1))).length
      · have ef : Na.fits (b ^ (k + 1)) = ([], 2) := if_pos hover
        rw [ef] at HM
        have EE := Lib.hid (show Na.pow b n = ([], 2) by
          rw [E2.out, Na.fits, if_pos]
          have h1 : Na.B ^ 256 ≤ b ^ (k + 1) := Nat.le_of_not_lt fun hl => by have := (Na.limbs_len_iff (b ^ (k + 1)) 256).2 hl; omega
          exact Na.limbs_len_gt _ _ (Nat.le_trans h1 (Nat.pow_le_pow_right (by omega) (by omega))))
        clear hover ef
        go_wp2_with (first | (go_at_call 11; (with_reducible refine (HOF.out _).mono ?_); rintro e w1 ⟨g1, rfl, hg1, hk1, hb1⟩; have hS1 := hk1.sl (Na.ok_limbs b) (Nat.le_refl _); have hS2 := HSl.out.on hb1) | (go_at_call 23; (with_reducible refine (HM.out _ _ _ hS2 hS1).mono ?_); rintro e w2 ⟨a2, c2, rfl, hs2, ho2, hb2⟩))
        have hB2 : Below w.heap.size w w2 := HBe.out.trans ((hb1.mono HBe.out.size).trans (hb2.mono (Nat.le_trans HBe.out.size hb1.size)))
        refine bodyPost_ret (v := .tuple #[.slice none 0 0, .int .i64 2]) (by simp [results, Tryz.results31, go_sem]) rfl (by rw [EE.out]; exact ⟨none, 0, rfl, Sl.nil _ _ _, Own.nil _ _ _, hB2⟩)
      · have ef : Na.fits (b ^ (k + 1)) = (Na.limbs (b ^ (k + 1)), 0) := if_neg hover
        rw [ef] at HM
        have HOV := Lib.hid hover
        clear hover ef
        go_wp2_with (first | (go_at_call 11; (with_reducible refine (HOF.out _).mono ?_); rintro e w1 ⟨g1, rfl, hg1, hk1, hb1⟩; have hS1 := hk1.sl (Na.ok_limbs b) (Nat.le_refl _); have hS2 := HSl.out.on hb1) | (go_at_call 23; (with_reducible refine (HM.out _ _ _ hS2 hS1).mono ?_); rintro e w2 ⟨a2, c2, rfl, hs2, ho2, hb2⟩))
        have hsz := HBe.out.size
        have hsz1 := hb1.size
        have hB2 : Below w.heap.size w w2 := HBe.out.trans ((hb1.mono hsz).trans (hb2.mono (Nat.le_trans hsz hsz1)))
        have hO2 : Own w2 w.heap.size a2 (Na.limbs (b ^ (k + 1))).length := fun h0 => by
          obtain ⟨b', o', e, hb', hf⟩ := ho2 h0
          exact ⟨b', o', e, by omega, hf⟩
        go_roundw
        case rel => exact ⟨k + 1, a2, c2, by omega, by go_num, rfl, by have := HOV.out; omega, Lib.hid hs2, Lib.hid hO2, Lib.hid hB2⟩
        case measure => simp [intOf]; omega
    · obtain rfl : k = n := by omega
      have EE := Lib.hid (show Na.pow b k = (Na.limbs x, 0) by rw [E2.out, Na.fits, ← HX.out, if_neg (by omega)])
      go_wp2_with fail
      refine bodyPost_ret (v := .tuple #[.slice a (Na.limbs x).length c, .int .i64 0]) (by simp [results, Tryz.results31, go_sem]) rfl (by rw [EE.out]; exact ⟨a, c, rfl, HSl.out, HOw.out, HBe.out⟩)

theorem na_pow_any (b n : Int) (w : World) (hb : -9223372036854775808 ≤ b ∧ b ≤ 9223372036854775807) (hn : -9223372036854775808 ≤ n ∧ n ≤ 9223372036854775807) :
    Calls Tryz.prog 31 #[.int .i64 b, .int .i64 n] w (GivesE (Na.pow b n) w) := by
  by_cases h : b < 0 ∨ 1000000 < b ∨ n < 0
  · exact na_pow_arg b n w h hb hn
  · obtain ⟨b', rfl⟩ : ∃ x : Nat, b = x := ⟨b.toNat, by omega⟩
    obtain ⟨n', rfl⟩ : ∃ x : Nat, n = x := ⟨n.toNat, by omega⟩
    by_cases h2 : 2 ≤ b'
    · exact na_pow_more b' n' w h2 (by omega) (by omega)
    · by_cases h1 : b' = 1 ∨ b' = 0 ∧ n' = 0
      · exact na_pow_one b' n' w h1 (by omega)
      · obtain rfl : b' = 0 := by omega
        exact na_pow_zero n' w (by omega) (by omega)
end Go.Proofs.YtcdndcbfmlnpjaaGreatDoor
