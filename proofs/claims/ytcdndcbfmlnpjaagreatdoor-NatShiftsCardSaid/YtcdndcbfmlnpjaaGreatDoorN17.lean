/- Shr: nothing is left. -/
import Derived.Test.YtcdndcbfmlnpjaaGreatDoorN16
namespace Go.Proofs.YtcdndcbfmlnpjaaGreatDoor
set_option linter.all false
open Go.RowKit

set_option maxHeartbeats 1000000 in
theorem na_shr_all (a : Option Addr) (c : Nat) (l : List Nat) (n : Nat) (w : World) (h : Sl w a c l) (hn : l.length ≤ 1000000) (hi : n ≤ 9223372036854775807) (hb : Na.big l = false) (hp : (Na.cut l).length ≤ n / 32) :
    Calls Tryz.prog 29 #[.slice a l.length c, .int .i64 n] w (GivesS (Na.shr l n) w) := by
  have hB : Below w.heap.size w (w.alloc (Obj.cells #[Value.slice a l.length c] 26)) := (Below.refl _ _).alloc (Nat.le_refl _) _
  have H1 := Lib.hid (na_over1_any h hn false hb)
  have hl1 : (Na.cut l).length ≤ 256 := Nat.le_of_not_lt (of_decide_eq_false hb)
  have H4 := na_cut_any a c l _ (h.on hB) hn
  have S1 := h.cut
  have hv : Na.val l < 2 ^ n := by
    have h1 := Na.val_lt (Na.cut l) (Na.ok_cut l)
    rw [Na.val_cut, show Na.B ^ (Na.cut l).length = 2 ^ (32 * (Na.cut l).length) by rw [Nat.pow_mul]] at h1
    exact Nat.lt_of_lt_of_le h1 (Nat.pow_le_pow_right (by decide) (by omega))
  have hnil := Na.cut_nil_iff l
  have e2 := Lib.hid (show Na.shr l n = ([], decide (0 < (Na.cut l).length), 0) by
    rw [Na.shr, if_neg (by omega), hb, if_neg (by simp), Int.toNat_natCast, Nat.div_eq_of_lt hv, Nat.mod_eq_of_lt hv, Na.limbs_zero]
    congr 2
    apply decide_eq_decide.2
    rw [List.length_pos_iff, ne_eq, ne_eq, hnil])
  have hrt : Na.rt (Na.cut l) = (Na.cut l).length := by rw [Na.rt_cut]; rfl
  obtain ⟨q, hq⟩ : ∃ q, q = Na.cut l := ⟨_, rfl⟩
  rw [← hq] at H4 hl1 S1 hp e2 hrt
  obtain ⟨ln, hqn⟩ : ∃ n, q.length = n := ⟨_, rfl⟩
  have H5 := na_right_any a c q _ (S1.on hB) (by omega)
  rw [hrt, hqn] at H5
  rw [hqn] at H4 hl1 hp e2
  have H4' := Lib.hid H4; have H5' := Lib.hid H5
  obtain ⟨p, hpp⟩ : ∃ p, p = n / 32 := ⟨_, rfl⟩
  have hpi : (n : Int) / 32 = (p : Int) := by omega
  rw [← hpp] at hp
  have hmin : min (p : Int) (ln : Int) = (ln : Int) := by omega
  have hs1 : ln ≤ c := by have := S1.cap; omega
  clear hb hv hnil hq hqn H4 H5 hrt hpp S1
  go_enter Tryz.func29, Tryz.ntmps29
  go_wp2_with (first | (go_at_call 40; (with_reducible refine (H1.out).mono ?_); rintro e w' ⟨rfl, rfl⟩) | (go_at_call 38; (with_reducible refine (H4'.out).mono ?_); rintro e w' ⟨rfl, rfl⟩) | (go_at_call 37; (with_reducible refine (H5'.out).mono ?_); rintro e w' ⟨rfl, rfl⟩) | (at_make; refine mk_u32 rfl _ _ rfl _ _ 0 rfl rfl (by simp) (by simp) (by omega) ?_))
  intro w1 hK hgrow
  have HB1 := Lib.hid (hgrow.out _ _ hB (by simp [World.size_alloc]))
  clear hgrow hB hK
  go_wp2_with (first | (refine wpList_copy_nothing rfl _ _ 26 26 rfl 63 Tryz.underlying26 (by kernel_rfl) _ _ _ _ _ _ rfl rfl (by simp) ?_))
  all_goals exact bodyPost_ret (v := .tuple #[.slice none 0 0, .bool (decide (0 < ln)), .int .i64 0]) (by simp [results, Tryz.results29, go_sem]) rfl (gives_snil _ 0 e2.out HB1.out)
end Go.Proofs.YtcdndcbfmlnpjaaGreatDoor
