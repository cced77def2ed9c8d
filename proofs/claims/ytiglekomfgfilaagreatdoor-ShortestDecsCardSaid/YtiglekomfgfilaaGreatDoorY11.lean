/- Two words take in the limbs of a natural, the highest first: what a loop's round keeps. -/
import Derived.Test.YtiglekomfgfilaaGreatDoorY9
import Derived.Test.YtiglekomfgfilaaGreatDoorY10
import Derived.Test.YtiglekomfgfilaaGreatDoorY1
import Derived.Test.YtiglekomfgfilaaGreatDoorY2
import Derived.Test.YtiglekomfgfilaaGreatDoorY5
import Derived.Deep.QuietTactic
import Derived.BigQuiet
import Derived.Outline
namespace Go.Proofs.YtiglekomfgfilaaGreatDoor
set_option linter.all false
open Go.RowKit
theorem Na.val_drop {L : List Nat} {k : Nat} (h : k < L.length) : Na.val (L.drop k) = Na.val (L.drop (k + 1)) * 4294967296 + L[k] := by
  rw [List.drop_eq_getElem_cons h, Na.val, Nat.mul_comm, Nat.add_comm]
def limbLoop (L : List Nat) (g : Nat) (w : World) (iv : Value) (wr : World) : Prop := ∃ (i hi lo : Nat), i ≤ L.length ∧ iv = .int .i64 i ∧ hi < 18446744073709551616 ∧ lo < 18446744073709551616 ∧
  Hid (hi = Na.val (L.drop (L.length - i)) / 18446744073709551616 % 18446744073709551616) ∧ Hid (lo = Na.val (L.drop (L.length - i)) % 18446744073709551616) ∧ Hid (C2 wr g hi lo) ∧ Hid (Below w.heap.size w wr)
theorem limb_start (L : List Nat) : 0 = Na.val (L.drop (L.length - 0)) / 18446744073709551616 % 18446744073709551616 ∧ 0 = Na.val (L.drop (L.length - 0)) % 18446744073709551616 := by
  rw [Nat.sub_zero, List.drop_length]; exact ⟨rfl, rfl⟩
theorem limb_round {L : List Nat} {i hi lo : Nat} (hlt : i < L.length) (hok : Na.OK L) (hh : hi = Na.val (L.drop (L.length - i)) / 18446744073709551616 % 18446744073709551616) (hl : lo = Na.val (L.drop (L.length - i)) % 18446744073709551616) :
    ∃ (m j d H D P : Nat) (hj : j < L.length), ((L.length : Nat) : Int) - 1 = (m : Int) ∧ (m : Int) - (i : Int) = (j : Int) ∧ d = L[j] ∧ d < 4294967296 ∧ H < 18446744073709551616 ∧ D < 18446744073709551616 ∧ P < 18446744073709551616 ∧
      (hi * 18446744073709551616 + lo) * 2 ^ 32 / 18446744073709551616 % 18446744073709551616 = H ∧ (hi * 18446744073709551616 + lo) * 2 ^ 32 % 18446744073709551616 = D ∧ bits BinOp.or IntKind.u64 (D : Int) (d : Int) = (P : Int) ∧
      H = Na.val (L.drop (L.length - (i + 1))) / 18446744073709551616 % 18446744073709551616 ∧ P = Na.val (L.drop (L.length - (i + 1))) % 18446744073709551616 := by
  obtain ⟨j, hj⟩ : ∃ j, L.length - (i + 1) = j := ⟨_, rfl⟩
  have hjl : j < L.length := by omega
  have hd : L[j] < 4294967296 := hok _ (List.getElem_mem hjl)
  have hv := Na.val_drop hjl
  rw [show j + 1 = L.length - i by omega] at hv
  obtain ⟨s1, s2⟩ := Fl.limb_step hh hl hd
  refine ⟨L.length - 1, j, L[j], _, _, _, hjl, by omega, by omega, rfl, hd, Nat.mod_lt _ (by decide), Nat.mod_lt _ (by decide), Nat.mod_lt _ (by decide), s1, rfl, s2, ?_, ?_⟩
  · rw [hj, hv]
  · rw [hj, hv]
theorem wi_shl_lim (hi lo H D : Nat) (hh : hi < 18446744073709551616) (hl : lo < 18446744073709551616) (h1 : (hi * 18446744073709551616 + lo) * 2 ^ 32 / 18446744073709551616 % 18446744073709551616 = H) (h2 : (hi * 18446744073709551616 + lo) * 2 ^ 32 % 18446744073709551616 = D) (w : World) :
    Calls Tryz.prog 179 #[.agg #[.int .u64 hi, .int .u64 lo], .int .i64 32] w (RetB (.agg #[.int .u64 H, .int .u64 D]) w) := by
  have := wi_shl_any hi lo 32 w hh hl (by decide)
  rw [h1, h2] at this
  exact this
theorem limb_all {N : Nat} {L : List Nat} (h : L.length = N) : Na.val (L.drop (L.length - N)) = Na.val L := by
  rw [h, Nat.sub_self, List.drop_zero]
end Go.Proofs.YtiglekomfgfilaaGreatDoor

/- binary64 in the program: a natural, times a power of two, is rounded: Round. -/
namespace Go.Proofs.YtiglekomfgfilaaGreatDoor
set_option maxRecDepth 100000
set_option maxHeartbeats 8000000
set_option linter.all false
open Go.RowKit
def moreLoop (L : List Nat) (n : Nat) (more : Bool) (mv iv : Value) : Prop := ∃ (i : Nat) (m : Bool), i ≤ n ∧ iv = .int .i64 i ∧ mv = .bool m ∧ Hid (m = (more || decide (Na.val (L.take i) ≠ 0)))
theorem Na.take_more3 {L : List Nat} {i : Nat} (h : i < L.length) : (Na.val (L.take (i + 1)) ≠ 0) ↔ (Na.val (L.take i) ≠ 0 ∨ L[i] ≠ 0) := by
  rw [Na.val_take_succ L i h]
  have hp : 0 < Na.B ^ i := Nat.pow_pos (by decide)
  constructor
  · intro h0
    by_cases h1 : Na.val (L.take i) = 0
    · right; intro h2; apply h0; rw [h1, h2, Nat.mul_zero]
    · exact Or.inl h1
  · rintro (h1 | h1)
    · omega
    · have := Nat.mul_pos hp (Nat.pos_of_ne_zero h1); omega
theorem Na.cut_pow {L : List Nat} {c : Nat} (hok : Na.OK L) (hc : c ≤ L.length) : Na.val (L.drop c) = Na.val L / 2 ^ (32 * c) ∧ Na.val (L.take c) = Na.val L % 2 ^ (32 * c) := by
  have e : Na.B ^ c = 2 ^ (32 * c) := by rw [Nat.pow_mul]
  have h := Na.val_take_drop L c hc
  have hl := Na.val_lt (L.take c) (Na.ok_take hok c)
  rw [List.length_take, Nat.min_eq_left hc, e] at hl
  rw [e] at h
  have hp : 0 < 2 ^ (32 * c) := Nat.pow_pos (by decide)
  rw [h]
  exact ⟨by rw [Nat.add_comm, Nat.mul_add_div hp, Nat.div_eq_of_lt hl, Nat.add_zero], by rw [Nat.add_mul_mod_self_left, Nat.mod_eq_of_lt hl]⟩
theorem Na.cut_long {N c : Nat} (hc : (Na.limbs N).length = c + 4) : 54 ≤ Na.bitLen (N / 2 ^ (32 * c)) := by
  have h1 : ¬ (Na.limbs N).length ≤ c + 3 := by omega
  rw [Na.limbs_len_iff] at h1
  have e : Na.B ^ c = 2 ^ (32 * c) := by rw [Nat.pow_mul]
  have e3 : Na.B ^ 3 = 79228162514264337593543950336 := by decide
  have h2 : 79228162514264337593543950336 ≤ N / 2 ^ (32 * c) := by
    rw [Nat.le_div_iff_mul_le (Nat.pow_pos (by decide)), ← e, ← e3, ← Nat.pow_add, Nat.add_comm]; omega
  rcases Nat.lt_or_ge (Na.bitLen (N / 2 ^ (32 * c))) 54 with h3 | h3
  · have h4 := (Fl.bitLen_ge (n := N / 2 ^ (32 * c)) (by omega)).2.1
    have h5 : 2 ^ Na.bitLen (N / 2 ^ (32 * c)) ≤ 2 ^ 53 := Nat.pow_le_pow_right (by decide) (by omega)
    omega
  · exact h3
theorem fl_round_short (neg : Bool) (a : Option Addr) (c : Nat) (l : List Nat) (e : Int) (more : Bool) (w : World) (h : Sl w a c l) (hl : l.length ≤ 4000) (he : -10000 ≤ e ∧ e ≤ 2000) (h4 : (Na.limbs (Na.val l)).length ≤ 4) :
    Calls Tryz.prog 156 #[.bool neg, .slice a l.length c, .int .i64 e, .bool more] w (RetB (.int .u64 ((Fl.sgn neg + Fl.rd (Na.val l) e more : Nat) : Int)) w) := by
  have H1 := Lib.hid (na_trim_any a c l w h (by omega))
  obtain ⟨N, hN⟩ : ∃ N, N = Na.val l := ⟨_, rfl⟩
  have hcl : Na.cut l = Na.limbs N := by rw [Na.cut, hN]
  have hll : (Na.limbs N).length ≤ l.length := by have := (Na.rt_le h.ok).1; rw [Na.rt, hcl] at this; exact this
  rw [hcl] at H1
  rw [← hN] at h4 ⊢
  have hok := Na.ok_limbs N
  have hvl := Na.val_limbs N
  obtain ⟨L, hL⟩ : ∃ L, L = Na.limbs N := ⟨_, rfl⟩
  rw [← hL] at H1 hll h4 hok hvl
  obtain ⟨e1', e2'⟩ := he
  obtain ⟨R, hR⟩ : ∃ R, R = Fl.sgn neg + Fl.rd N e more := ⟨_, rfl⟩
  rw [← hR]
  have HR2 := Lib.hid (show R = Fl.sgn neg + Fl.rd (Na.val L) e more by rw [hR, hvl])
  have HOM := Lib.hid hok
  have hM4 := h4
  have hsub : decide ((0 : Int) < ((L.length : Nat) : Int) - 4) = false := decide_eq_false (by omega)
  clear hcl hN hL h hR hvl hok h4
  go_enter Tryz.func156, Tryz.ntmps156
  go_upto_if 20 with (go_at_call 96; (with_reducible refine (H1.out).mono ?_); rintro e w1 ⟨g, rfl, hg, hk, hb1⟩)
  have HCE : Hid (∀ k (hk : k < L.length), w1.cell? ⟨g, k, none⟩ = some (.int .u32 (L[k] : Int))) := Lib.hid (fun k hk' => hk.cell k hk')
  have HGL := Lib.hid hk.lt
  have HBW := Lib.hid hb1
  clear hk hb1 H1
  obtain ⟨q1, q2⟩ := limb_start L
  have HQ1 := Lib.hid q1; have HQ2 := Lib.hid q2
  have HA0 : Hid (C2 (w1.alloc (.cells #[.int .u64 0, .int .u64 0] 91)) w1.heap.size 0 0) := Lib.hid (C2.new0 rfl)
  have HB0 : Hid (Below w1.heap.size w1 (w1.alloc (.cells #[.int .u64 0, .int .u64 0] 91))) := Lib.hid ((Below.refl w1.heap.size w1).alloc (Nat.le_refl _) _)
  clear q1 q2 hll
  go_wp2_with fail
  go_loopw [46] (fun iv wr => limbLoop L w1.heap.size w1 iv wr) (fun iv _ => L.length - (intOf iv).toNat)
  case atStart => exact ⟨0, 0, 0, Nat.zero_le _, rfl, by decide, by decide, HQ1, HQ2, HA0, HB0⟩
  case round =>
    clear HB0 HA0 HQ1 HQ2
    obtain ⟨i, hi, lo, hil, rfl, hh, hl, HH, HL, HC, HBe⟩ := hrel
    by_cases hlt : i < L.length
    · obtain ⟨mm, j, d, H, D, P, hj, f1, f2, hd, hd2, hH, hD, hP, v1, v2, v3, v4, v5⟩ := limb_round hlt HOM.out HH.out HL.out
      have hb := HGL.out
      have hx := (HBe.out.cell (p := ⟨g, j, none⟩) hb).trans (HCE.out j hj)
      rw [← hd] at hx
      have H1 := Lib.hid (fun w1 => wi_shl_lim hi lo H D hh hl v1 v2 w1)
      have HV4 := Lib.hid v4; have HV5 := Lib.hid v5
      have c0 := HC.out.1.get 0 rfl
      have c1 := HC.out.1.get 1 rfl
      have z0 := HC.out.2 0; have z1 := HC.out.2 1
      have hbl := HC.out.1.1
      have hbw := HBe.out.size
      clear v1 v2 v4 v5 hd
      skip
      go_wp2_with (first | (go_at_call 179; (with_reducible refine (H1.out _).mono ?_); rintro e w2 ⟨rfl, hb_w2⟩; have hB_w2 : Below (wr).heap.size (wr) w2 := Below.trans (by (repeat (first | exact Below.refl _ _ | assumption | refine Below.setCell ?_ (by first | omega | (simp <;> omega)) _ | refine Below.alloc ?_ (by first | omega | (simp <;> omega)) _ | refine Below.drew ?_ | refine below_drewN' ?_ _))) (hb_w2.mono (by first | omega | (simp <;> omega))); obtain ⟨hc_w2, hf_w2⟩ := bcell hb_w2; have hz_w2 := hb_w2.size; (try simp only [zD, zN, zA, zS] at hz_w2); have hk := own6 hb_w2 (w1.heap.size) (by (try simp only [zD, zN, zA, zS]); omega); obtain ⟨hl0_w2, hm0_w2, hn0_w2, hq0_w2, hr0_w2, hg0_w2⟩ := hk; have hk := own6 hb_w2 (g) (by (try simp only [zD, zN, zA, zS]); omega); obtain ⟨hl1_w2, hm1_w2, hn1_w2, hq1_w2, hr1_w2, hg1_w2⟩ := hk))
      obtain ⟨X, hX⟩ : ∃ X, X = w2.setCells w1.heap.size 0 [.int .u64 H, .int .u64 D] := ⟨_, rfl⟩
      change Code.wp _ _ _ _ (w2.setCells w1.heap.size 0 [.int .u64 H, .int .u64 D])
      have HCX := (HC.out.on (hb_w2.mono (Nat.le_refl _))).stored H D
      have hBX := below_setCells (B := w1.heap.size) (b := w1.heap.size) (Nat.le_refl _) [.int .u64 H, .int .u64 D] 0 (HBe.out.trans (hb_w2.mono hbw))
      have hxX : (w2.setCells w1.heap.size 0 [.int .u64 H, .int .u64 D]).cell? ⟨g, j, none⟩ = some (.int .u32 d) := (hBX.cell (p := ⟨g, j, none⟩) hb).trans ((HBe.out.cell (p := ⟨g, j, none⟩) hb).symm.trans hx)
      rw [← hX] at HCX hBX hxX ⊢
      have x0 := HCX.1.get 0 rfl
      have x1 := HCX.1.get 1 rfl
      have y0 := HCX.2 0; have y1 := HCX.2 1
      have xl := HCX.1.1
      have HCX2 := Lib.hid (HCX.low P)
      have HBX2 := Lib.hid (hBX.setCell (p := ⟨w1.heap.size, 1, none⟩) (Nat.le_refl _) (.int .u64 P))
      clear hX HCX hBX c0 c1 hx
      go_region
      go_wp2
      go_roundw
      case rel => exact ⟨i + 1, H, P, by omega, by go_num, hH, hP, HV4, HV5, Lib.hid HCX2.out.drew, Lib.hid HBX2.out.drew⟩
      case measure => simp [intOf]; omega
    · have hie : i = L.length := by omega
      have hv := limb_all (L := L) hie.symm
      have h128 : Na.val L < 340282366920938463463374607431768211456 := by
        have h1 := Na.val_lt L HOM.out
        exact Nat.lt_of_lt_of_le h1 (Nat.le_trans (Nat.pow_le_pow_right (by decide) hM4) (by decide))
      have h1 := HH.out
      have h2 := HL.out
      rw [hv] at h1 h2
      have hsum : hi * 18446744073709551616 + lo = Na.val L := by omega
      have hj := fun w1 => fl_join_any neg hi lo e more w1 hh hl ⟨e1', e2'⟩
      rw [hsum, ← HR2.out] at hj
      have HJ := Lib.hid hj
      have c0 := HC.out.1.get 0 rfl
      have c1 := HC.out.1.get 1 rfl
      have hbl := HC.out.1.1
      have hBw := HBW.out.trans (HBe.out.mono HBW.out.size)
      have hBws := hBw.size
      skip
      clear hj h1 h2 hsum hv hie
      go_wp2_with (first | (go_at_call 146; (with_reducible refine (HJ.out _).mono ?_); rintro e w3 ⟨rfl, hb_w3⟩; have hB_w3 : Below (wr).heap.size (wr) w3 := Below.trans (by (repeat (first | exact Below.refl _ _ | assumption | refine Below.setCell ?_ (by first | omega | (simp <;> omega)) _ | refine Below.alloc ?_ (by first | omega | (simp <;> omega)) _ | refine Below.drew ?_ | refine below_drewN' ?_ _))) (hb_w3.mono (by first | omega | (simp <;> omega))); obtain ⟨hc_w3, hf_w3⟩ := bcell hb_w3; have hz_w3 := hb_w3.size; (try simp only [zD, zN, zA, zS] at hz_w3); have hBf : Below w.heap.size w w3 := hBw.trans (hB_w3.mono hBws)))
      go_ret
      exact RetB.of rfl (by (repeat (first | exact Below.refl _ _ | assumption | refine Below.setCell ?_ (by first | omega | (simp <;> omega)) _ | refine Below.alloc ?_ (by first | omega | (simp <;> omega)) _ | refine Below.drew ?_ | refine below_drewN' ?_ _)))
theorem fl_round_long (neg : Bool) (a : Option Addr) (c : Nat) (l : List Nat) (e : Int) (more : Bool) (w : World) (h : Sl w a c l) (hl : l.length ≤ 4000) (he : -10000 ≤ e ∧ e ≤ 2000) (h4 : 4 < (Na.limbs (Na.val l)).length) (he2 : e + 32 * (((Na.limbs (Na.val l)).length : Int) - 4) ≤ 2000) :
    Calls Tryz.prog 156 #[.bool neg, .slice a l.length c, .int .i64 e, .bool more] w (RetB (.int .u64 ((Fl.sgn neg + Fl.rd (Na.val l) e more : Nat) : Int)) w) := by
  have H1 := Lib.hid (na_trim_any a c l w h (by omega))
  obtain ⟨N, hN⟩ : ∃ N, N = Na.val l := ⟨_, rfl⟩
  have hcl : Na.cut l = Na.limbs N := by rw [Na.cut, hN]
  have hll : (Na.limbs N).length ≤ l.length := by have := (Na.rt_le h.ok).1; rw [Na.rt, hcl] at this; exact this
  rw [hcl] at H1
  rw [← hN] at h4 he2 ⊢
  have hok := Na.ok_limbs N
  have hvl := Na.val_limbs N
  obtain ⟨k, hkk⟩ : ∃ k, (Na.limbs N).length = k + 4 := ⟨(Na.limbs N).length - 4, by omega⟩
  have hcut := (And.intro (Na.cut_pow (c := k) hok (by omega)) (Na.cut_long hkk))
  obtain ⟨L, hL⟩ : ∃ L, L = Na.limbs N := ⟨_, rfl⟩
  rw [← hL] at H1 hll hok hvl hcut hkk h4 he2
  obtain ⟨e1, e2⟩ := he
  obtain ⟨R, hR⟩ : ∃ R, R = Fl.sgn neg + Fl.rd N e more := ⟨_, rfl⟩
  rw [← hR]
  have HR := Lib.hid hR; have HVL := Lib.hid hvl; have HOK := Lib.hid hok; have HC := Lib.hid hcut; have HLK := Lib.hid hkk
  have hki : ((L.length : Nat) : Int) - 4 = (k : Int) := by omega
  have hk4 : 0 < k := by omega
  obtain ⟨n, hn⟩ : ∃ n, n = L.length := ⟨_, rfl⟩
  have HN := Lib.hid hn
  rw [← hn] at hki h4 he2 hll
  have hkn : k ≤ n := by omega
  have hkb : k ≤ 4000 := by omega
  have hkq : e + 32 * (k : Int) ≤ 2000 := by omega
  have hdn : (n : Int) - (k : Int) = 4 := by omega
  obtain rfl : n = k + 4 := by omega
  clear hcl hN hL h hR hvl hok hcut hkk hn hki hkn hdn
  go_enter Tryz.func156, Tryz.ntmps156
  go_upto_if 20 with (go_at_call 96; (with_reducible refine (H1.out).mono ?_); rintro e w1 ⟨g, rfl, hg, hk, hb1⟩; rw [← HN.out])
  have HK := Lib.hid hk; have HBW := Lib.hid hb1
  clear hk hb1 H1
  go_wp2_with fail
  go_loop [3, 25] (fun mv iv => moreLoop L k more mv iv) (fun _ i => k - (intOf i).toNat)
  case atStart => exact ⟨0, more, Nat.zero_le _, rfl, rfl, Lib.hid (by rw [List.take_zero]; simp [Na.val])⟩
  case round =>
    obtain ⟨i, m, hik, rfl, rfl, HM⟩ := hrel
    by_cases hlt : i < k
    · have hiL : i < L.length := by have := HN.out; omega
      have hx := HK.out.cell i hiL
      have hx2 : L[i] < 4294967296 := HOK.out _ (List.getElem_mem hiL)
      have htk := Na.take_more3 hiL
      obtain ⟨x, hxe⟩ : ∃ x, x = L[i] := ⟨_, rfl⟩
      rw [← hxe] at hx hx2 htk
      have hnew : (more || decide (Na.val (L.take (i + 1)) ≠ 0)) = (m || decide (x ≠ 0)) := by
        rw [HM.out, Bool.or_assoc, ← Bool.decide_or]
        congr 1; exact decide_eq_decide.2 htk
      have HNW := Lib.hid hnew
      clear htk hnew hxe HK HBW
      cases m with
      | true =>
        go_wp2_with fail
        go_round
        case rel => exact ⟨i + 1, true, by omega, by go_num, rfl, Lib.hid (by rw [HNW.out]; rfl)⟩
        case measure => simp [intOf]; omega
      | false =>
        go_wp2_with fail
        go_round
        case rel => exact ⟨i + 1, decide (0 < x), by omega, by go_num, by go_num, Lib.hid (by rw [HNW.out, Bool.false_or]; apply decide_eq_decide.2; omega)⟩
        case measure => simp [intOf]; omega
    · have hie : i = k := by omega
      subst hie
      obtain ⟨⟨c1, c2⟩, c3⟩ := HC.out
      have hrd := Fl.rd_cut (n := N) (c := 32 * i) (e := e) (more := more) c3
      rw [HVL.out] at c1 c2
      rw [← c1, ← c2, ← HM.out] at hrd
      obtain ⟨K, hK⟩ : ∃ K : Nat, K = 32 * i := ⟨_, rfl⟩
      have hKi : (32 : Int) * (i : Int) = (K : Int) := by omega
      obtain ⟨e', he'⟩ : ∃ e' : Int, e' = e + (K : Int) := ⟨_, rfl⟩
      have hei : e + (K : Int) = e' := he'.symm
      have e1' : -10000 ≤ e' := by omega
      have e2' : e' ≤ 2000 := by omega
      rw [show (((32 * i : Nat) : Int)) = (K : Int) by omega, ← he'] at hrd
      have hDl : (L.drop i).length = 4 := by rw [List.length_drop]; have := HLK.out; omega
      have HR2 := Lib.hid (show R = Fl.sgn neg + Fl.rd (Na.val (L.drop i)) e' m by rw [HR.out, hrd])
      have HOM := Lib.hid (Na.ok_drop HOK.out i)
      have HCE : Hid (∀ k (hk : k < (L.drop i).length), w1.cell? ⟨g, i + k, none⟩ = some (.int .u32 ((L.drop i)[k] : Int))) := Lib.hid (fun k hk => by
        simp only [List.getElem_drop]; exact HK.out.cell _ _)
      have HGL := Lib.hid HK.out.lt
      obtain ⟨M, hM⟩ : ∃ M, M = L.drop i := ⟨_, rfl⟩
      rw [← hM] at hDl HR2 HOM HCE
      have hM4 : M.length ≤ 4 := by omega
      clear c1 c2 c3 hrd hK he' hM HM HC HK hlt
      obtain ⟨q1, q2⟩ := limb_start M
      have HQ1 := Lib.hid q1; have HQ2 := Lib.hid q2
      have HA0 : Hid (C2 (w1.alloc (.cells #[.int .u64 0, .int .u64 0] 91)) w1.heap.size 0 0) := Lib.hid (C2.new0 rfl)
      have HB0 : Hid (Below w1.heap.size w1 (w1.alloc (.cells #[.int .u64 0, .int .u64 0] 91))) := Lib.hid ((Below.refl w1.heap.size w1).alloc (Nat.le_refl _) _)
      clear q1 q2 
      go_wp2_with fail
      go_loopw [46] (fun iv wr => limbLoop M w1.heap.size w1 iv wr) (fun iv _ => M.length - (intOf iv).toNat)
      case atStart => exact ⟨0, 0, 0, Nat.zero_le _, rfl, by decide, by decide, HQ1, HQ2, HA0, HB0⟩
      case round =>
        clear HB0 HA0 HQ1 HQ2
        obtain ⟨i2, hi, lo, hil, rfl, hh, hl, HH, HL, HC, HBe⟩ := hrel
        by_cases hlt : i2 < M.length
        · obtain ⟨mm, j, d, H, D, P, hj, f1, f2, hd, hd2, hH, hD, hP, v1, v2, v3, v4, v5⟩ := limb_round hlt HOM.out HH.out HL.out
          have hb := HGL.out
          have hx := (HBe.out.cell (p := ⟨g, i + j, none⟩) hb).trans (HCE.out j hj)
          rw [← hd] at hx
          have H1 := Lib.hid (fun w1 => wi_shl_lim hi lo H D hh hl v1 v2 w1)
          have HV4 := Lib.hid v4; have HV5 := Lib.hid v5
          have c0 := HC.out.1.get 0 rfl
          have c1 := HC.out.1.get 1 rfl
          have z0 := HC.out.2 0; have z1 := HC.out.2 1
          have hbl := HC.out.1.1
          have hbw := HBe.out.size
          clear v1 v2 v4 v5 hd
          have f2' : (3 : Int) - (i2 : Int) = (j : Int) := (by omega); have hlt4 : i2 < 4 := (by omega)
          go_wp2_with (first | (go_at_call 179; (with_reducible refine (H1.out _).mono ?_); rintro e w2 ⟨rfl, hb_w2⟩; have hB_w2 : Below (wr).heap.size (wr) w2 := Below.trans (by (repeat (first | exact Below.refl _ _ | assumption | refine Below.setCell ?_ (by first | omega | (simp <;> omega)) _ | refine Below.alloc ?_ (by first | omega | (simp <;> omega)) _ | refine Below.drew ?_ | refine below_drewN' ?_ _))) (hb_w2.mono (by first | omega | (simp <;> omega))); obtain ⟨hc_w2, hf_w2⟩ := bcell hb_w2; have hz_w2 := hb_w2.size; (try simp only [zD, zN, zA, zS] at hz_w2); have hk := own6 hb_w2 (w1.heap.size) (by (try simp only [zD, zN, zA, zS]); omega); obtain ⟨hl0_w2, hm0_w2, hn0_w2, hq0_w2, hr0_w2, hg0_w2⟩ := hk; have hk := own6 hb_w2 (g) (by (try simp only [zD, zN, zA, zS]); omega); obtain ⟨hl1_w2, hm1_w2, hn1_w2, hq1_w2, hr1_w2, hg1_w2⟩ := hk))
          obtain ⟨X, hX⟩ : ∃ X, X = w2.setCells w1.heap.size 0 [.int .u64 H, .int .u64 D] := ⟨_, rfl⟩
          change Code.wp _ _ _ _ (w2.setCells w1.heap.size 0 [.int .u64 H, .int .u64 D])
          have HCX := (HC.out.on (hb_w2.mono (Nat.le_refl _))).stored H D
          have hBX := below_setCells (B := w1.heap.size) (b := w1.heap.size) (Nat.le_refl _) [.int .u64 H, .int .u64 D] 0 (HBe.out.trans (hb_w2.mono hbw))
          have hxX : (w2.setCells w1.heap.size 0 [.int .u64 H, .int .u64 D]).cell? ⟨g, i + j, none⟩ = some (.int .u32 d) := (hBX.cell (p := ⟨g, i + j, none⟩) hb).trans ((HBe.out.cell (p := ⟨g, i + j, none⟩) hb).symm.trans hx)
          rw [← hX] at HCX hBX hxX ⊢
          have x0 := HCX.1.get 0 rfl
          have x1 := HCX.1.get 1 rfl
          have y0 := HCX.2 0; have y1 := HCX.2 1
          have xl := HCX.1.1
          have HCX2 := Lib.hid (HCX.low P)
          have HBX2 := Lib.hid (hBX.setCell (p := ⟨w1.heap.size, 1, none⟩) (Nat.le_refl _) (.int .u64 P))
          clear hX HCX hBX c0 c1 hx
          go_region
          go_wp2
          go_roundw
          case rel => exact ⟨i2 + 1, H, P, by omega, by go_num, hH, hP, HV4, HV5, Lib.hid HCX2.out.drew, Lib.hid HBX2.out.drew⟩
          case measure => simp [intOf]; omega
        · have hie : i2 = M.length := by omega
          have hv := limb_all (L := M) hie.symm
          have h128 : Na.val M < 340282366920938463463374607431768211456 := by
            have h1 := Na.val_lt M HOM.out
            exact Nat.lt_of_lt_of_le h1 (Nat.le_trans (Nat.pow_le_pow_right (by decide) hM4) (by decide))
          have h1 := HH.out
          have h2 := HL.out
          rw [hv] at h1 h2
          have hsum : hi * 18446744073709551616 + lo = Na.val M := by omega
          have hj := fun w1 => fl_join_any neg hi lo e' m w1 hh hl ⟨e1', e2'⟩
          rw [hsum, ← HR2.out] at hj
          have HJ := Lib.hid hj
          have c0 := HC.out.1.get 0 rfl
          have c1 := HC.out.1.get 1 rfl
          have hbl := HC.out.1.1
          have hBw := HBW.out.trans (HBe.out.mono HBW.out.size)
          have hBws := hBw.size
          have hlt4 : ¬ i2 < 4 := (by omega)
          clear hj h1 h2 hsum hv hie
          go_wp2_with (first | (go_at_call 146; (with_reducible refine (HJ.out _).mono ?_); rintro e w3 ⟨rfl, hb_w3⟩; have hB_w3 : Below (wr).heap.size (wr) w3 := Below.trans (by (repeat (first | exact Below.refl _ _ | assumption | refine Below.setCell ?_ (by first | omega | (simp <;> omega)) _ | refine Below.alloc ?_ (by first | omega | (simp <;> omega)) _ | refine Below.drew ?_ | refine below_drewN' ?_ _))) (hb_w3.mono (by first | omega | (simp <;> omega))); obtain ⟨hc_w3, hf_w3⟩ := bcell hb_w3; have hz_w3 := hb_w3.size; (try simp only [zD, zN, zA, zS] at hz_w3); have hBf : Below w.heap.size w w3 := hBw.trans (hB_w3.mono hBws)))
          go_ret
          exact RetB.of rfl (by (repeat (first | exact Below.refl _ _ | assumption | refine Below.setCell ?_ (by first | omega | (simp <;> omega)) _ | refine Below.alloc ?_ (by first | omega | (simp <;> omega)) _ | refine Below.drew ?_ | refine below_drewN' ?_ _)))
theorem fl_round_any (neg : Bool) (a : Option Addr) (c : Nat) (l : List Nat) (e : Int) (more : Bool) (w : World) (h : Sl w a c l) (hl : l.length ≤ 4000) (he : -10000 ≤ e ∧ e ≤ 2000) (he2 : e + 32 * (((Na.limbs (Na.val l)).length : Int) - 4) ≤ 2000) :
    Calls Tryz.prog 156 #[.bool neg, .slice a l.length c, .int .i64 e, .bool more] w (RetB (.int .u64 ((Fl.sgn neg + Fl.rd (Na.val l) e more : Nat) : Int)) w) := by
  by_cases h4 : (Na.limbs (Na.val l)).length ≤ 4
  · exact fl_round_short neg a c l e more w h hl he h4
  · exact fl_round_long neg a c l e more w h hl he (by omega) he2
end Go.Proofs.YtiglekomfgfilaaGreatDoor

/- Shr: what is refused. -/
namespace Go.Proofs.YtiglekomfgfilaaGreatDoor
set_option maxRecDepth 100000
set_option maxHeartbeats 1000000
set_option linter.all false
open Go.RowKit
def GivesS (q : List Nat × Bool × Int) (w : World) (e : Ending) (w' : World) : Prop := ∃ a c, e = .returned (.tuple #[.slice a q.1.length c, .bool q.2.1, .int .i64 q.2.2]) ∧ Sl w' a c q.1 ∧ Own w' w.heap.size a q.1.length ∧ Below w.heap.size w w'
theorem gives_snil {q : List Nat × Bool × Int} {w w' : World} (b : Bool) (e : Int) (hq : q = ([], b, e)) (hb : Below w.heap.size w w') : GivesS q w (.returned (.tuple #[.slice none 0 0, .bool b, .int .i64 e])) w' := by
  rw [hq]; exact ⟨none, 0, rfl, Sl.nil _ _ _, Own.nil _ _ _, hb⟩
section
variable (a : Option Addr) (c : Nat) (l : List Nat) (n : Int) (w : World) (h : Sl w a c l) (hn : l.length ≤ 1000000) (hi : -9223372036854775808 ≤ n ∧ n ≤ 9223372036854775807)
include h hn hi
theorem na_shr_arg (h0 : n < 0) : Calls Tryz.prog 91 #[.slice a l.length c, .int .i64 n] w (GivesS (Na.shr l n) w) := by
  have e := Lib.hid (gives_snil false 1 (show Na.shr l n = ([], false, 1) from if_pos h0) (Below.refl w.heap.size w))
  go_enter Tryz.func91, Tryz.ntmps91
  go_wp2
  refine bodyPost_ret (v := .tuple #[.slice none 0 0, .bool false, .int .i64 1]) (by simp [results, Tryz.results91, go_sem]) rfl e.out
theorem na_shr_big (h0 : 0 ≤ n) (hb : Na.big l = true) : Calls Tryz.prog 91 #[.slice a l.length c, .int .i64 n] w (GivesS (Na.shr l n) w) := by
  have hB : Below w.heap.size w (w.alloc (Obj.cells #[Value.slice a l.length c] 100)) := (Below.refl _ _).alloc (Nat.le_refl _) _
  have e := Lib.hid (gives_snil false 2 (show Na.shr l n = ([], false, 2) by rw [Na.shr, if_neg (by omega), if_pos hb]) hB)
  have H1 := Lib.hid (na_over1_any h hn true hb)
  clear hb
  go_enter Tryz.func91, Tryz.ntmps91
  go_wp2_with (first | (go_at_call 112; (with_reducible refine (H1.out).mono ?_); rintro e w' ⟨rfl, rfl⟩))
  refine bodyPost_ret (v := .tuple #[.slice none 0 0, .bool false, .int .i64 2]) (by simp [results, Tryz.results91, go_sem]) rfl e.out
end
end Go.Proofs.YtiglekomfgfilaaGreatDoor

/- Shr: nothing is left. -/
namespace Go.Proofs.YtiglekomfgfilaaGreatDoor
set_option maxRecDepth 100000
set_option maxHeartbeats 1000000
set_option linter.all false
open Go.RowKit
theorem na_shr_all (a : Option Addr) (c : Nat) (l : List Nat) (n : Nat) (w : World) (h : Sl w a c l) (hn : l.length ≤ 1000000) (hi : n ≤ 9223372036854775807) (hb : Na.big l = false) (hp : (Na.cut l).length ≤ n / 32) :
    Calls Tryz.prog 91 #[.slice a l.length c, .int .i64 n] w (GivesS (Na.shr l n) w) := by
  have hB : Below w.heap.size w (w.alloc (Obj.cells #[Value.slice a l.length c] 100)) := (Below.refl _ _).alloc (Nat.le_refl _) _
  have H1 := Lib.hid (na_over1_any h hn false hb)
  have hl1 : (Na.cut l).length ≤ 256 := Nat.le_of_not_lt (of_decide_eq_false hb)
  have H4 := na_cut_any a c l _ (h.on hB) hn
  have S1 := h.cut
  have hv : Na.val l < 2 ^ n := by
    have h1 := Na.val_lt (Na.cut l) (Na.ok_cut l)
    rw [Na.val_cut, show Na.B ^ (Na.cut l).length = 2 ^ (32 * (Na.cut l).length) by rw [Nat.pow_mul]] at h1
    exact Nat.lt_of_lt_of_le h1 (Nat.pow_le_pow_right (by decide) (by omega))
  have hnil := Na.cut_nil_iff l
  have e2 := Lib.hid (show Na.shr l n = ([], decide (0 < (Na.cut l).length), 0) by
    rw [Na.shr, if_neg (by omega), hb, if_neg (by simp), Int.toNat_natCast, Nat.div_eq_of_lt hv, Nat.mod_eq_of_lt hv, Na.limbs_zero]
    congr 2
    apply decide_eq_decide.2
    rw [List.length_pos_iff, ne_eq, ne_eq, hnil])
  have hrt : Na.rt (Na.cut l) = (Na.cut l).length := by rw [Na.rt_cut]; rfl
  obtain ⟨q, hq⟩ : ∃ q, q = Na.cut l := ⟨_, rfl⟩
  rw [← hq] at H4 hl1 S1 hp e2 hrt
  obtain ⟨ln, hqn⟩ : ∃ n, q.length = n := ⟨_, rfl⟩
  have H5 := na_right_any a c q _ (S1.on hB) (by omega)
  rw [hrt, hqn] at H5
  rw [hqn] at H4 hl1 hp e2
  have H4' := Lib.hid H4; have H5' := Lib.hid H5
  obtain ⟨p, hpp⟩ : ∃ p, p = n / 32 := ⟨_, rfl⟩
  have hpi : (n : Int) / 32 = (p : Int) := by omega
  rw [← hpp] at hp
  have hmin : min (p : Int) (ln : Int) = (ln : Int) := by omega
  have hs1 : ln ≤ c := by have := S1.cap; omega
  clear hb hv hnil hq hqn H4 H5 hrt hpp S1
  go_enter Tryz.func91, Tryz.ntmps91
  go_wp2_with (first | (go_at_call 112; (with_reducible refine (H1.out).mono ?_); rintro e w' ⟨rfl, rfl⟩) | (go_at_call 115; (with_reducible refine (H4'.out).mono ?_); rintro e w' ⟨rfl, rfl⟩) | (go_at_call 113; (with_reducible refine (H5'.out).mono ?_); rintro e w' ⟨rfl, rfl⟩) | (at_make; refine mk_u32 rfl _ _ rfl _ _ 0 rfl rfl (by simp) (by simp) (by omega) ?_))
  intro w1 hK hgrow
  have HB1 := Lib.hid (hgrow.out _ _ hB (by simp [World.size_alloc]))
  clear hgrow hB hK
  go_wp2_with (first | (refine wpList_copy_nothing rfl _ _ 100 100 rfl 81 Tryz.underlying100 (by kernel_rfl) _ _ _ _ _ _ rfl rfl (by simp) ?_))
  all_goals exact bodyPost_ret (v := .tuple #[.slice none 0 0, .bool (decide (0 < ln)), .int .i64 0]) (by simp [results, Tryz.results91, go_sem]) rfl (gives_snil _ 0 e2.out HB1.out)
end Go.Proofs.YtiglekomfgfilaaGreatDoor

/- Shr: limbs are left. -/
namespace Go.Proofs.YtiglekomfgfilaaGreatDoor
set_option maxRecDepth 100000
set_option maxHeartbeats 2000000
set_option linter.all false
open Go.RowKit
def shrLoop (m s g : Nat) (X : List Nat) (w : World) (iv : Value) (wr : World) : Prop := ∃ (i : Nat) (o : List Nat), i ≤ m ∧ iv = .int .i64 i ∧ Hid (Blk wr g o) ∧ Hid (o.length = m) ∧ Hid (Na.OK o) ∧ Hid (o.drop i = X.drop i) ∧
  Hid (Na.val (o.take i) + Na.B ^ i * (Na.val (X.drop i) / 2 ^ s) = Na.val X / 2 ^ s) ∧ Hid (Below w.heap.size w wr)
theorem rt_pos (l : List Nat) : 0 < Na.rt l ↔ Na.val l ≠ 0 := by
  rw [Na.rt, List.length_pos_iff, ne_eq, ne_eq, Na.cut_nil_iff]
theorem Na.shr_step (X : List Nat) (i s x y : Nat) (hs : s < 32) (hi : i < X.length) (hx : X[i] = x) (hxl : x < 4294967296) (hy : ∃ r, Na.val (X.drop (i + 1)) = y + Na.B * r) (P V : Nat)
    (inv : P + Na.B ^ i * (Na.val (X.drop i) / 2 ^ s) = V) : P + Na.B ^ i * ((x + y * 4294967296) / 2 ^ s % 4294967296) + Na.B ^ (i + 1) * (Na.val (X.drop (i + 1)) / 2 ^ s) = V := by
  obtain ⟨r, hr⟩ := hy
  have h1 := Na.shr_head x y (Na.val (X.drop (i + 1))) r s hs hxl hr
  have h2 : Na.val (X.drop i) = x + Na.B * Na.val (X.drop (i + 1)) := by rw [List.drop_eq_getElem_cons hi, hx]; rfl
  rw [h2, h1] at inv
  rw [← inv, Nat.mul_add, Nat.pow_succ, Nat.mul_assoc (Na.B ^ i) Na.B, Nat.add_assoc]
theorem shrLoop.drew {m s g : Nat} {X : List Nat} {w : World} {iv : Value} {wr : World} (h : shrLoop m s g X w iv wr) (n : Nat) : shrLoop m s g X w iv (wr.drewN n) := by
  obtain ⟨i, o, h1, h2, h3, h4, h5, h6, h7, h8⟩ := h
  exact ⟨i, o, h1, h2, Lib.hid (show _ = _ from h3.out), h4, h5, h6, h7, Lib.hid (below_drewN' h8.out n)⟩
theorem Na.shr_set (X o : List Nat) (i v V s : Nat) (hi : i < o.length) (hd : o.drop i = X.drop i) (h : Na.val (o.take i) + Na.B ^ i * v + Na.B ^ (i + 1) * (Na.val (X.drop (i + 1)) / 2 ^ s) = V) :
    (o.set i v).drop (i + 1) = X.drop (i + 1) ∧ Na.val ((o.set i v).take (i + 1)) + Na.B ^ (i + 1) * (Na.val (X.drop (i + 1)) / 2 ^ s) = V := by
  constructor
  · rw [List.drop_set, if_pos (by omega)]
    have := congrArg (List.drop 1) hd
    rwa [List.drop_drop, List.drop_drop] at this
  · rw [Na.val_set_take o i v hi, h]
theorem Na.drop_get {X o : List Nat} {i j : Nat} (hd : o.drop i = X.drop i) (hj : i ≤ j) (ho : j < o.length) (hx : j < X.length) : o[j] = X[j] := by
  have h1 : (o.drop i)[j - i]? = (X.drop i)[j - i]? := by rw [hd]
  rw [List.getElem?_drop, List.getElem?_drop, show i + (j - i) = j by omega, List.getElem?_eq_getElem ho, List.getElem?_eq_getElem hx] at h1
  exact Option.some.inj h1
theorem na_shr_main (a : Option Addr) (c : Nat) (l : List Nat) (n : Nat) (w : World) (h : Sl w a c l) (hn : l.length ≤ 1000000) (hi : n ≤ 9223372036854775807) (hb : Na.big l = false) (hp : n / 32 < (Na.cut l).length) :
    Calls Tryz.prog 91 #[.slice a l.length c, .int .i64 n] w (GivesS (Na.shr l n) w) := by
  have hB : Below w.heap.size w (w.alloc (Obj.cells #[Value.slice a l.length c] 100)) := (Below.refl _ _).alloc (Nat.le_refl _) _
  have H1 := Lib.hid (na_over1_any h hn false hb)
  have hl1 : (Na.cut l).length ≤ 256 := Nat.le_of_not_lt (of_decide_eq_false hb)
  have H4 := na_cut_any a c l _ (h.on hB) hn
  have S1 := h.cut
  have hv := Na.val_cut (a := l)
  obtain ⟨q, hq⟩ : ∃ q, q = Na.cut l := ⟨_, rfl⟩
  rw [← hq] at H4 hl1 S1 hp hv
  obtain ⟨p, hpp⟩ : ∃ p, p = n / 32 := ⟨_, rfl⟩
  obtain ⟨s, hss⟩ : ∃ s, s = n % 32 := ⟨_, rfl⟩
  have hpi : (n : Int) / 32 = (p : Int) := by omega
  have hsi : (n : Int) % 32 = (s : Int) := by omega
  have hs32 : s < 32 := by omega
  have hnps : n = 32 * p + s := by omega
  rw [← hpp] at hp
  have hqtd := Na.val_take_drop q p (by omega)
  have hlo := Na.val_lt (q.take p) (Na.ok_take S1.ok p)
  rw [List.length_take, Nat.min_eq_left (by omega)] at hlo
  obtain ⟨hdiv, hmod⟩ := Na.shr_lost (Na.val (q.take p)) (Na.val (q.drop p)) p s hlo
  rw [← hqtd, ← hnps, hv] at hdiv hmod
  have e2 := Lib.hid (show Na.shr l n = (Na.limbs (Na.val (q.drop p) / 2 ^ s), decide (Na.val (q.take p) ≠ 0 ∨ Na.val (q.drop p) % 2 ^ s ≠ 0), 0) by
    rw [Na.shr, if_neg (by omega), hb, if_neg (by simp), Int.toNat_natCast, hdiv]
    congr 2
    exact decide_eq_decide.2 hmod)
  have H5 := na_right_any a c (q.take p) _ ((S1.on hB).take p) (by rw [List.length_take]; omega)
  rw [List.length_take, Nat.min_eq_left (by omega)] at H5
  obtain ⟨m, hqm⟩ : ∃ m, q.length = p + m := ⟨q.length - p, by omega⟩
  have hm0 : 0 < m := by omega
  rw [hqm] at H4 hl1
  obtain ⟨b, o, rfl, hbl, hcell⟩ := S1.plain (by omega)
  have hcap : p + m ≤ c := by have := S1.cap; omega
  obtain ⟨X, hX⟩ : ∃ X, X = q.drop p := ⟨_, rfl⟩
  have hXl : X.length = m := by rw [hX, List.length_drop]; omega
  have hXok : Na.OK X := by rw [hX]; exact Na.ok_drop S1.ok p
  have HCX := Lib.hid (show ∀ j v, (u32s X)[j]? = some v → w.cell? ⟨b, o + p + j, none⟩ = some v by
    intro j v hv
    have hj : j < X.length := by have := (List.getElem?_eq_some_iff.1 hv).1; rwa [u32s_len] at this
    rw [u32s_get X j hj] at hv
    have e := hcell (p + j) (by omega)
    rw [Nat.add_assoc, e, ← Option.some.inj hv]
    congr 3
    simp [hX])
  rw [← hX] at e2
  obtain ⟨r0, hr0⟩ : ∃ r, r = Na.rt (q.take p) := ⟨_, rfl⟩
  have hr1 : decide (Na.val (q.take p) ≠ 0 ∨ Na.val X % 2 ^ s ≠ 0) = (decide (0 < r0) || decide (Na.val X % 2 ^ s ≠ 0)) := by
    rw [hr0]; simp only [Bool.decide_or, rt_pos]
  rw [← hr0] at H5
  rw [hr1] at e2
  have H4' := Lib.hid H4; have H5' := Lib.hid H5
  have HXL := Lib.hid hXl; have HXO := Lib.hid hXok
  have hmin : min (p : Int) ((p : Int) + (m : Int)) = (p : Int) := by omega
  have hcp : ¬ c = p := by omega
  have hpm : ((p + m : Nat) : Int) = (p : Int) + (m : Int) := by simp
  clear hb hv hq hqtd hlo hdiv hmod H4 H5 hpp hss hnps hX hXl hXok hr0 hr1 hqm S1 hcell
  go_enter Tryz.func91, Tryz.ntmps91
  go_wp2_with (first | (go_at_call 112; (with_reducible refine (H1.out).mono ?_); rintro e w' ⟨rfl, rfl⟩) | (go_at_call 115; (with_reducible refine (H4'.out).mono ?_); rintro e w' ⟨rfl, rfl⟩) | (go_at_call 113; (with_reducible refine (H5'.out).mono ?_); rintro e w' ⟨rfl, rfl⟩) | (at_make; refine mk_u32 rfl _ _ rfl _ _ m rfl rfl (by omega) (by omega) (by omega) ?_))
  intro w1 hK hgrow
  have HB1 := Lib.hid (hgrow.out _ _ hB (by simp [World.size_alloc]))
  have hK' := Lib.hid (show Blk w1 (w.heap.size + 1) (List.replicate m 0) by have := hK.out; simpa [World.size_alloc] using this)
  clear hgrow hB hK
  go_wp2_with (first | (refine wpList_copy_splice rfl _ _ 100 100 rfl 81 Tryz.underlying100 (by kernel_rfl) _ _ _ _ _ _ rfl rfl (w.heap.size + 1) 0 (u32s (List.replicate m 0)) 81 hK'.out (u32s X) (by rw [u32s_len, HXL.out]; show _ = min _ _; omega) (fun h0 => ⟨rfl, _, rfl, fun j v hv => (by rw [add_own]; exact (HB1.out.cell (p := ⟨b, o + p + j, none⟩) hbl).trans (HCX.out j v hv))⟩) (by simp [u32s_len, HXL.out]) (u32s_one _) w.heap.size w HB1.out (by omega) ?_))
  intro w2 hg2 hB2
  have HG2 := Lib.hid (show Blk w2 (w.heap.size + 1) X by have := hg2.out; rwa [splice_all _ _ (by simp [u32s_len, HXL.out])] at this)
  have HB2 := Lib.hid hB2
  clear hg2 hB2 hK' HB1 HCX H1 H4' H5' h
  go_wp2_with fail
  have hx0 : 0 < X.length := by have := HXL.out; omega
  have cx := HG2.out.cell 0 hx0
  have hx0l : X[0]'hx0 < 4294967296 := HXO.out _ (List.getElem_mem hx0)
  obtain ⟨x0, hx0e⟩ : ∃ x, X[0]'hx0 = x := ⟨_, rfl⟩
  rw [hx0e] at cx hx0l
  obtain ⟨M, hM⟩ : ∃ M, M = 2 ^ s := ⟨_, rfl⟩
  have hM1 : 1 ≤ M := by rw [hM]; exact Nat.pow_pos (by decide)
  have hM2 : M ≤ 2147483648 := by rw [hM]; exact Nat.pow_le_pow_right (by decide) (show s ≤ 31 by omega)
  have hMi : ((2 : Int) ^ s) = (M : Int) := by rw [hM]; simp
  have HM := Lib.hid hM; have HX0 := Lib.hid hx0e; clear hM hx0e
  clear hmin hcp hpm hpi hm0
  have hand := Na.and_mask x0 s hx0l hs32
  obtain ⟨z0, hz0⟩ : ∃ z, z = x0 % 2 ^ s := ⟨_, rfl⟩
  rw [← hz0, ← HM.out, show ((M - 1 : Nat) : Int) = (M : Int) - 1 by omega] at hand
  have hvz : Na.val X % 2 ^ s = z0 := by
    rw [hz0, ← HX0.out]
    have e1 : Na.val X = X[0] + Na.B * Na.val (X.drop 1) := by
      conv => lhs; rw [← List.drop_zero (l := X), List.drop_eq_getElem_cons hx0]
      rfl
    rw [e1, show Na.B = 2 ^ s * 2 ^ (32 - s) by rw [← Nat.pow_add, show s + (32 - s) = 32 by omega], Nat.mul_assoc, Nat.add_mul_mod_self_left]
  rw [hvz] at e2
  have hdz : decide (z0 ≠ 0) = ((z0 : Int) != 0) := by
    rw [Bool.eq_iff_iff]; simp
  rw [hdz] at e2
  have HAtS := Lib.hid (show shrLoop m s (w.heap.size + 1) X w (.int .i64 ((0 : Nat) : Int)) w2 from ⟨0, X, Nat.zero_le _, rfl, HG2, HXL, HXO, Lib.hid rfl, Lib.hid (by simp [Na.val]), HB2⟩)
  clear hz0 hvz hdz HG2 HB2
  by_cases hr : 0 < r0
  all_goals
    first
    | (have hd : decide (0 < r0) = true := decide_eq_true hr
       rw [hd, Bool.true_or] at e2
       simp only [hd]
       clear hMi hand cx
       go_quiet (fail)
       clear hd
       have hMi : ((2 : Int) ^ s) = (M : Int) := by rw [HM.out]; simp
       go_wp2_with fail)
    | (have hd : decide (0 < r0) = false := decide_eq_false hr
       rw [hd, Bool.false_or] at e2
       simp only [hd]
       go_quiet (fail)
       clear hd hand cx
       go_wp2_with fail)
    go_loopw [67] (shrLoop m s (w.heap.size + 1) X w) (fun i _ => m - (intOf i).toNat)
    case atStart => exact HAtS.out.drew _
    case round =>
      clear HAtS
      obtain ⟨i, o2, hi, rfl, HBl, HOl, HOk, HDr, HInv, HBe⟩ := hrel
      by_cases hlt : i < m
      · have ho1 : i < o2.length := by have := HOl.out; omega
        have hx1 : i < X.length := by have := HXL.out; omega
        have co := HBl.out.cell i ho1
        have fo := HBl.out.frozen i
        have hxl : X[i]'hx1 < 4294967296 := HXO.out _ (List.getElem_mem hx1)
        obtain ⟨x, hxe⟩ : ∃ x, X[i]'hx1 = x := ⟨_, rfl⟩
        rw [Na.drop_get HDr.out (Nat.le_refl _) ho1 hx1] at co
        rw [hxe] at co hxl
        by_cases hlt2 : i + 1 < m
        · have ho2 : i + 1 < o2.length := by have := HOl.out; omega
          have hx2 : i + 1 < X.length := by have := HXL.out; omega
          have co2 := HBl.out.cell (i + 1) ho2
          have hyl : X[i + 1]'hx2 < 4294967296 := HXO.out _ (List.getElem_mem hx2)
          have HR := Lib.hid (show ∃ r, Na.val (X.drop (i + 1)) = X[i + 1] + Na.B * r from ⟨Na.val (X.drop (i + 1 + 1)), by rw [List.drop_eq_getElem_cons hx2]; rfl⟩)
          obtain ⟨y, hye⟩ : ∃ x, X[i + 1]'hx2 = x := ⟨_, rfl⟩
          rw [Na.drop_get HDr.out (Nat.le_succ _) ho2 hx2] at co2
          rw [hye] at co2 hyl HR
          have HS := Lib.hid (Na.shr_set X o2 i _ _ s ho1 HDr.out (Na.shr_step X i s x y hs32 hx1 hxe hxl HR.out _ _ HInv.out))
          have hor := Na.or_shift x y 32 (by omega) (by omega)
          have e32 : IntKind.u64.wrap ((y : Int) * 2 ^ 32) = (y : Int) * 4294967296 := by rw [show ((y : Int) * 2 ^ 32) = ((y * 4294967296 : Nat) : Int) by simp, Na.wrap_u64 _ (by omega)]; simp
          rw [e32] at hor
          have e33 : x + y * 2 ^ 32 = x + y * 4294967296 := rfl
          rw [e33] at hor
          have hs3 : x + y * 4294967296 < 18446744073709551616 := by omega
          have hor' : bits BinOp.or IntKind.u64 (x : Int) ((y : Int) * 4294967296) = ((x + y * 4294967296 : Nat) : Int) := hor
          obtain ⟨t, ht⟩ : ∃ t, t = x + y * 4294967296 := ⟨_, rfl⟩
          rw [← ht] at HS hor' hs3
          clear ht hor e32 e33 hxe hye
          go_wp2_with fail
          go_roundw
          case rel =>
            have hq : (t : Int) / (M : Int) % 4294967296 = ((t / 2 ^ s % 4294967296 : Nat) : Int) := by rw [← HM.out]; simp
            rw [hq]
            exact ⟨i + 1, o2.set i (t / 2 ^ s % 4294967296), by omega, by go_num, Lib.hid (HBl.out.set i _), Lib.hid (by rw [List.length_set]; exact HOl.out), Lib.hid (Na.ok_set HOk.out _ _ (Nat.mod_lt _ (by decide))), Lib.hid HS.out.1, Lib.hid HS.out.2, Lib.hid (by have hbe := HBe.out; (repeat (first | exact Below.refl _ _ | assumption | refine Below.setCell ?_ (by first | omega | (simp <;> omega)) _ | refine Below.alloc ?_ (by first | omega | (simp <;> omega)) _ | refine Below.drew ?_ | refine below_drewN' ?_ _)))⟩
          case measure => simp [intOf]; omega
        · have HS := Lib.hid (Na.shr_set X o2 i _ _ s ho1 HDr.out (Na.shr_step X i s x 0 hs32 hx1 hxe hxl ⟨0, by rw [List.drop_of_length_le (by have := HXL.out; omega)]; rfl⟩ _ _ HInv.out))
          obtain ⟨t, ht⟩ : ∃ t, t = x + 0 * 4294967296 := ⟨_, rfl⟩
          rw [← ht] at HS
          obtain rfl : t = x := by omega
          clear ht hxe
          go_wp2_with fail
          go_roundw
          case rel =>
            have hq : (t : Int) / (M : Int) % 4294967296 = ((t / 2 ^ s % 4294967296 : Nat) : Int) := by rw [← HM.out]; simp
            rw [hq]
            exact ⟨i + 1, o2.set i (t / 2 ^ s % 4294967296), by omega, by go_num, Lib.hid (HBl.out.set i _), Lib.hid (by rw [List.length_set]; exact HOl.out), Lib.hid (Na.ok_set HOk.out _ _ (Nat.mod_lt _ (by decide))), Lib.hid HS.out.1, Lib.hid HS.out.2, Lib.hid (by have hbe := HBe.out; (repeat (first | exact Below.refl _ _ | assumption | refine Below.setCell ?_ (by first | omega | (simp <;> omega)) _ | refine Below.alloc ?_ (by first | omega | (simp <;> omega)) _ | refine Below.drew ?_ | refine below_drewN' ?_ _)))⟩
          case measure => simp [intOf]; omega
      · obtain rfl : i = m := by omega
        have hv : Na.val o2 = Na.val X / 2 ^ s := by
          have := HInv.out
          rw [List.take_of_length_le (by have := HOl.out; omega), List.drop_of_length_le (by have := HXL.out; omega)] at this
          simpa [Na.val] using this
        have hcut : Na.cut o2 = Na.limbs (Na.val X / 2 ^ s) := by rw [Na.cut, hv]
        have hs3 := HBl.out.sl HOk.out (c := i) (by have := HOl.out; omega)
        have hc := na_cut_any (some ⟨w.heap.size + 1, 0, none⟩) i o2 wr hs3 (by have := HOl.out; omega)
        have hs4 := hs3.cut
        rw [HOl.out, hcut] at hc
        rw [hcut] at hs4
        have HC := Lib.hid hc; have HS4 := Lib.hid hs4
        clear hc hs4 hs3 hcut hv
        go_wp2_with (first | (go_at_call 115; (with_reducible refine (HC.out).mono ?_); rintro e w' ⟨rfl, rfl⟩))
        first
        | refine bodyPost_ret (v := .tuple #[.slice (some ⟨w.heap.size + 1, 0, none⟩) (Na.limbs (Na.val X / 2 ^ s)).length i, .bool true, .int .i64 0]) (by simp [results, Tryz.results91, go_sem]) rfl (by rw [e2.out]; exact ⟨_, _, rfl, HS4.out, HBl.out.own (by omega), HBe.out⟩)
        | refine bodyPost_ret (v := .tuple #[.slice (some ⟨w.heap.size + 1, 0, none⟩) (Na.limbs (Na.val X / 2 ^ s)).length i, .bool ((z0 : Int) != 0), .int .i64 0]) (by simp [results, Tryz.results91, go_sem]) rfl (by rw [e2.out]; exact ⟨_, _, rfl, HS4.out, HBl.out.own (by omega), HBe.out⟩)
theorem na_shr_any (a : Option Addr) (c : Nat) (l : List Nat) (n : Int) (w : World) (h : Sl w a c l) (hn : l.length ≤ 1000000) (hi : -9223372036854775808 ≤ n ∧ n ≤ 9223372036854775807) :
    Calls Tryz.prog 91 #[.slice a l.length c, .int .i64 n] w (GivesS (Na.shr l n) w) := by
  by_cases h0 : n < 0
  · exact na_shr_arg a c l n w h hn hi h0
  · cases hb : Na.big l with
    | true => exact na_shr_big a c l n w h hn hi (by omega) hb
    | false =>
      obtain ⟨n', rfl⟩ : ∃ x : Nat, n = x := ⟨n.toNat, by omega⟩
      by_cases hp : n' / 32 < (Na.cut l).length
      · exact na_shr_main a c l n' w h hn (by omega) hb hp
      · exact na_shr_all a c l n' w h hn (by omega) hb (by omega)
end Go.Proofs.YtiglekomfgfilaaGreatDoor
