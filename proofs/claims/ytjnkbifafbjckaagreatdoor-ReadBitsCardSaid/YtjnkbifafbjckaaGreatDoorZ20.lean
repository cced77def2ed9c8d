/- binary64 in the program: a number of two words, times a power of two, is rounded (2): Join. -/
import Derived.Test.YtjnkbifafbjckaaGreatDoorZ19
import Derived.Test.YtjnkbifafbjckaaGreatDoorZ2
import Derived.Test.YtjnkbifafbjckaaGreatDoorZ9
namespace Go.Proofs.YtjnkbifafbjckaaGreatDoor
set_option linter.all false
open Go.RowKit

theorem u128_hi (a b : Int) (w : World) : (Instr.field 57 (.agg #[.int .u64 a, .int .u64 b]) 0).run Tryz.prog w = .ok (.int .u64 a) w := by kernel_rfl
theorem u128_lo (a b : Int) (w : World) : (Instr.field 57 (.agg #[.int .u64 a, .int .u64 b]) 1).run Tryz.prog w = .ok (.int .u64 b) w := by kernel_rfl
attribute [local go_sem] u128_hi u128_lo
theorem Fl.and_one64 (x : Nat) (hx : x < 18446744073709551616) : Go.bits BinOp.and IntKind.u64 (x : Int) 1 = ((x % 2 : Nat) : Int) := Fl.and_mask x 1 1 hx (by decide) (by decide)

set_option maxRecDepth 100000 in
set_option maxHeartbeats 2000000 in
theorem fl_join1_up (b hi lo t : Nat) (n : Int) (w : World) (hn : n = -(t : Int)) (ht : t < 64) (c0 : w.cell? ⟨b, 0, none⟩ = some (.int .u64 hi)) (c1 : w.cell? ⟨b, 1, none⟩ = some (.int .u64 lo)) (hb : b < w.heap.size) (hh : hi < 18446744073709551616) (hl : lo < 18446744073709551616) (hfit : (hi * 18446744073709551616 + lo) * 2 ^ t < 18446744073709551616) :
    Calls Tryz.prog 111 #[.int .i64 n, .pointer (some ⟨b, 0, none⟩)] w (RetB (.tuple #[.int .u64 (((hi * 18446744073709551616 + lo) * 2 ^ t : Nat) : Int), .bool false, .bool false]) w) := by
  have hs := fun w1 => wi_shl_any hi lo t w1 hh hl ht
  rw [Nat.mod_eq_of_lt hfit] at hs
  obtain ⟨V, hV⟩ : ∃ V, V = (hi * 18446744073709551616 + lo) * 2 ^ t := ⟨_, rfl⟩
  rw [← hV] at hs hfit ⊢
  obtain ⟨U, hU⟩ : ∃ U, U = V / 18446744073709551616 % 18446744073709551616 := ⟨_, rfl⟩
  rw [← hU] at hs
  have HS := Lib.hid hs
  have hneg : -n = (t : Int) := by omega
  have hn0 : n ≤ 0 := by omega
  have hnl : -64 < n := by omega
  clear hs hV hU hn
  go_enter Tryz.func111, Tryz.ntmps111
  go_wp2_with (go_at_call 112; (with_reducible refine (HS.out _).mono ?_); rintro e w1 ⟨rfl, hb_w1⟩; have hB_w1 : Below (w).heap.size (w) w1 := Below.trans (by (repeat (first | exact Below.refl _ _ | assumption | refine Below.setCell ?_ (by first | omega | (simp <;> omega)) _ | refine Below.alloc ?_ (by first | omega | (simp <;> omega)) _ | refine Below.drew ?_ | refine below_drewN' ?_ _))) (hb_w1.mono (by first | omega | (simp <;> omega))); obtain ⟨hc_w1, hf_w1⟩ := bcell hb_w1; have hz_w1 := hb_w1.size; (try simp only [size_drew', size_drewN', World.size_alloc, World.size_setCell] at hz_w1); have hl0_w1 : b < w1.heap.size := (by omega); have hm0_w1 : b ≤ w1.heap.size := (by omega); have hn0_w1 : ¬ b = w1.heap.size := (by omega); have hq0_w1 : ¬ w1.heap.size = b := (by omega); have hr0_w1 := fun o => hc_w1 (b) o (by (try simp only [size_drew', size_drewN', World.size_alloc, World.size_setCell]); omega); have hg0_w1 := fun o => hf_w1 (b) o (by (try simp only [size_drew', size_drewN', World.size_alloc, World.size_setCell]); omega))
  (refine bodyPost_ret (v := .tuple #[.int .u64 ((V : Nat) : Int), .bool false, .bool false]) (by (simp [results, Tryz.results111, go_sem]; done)) rfl (RetB.of rfl (by (repeat (first | exact Below.refl _ _ | assumption | refine Below.setCell ?_ (by first | omega | (simp <;> omega)) _ | refine Below.alloc ?_ (by first | omega | (simp <;> omega)) _ | refine Below.drew ?_ | refine below_drewN' ?_ _)))))

set_option maxRecDepth 100000 in
set_option maxHeartbeats 2000000 in
theorem fl_join1_down (b hi lo k : Nat) (w : World) (hk0 : 0 < k) (hk : k ≤ 100000) (c0 : w.cell? ⟨b, 0, none⟩ = some (.int .u64 hi)) (c1 : w.cell? ⟨b, 1, none⟩ = some (.int .u64 lo)) (hb : b < w.heap.size) (hh : hi < 18446744073709551616) (hl : lo < 18446744073709551616) (hfit : (hi * 18446744073709551616 + lo) / 2 ^ k < 18446744073709551616) :
    Calls Tryz.prog 111 #[.int .i64 k, .pointer (some ⟨b, 0, none⟩)] w (RetB (.tuple #[.int .u64 (((hi * 18446744073709551616 + lo) / 2 ^ k : Nat) : Int), .bool (decide ((hi * 18446744073709551616 + lo) / 2 ^ (k - 1) % 2 = 1)), .bool (decide ((hi * 18446744073709551616 + lo) % 2 ^ (k - 1) ≠ 0))]) w) := by
  obtain ⟨j, rfl⟩ : ∃ j, k = j + 1 := ⟨k - 1, by omega⟩
  rw [Nat.add_sub_cancel]
  have hs := fun w1 => wi_shr_any hi lo j w1 hh hl (by omega)
  obtain ⟨N, hN⟩ : ∃ N, N = hi * 18446744073709551616 + lo := ⟨_, rfl⟩
  have hNl : N < 340282366920938463463374607431768211456 := by omega
  rw [← hN] at hs hfit ⊢
  have hqle : N / 2 ^ j ≤ N := Nat.div_le_self _ _
  have hhalf : N / 2 ^ (j + 1) = N / 2 ^ j / 2 := by rw [Nat.pow_succ, Nat.div_div_eq_div_mul]
  obtain ⟨q, hq⟩ : ∃ q, q = N / 2 ^ j := ⟨_, rfl⟩
  rw [← hq] at hs hqle hhalf ⊢
  rw [hhalf] at hfit ⊢
  obtain ⟨z, hz⟩ : ∃ z, z = decide (N % 2 ^ j ≠ 0) := ⟨_, rfl⟩
  rw [← hz] at hs ⊢
  obtain ⟨A, hA⟩ : ∃ A, A = q / 18446744073709551616 := ⟨_, rfl⟩
  obtain ⟨B, hB⟩ : ∃ A, A = q % 18446744073709551616 := ⟨_, rfl⟩
  rw [← hA, ← hB] at hs
  have hAl : A < 18446744073709551616 := by omega
  have hBl : B < 18446744073709551616 := by omega
  have h2 := fun w1 => (show Calls Tryz.prog 112 #[.agg #[.int .u64 (A : Int), .int .u64 (B : Int)], .int .i64 63] w1 (RetB (.agg #[.int .u64 (((A * 18446744073709551616 + B) * 2 ^ 63 / 18446744073709551616 % 18446744073709551616 : Nat) : Int), .int .u64 (((A * 18446744073709551616 + B) * 2 ^ 63 % 18446744073709551616 : Nat) : Int)]) w1) from wi_shl_any A B 63 w1 hAl hBl (by omega))
  rw [show A * 18446744073709551616 + B = q by omega, show q * 2 ^ 63 / 18446744073709551616 % 18446744073709551616 = q / 2 by omega] at h2
  obtain ⟨H, hH⟩ : ∃ H, H = q / 2 := ⟨_, rfl⟩
  obtain ⟨C, hC⟩ : ∃ H, H = q * 2 ^ 63 % 18446744073709551616 := ⟨_, rfl⟩
  rw [← hH, ← hC] at h2
  rw [← hH]
  have hand := Fl.and_one64 B hBl
  rw [show B % 2 = q % 2 by omega] at hand
  obtain ⟨r, hr⟩ : ∃ r, r = q % 2 := ⟨_, rfl⟩
  rw [← hr] at hand ⊢
  have hr2 : r = 0 ∨ r = 1 := by omega
  have HS := Lib.hid hs; have H2 := Lib.hid h2
  have hji : ((j + 1 : Nat) : Int) - 1 = (j : Int) := by omega
  have hjp : decide (((j + 1 : Nat) : Int) ≤ 0) = false := decide_eq_false (by omega)
  obtain ⟨K, hK⟩ : ∃ K : Int, K = ((j + 1 : Nat) : Int) := ⟨_, rfl⟩
  rw [← hK] at hji hjp ⊢
  have hKb : 0 < K ∧ K ≤ 100000 := by omega
  obtain ⟨k1, k2⟩ := hKb
  clear hs h2 hA hB hH hC hr hz hq hhalf hN hK
  go_enter Tryz.func111, Tryz.ntmps111
  go_wp2_with (first
    | (go_at_call 113; (with_reducible refine (HS.out _).mono ?_); rintro e w1 ⟨rfl, hb_w1⟩; have hB_w1 : Below (w).heap.size (w) w1 := Below.trans (by (repeat (first | exact Below.refl _ _ | assumption | refine Below.setCell ?_ (by first | omega | (simp <;> omega)) _ | refine Below.alloc ?_ (by first | omega | (simp <;> omega)) _ | refine Below.drew ?_ | refine below_drewN' ?_ _))) (hb_w1.mono (by first | omega | (simp <;> omega))); obtain ⟨hc_w1, hf_w1⟩ := bcell hb_w1; have hz_w1 := hb_w1.size; (try simp only [size_drew', size_drewN', World.size_alloc, World.size_setCell] at hz_w1); have hl0_w1 : b < w1.heap.size := (by omega); have hm0_w1 : b ≤ w1.heap.size := (by omega); have hn0_w1 : ¬ b = w1.heap.size := (by omega); have hq0_w1 : ¬ w1.heap.size = b := (by omega); have hr0_w1 := fun o => hc_w1 (b) o (by (try simp only [size_drew', size_drewN', World.size_alloc, World.size_setCell]); omega); have hg0_w1 := fun o => hf_w1 (b) o (by (try simp only [size_drew', size_drewN', World.size_alloc, World.size_setCell]); omega)))
  have hBX : Below w.heap.size w (w1.alloc (.cells #[.int .u64 A, .int .u64 B] 57)) := hB_w1.alloc hB_w1.size _
  have CX := C2.new w1 A B
  obtain ⟨X, hX⟩ : ∃ X, X = (w1.alloc (.cells #[.int .u64 A, .int .u64 B] 57)) := ⟨_, rfl⟩
  obtain ⟨g, hg⟩ : ∃ g, g = w1.heap.size := ⟨_, rfl⟩
  rw [← hX, ← hg] at CX
  rw [← hX] at hBX
  rw [← hX, ← hg]
  have x0 := CX.1.get 0 rfl
  have x1 := CX.1.get 1 rfl
  have xl := CX.1.1
  have bl := hBX.size
  have hrb : ((r : Int) == 1) = decide (r = 1) := by rcases hr2 with rfl | rfl <;> rfl
  clear hX hg CX hr0_w1 hg0_w1 hc_w1 hf_w1 c0 c1
  have hne0 := World.new_ne X _ x0
  have hne1 := World.new_ne X _ x1
  go_region_held3 (fun w' => w'.cell? ⟨g, 0, none⟩ = some (.int .u64 A) ∧ w'.cell? ⟨g, 1, none⟩ = some (.int .u64 B)) (first | go_keep | (refine ⟨?_, ?_⟩ <;> (first | (rw [hr0_w2]; assumption))) | (refine ⟨?_, ?_⟩ <;> (first | (go_simp; done) | (simp [go_sem, *]; done))))
    (first | (go_at_call 112; (with_reducible refine (H2.out _).mono ?_); rintro e w2 ⟨rfl, hb_w2⟩; have hB_w2 : Below (X).heap.size (X) w2 := Below.trans (by (repeat (first | exact Below.refl _ _ | assumption | refine Below.setCell ?_ (by first | omega | (simp <;> omega)) _ | refine Below.alloc ?_ (by first | omega | (simp <;> omega)) _ | refine Below.drew ?_ | refine below_drewN' ?_ _))) (hb_w2.mono (by first | omega | (simp <;> omega))); obtain ⟨hc_w2, hf_w2⟩ := bcell hb_w2; have hz_w2 := hb_w2.size; (try simp only [size_drew', size_drewN', World.size_alloc, World.size_setCell] at hz_w2); have hl0_w2 : g < w2.heap.size := (by omega); have hm0_w2 : g ≤ w2.heap.size := (by omega); have hn0_w2 : ¬ g = w2.heap.size := (by omega); have hq0_w2 : ¬ w2.heap.size = g := (by omega); have hr0_w2 := fun o => hc_w2 (g) o (by (try simp only [size_drew', size_drewN', World.size_alloc, World.size_setCell]); omega); have hg0_w2 := fun o => hf_w2 (g) o (by (try simp only [size_drew', size_drewN', World.size_alloc, World.size_setCell]); omega)))
  all_goals (try go_wp2)
  all_goals (
    have hBW : Below w.heap.size w w2 := hBX.trans (hB_w2.mono bl)
    (refine bodyPost_ret (v := .tuple #[.int .u64 (H : Nat), .bool (decide (r = 1)), .bool z]) (by (simp [results, Tryz.results111, go_sem, hrb]; done)) rfl (RetB.of rfl (by (repeat (first | exact Below.refl _ _ | assumption | refine Below.setCell ?_ (by first | omega | (simp <;> omega)) _ | refine Below.alloc ?_ (by first | omega | (simp <;> omega)) _ | refine Below.drew ?_ | refine below_drewN' ?_ _))))))

set_option maxRecDepth 100000 in
set_option maxHeartbeats 4000000 in
theorem fl_settle_any (neg : Bool) (b hi lo : Nat) (e : Int) (more : Bool) (w : World) (c0 : w.cell? ⟨b, 0, none⟩ = some (.int .u64 hi)) (c1 : w.cell? ⟨b, 1, none⟩ = some (.int .u64 lo)) (hb : b < w.heap.size) (hh : hi < 18446744073709551616) (hl : lo < 18446744073709551616) (he : -10000 ≤ e ∧ e ≤ 2000) :
    Calls Tryz.prog 109 #[.bool neg, .int .i64 (Na.bitLen (hi * 18446744073709551616 + lo) : Nat), .int .i64 e, .bool more, .func (.func 111) #[] #[.pointer (some ⟨b, 0, none⟩)]] w (RetB (.int .u64 ((Fl.sgn neg + Fl.rd (hi * 18446744073709551616 + lo) e more : Nat) : Int)) w) := by
  obtain ⟨e1, e2⟩ := he
  have J1 := fun (t : Nat) (n : Int) (hn : n = -(t : Int)) (ht : t < 64) hfit w1 (k0 : w1.cell? ⟨b, 0, none⟩ = some (.int .u64 hi)) (k1 : w1.cell? ⟨b, 1, none⟩ = some (.int .u64 lo)) (kb : b < w1.heap.size) => fl_join1_up b hi lo t n w1 hn ht k0 k1 kb hh hl hfit
  have J2 := fun (k : Nat) (hk0 : 0 < k) (hk : k ≤ 100000) hfit w1 (k0 : w1.cell? ⟨b, 0, none⟩ = some (.int .u64 hi)) (k1 : w1.cell? ⟨b, 1, none⟩ = some (.int .u64 lo)) (kb : b < w1.heap.size) => fl_join1_down b hi lo k w1 hk0 hk k0 k1 kb hh hl hfit
  obtain ⟨N, hN⟩ : ∃ N, N = hi * 18446744073709551616 + lo := ⟨_, rfl⟩
  have hNl : N < 2 ^ 128 := by omega
  rw [← hN] at J1 J2 ⊢
  by_cases h0 : N = 0
  · subst h0
    have hf := fun w1 => fl_far_zero neg e w1 (by omega)
    have HF := Lib.hid hf
    rw [Fl.rd, if_pos rfl, Nat.add_zero, show Na.bitLen 0 = 0 from rfl]
    clear hf J1 J2 hN
    go_enter Tryz.func109, Tryz.ntmps109
    go_wp2_with (go_at_call 161; (with_reducible refine (HF.out _).mono ?_); rintro e w' ⟨rfl, rfl⟩)
    go_ret
    exact RetB.of rfl (by (repeat (first | exact Below.refl _ _ | assumption | refine Below.setCell ?_ (by first | omega | (simp <;> omega)) _ | refine Below.alloc ?_ (by first | omega | (simp <;> omega)) _ | refine Below.drew ?_ | refine below_drewN' ?_ _)))
  · obtain ⟨bl1, bl2, bl3⟩ := Fl.bitLen_ge h0
    have hLl : Na.bitLen N ≤ 128 := Na.bitLen_le' hNl
    have hu : Fl.ulp N e = max (e + (Na.bitLen N : Int) - 53) (-1074) := rfl
    have hkb := fun k hk hk0 => Fl.kept_bounds (e := e) h0 k hk hk0
    have hub := fun t ht => Fl.up_bounds (e := e) h0 t ht
    have hrb := (Fl.rdm_bounds (e := e) h0 more).1
    obtain ⟨L, hL⟩ : ∃ L, L = Na.bitLen N := ⟨_, rfl⟩
    rw [← hL] at hu hLl bl3 ⊢
    have HF := Lib.hid (fun w1 => fl_far_no neg L e w1 (by omega) ⟨e1, e2⟩)
    have hun := fun w1 => fl_unit_any L e w1 (by omega) (by omega)
    rw [← hu] at hun
    obtain ⟨u, hue⟩ : ∃ u, u = Fl.ulp N e := ⟨_, rfl⟩
    rw [← hue] at hun hu hkb hub hrb
    have hrd := Fl.rd_of (more := more) h0 hue rfl
    obtain ⟨M, hM⟩ : ∃ M, M = Fl.rdm N (u - e) more := ⟨_, rfl⟩
    rw [← hM] at hrd hrb
    have hul : -1074 ≤ u ∧ u ≤ 100000 := by omega
    have HP := Lib.hid (fun w1 => fl_pack_any neg M u w1 hrb hul)
    have HU := Lib.hid hun
    have hpk : Fl.rd N e more = Fl.pk M u := by rw [hrd, Fl.pk]
    rw [hpk]
    obtain ⟨D, hD⟩ : ∃ D, D = Fl.sgn neg + Fl.pk M u := ⟨_, rfl⟩
    rw [← hD] at HP ⊢
    obtain ⟨hul1, hul2⟩ := hul
    by_cases hk : u ≤ e
    · obtain ⟨t, ht⟩ : ∃ t : Nat, t = (e - u).toNat := ⟨_, rfl⟩
      obtain ⟨k1, -⟩ := hub t (by omega)
      have ht64 : t < 64 := by
        rcases Nat.lt_or_ge t 64 with h | h
        · exact h
        · have h1 : 2 ^ 64 ≤ 2 ^ t := Nat.pow_le_pow_right (by decide) h
          have h2 : 1 * 2 ^ t ≤ N * 2 ^ t := Nat.mul_le_mul_right _ (by omega)
          omega
      have hMe : M = N * 2 ^ t := by rw [hM, Fl.rdm, if_pos (by omega), show (-(u - e)).toNat = t by omega]
      have HJ := Lib.hid (J1 t (u - e) (by omega) ht64 (by omega))
      rw [← hMe] at HJ k1
      obtain ⟨d, hd⟩ : ∃ d, d = u - e := ⟨_, rfl⟩
      rw [← hd] at HJ
      have hdb : -100000 ≤ d ∧ d ≤ 0 := by omega
      have hde : u - e = d := hd.symm
      clear hd hun J1 J2 hkb hub hrd hM hMe hD hL hue bl1 bl2 hu hpk hN ht
      go_enter Tryz.func109, Tryz.ntmps109
      go_wp2_with (first
        | (go_at_call 161; (with_reducible refine (HF.out _).mono ?_); rintro e w' ⟨rfl, rfl⟩)
        | (go_at_call 162; (with_reducible refine (HU.out _).mono ?_); rintro e w' ⟨rfl, rfl⟩)
        | (go_at_call 111; (with_reducible refine (HJ.out _ (by assumption) (by assumption) (by omega)).mono ?_); rintro e w1 ⟨rfl, hb_w1⟩; have hB_w1 : Below (w).heap.size (w) w1 := Below.trans (by (repeat (first | exact Below.refl _ _ | assumption | refine Below.setCell ?_ (by first | omega | (simp <;> omega)) _ | refine Below.alloc ?_ (by first | omega | (simp <;> omega)) _ | refine Below.drew ?_ | refine below_drewN' ?_ _))) (hb_w1.mono (by first | omega | (simp <;> omega))); obtain ⟨hc_w1, hf_w1⟩ := bcell hb_w1; have hz_w1 := hb_w1.size; (try simp only [size_drew', size_drewN', World.size_alloc, World.size_setCell] at hz_w1); have hl0_w1 : b < w1.heap.size := (by omega); have hm0_w1 : b ≤ w1.heap.size := (by omega); have hn0_w1 : ¬ b = w1.heap.size := (by omega); have hq0_w1 : ¬ w1.heap.size = b := (by omega); have hr0_w1 := fun o => hc_w1 (b) o (by (try simp only [size_drew', size_drewN', World.size_alloc, World.size_setCell]); omega); have hg0_w1 := fun o => hf_w1 (b) o (by (try simp only [size_drew', size_drewN', World.size_alloc, World.size_setCell]); omega))
        | (go_at_call 163; (with_reducible refine (HP.out _).mono ?_); rintro e w' ⟨rfl, rfl⟩))
      go_ret
      exact RetB.of rfl (by (repeat (first | exact Below.refl _ _ | assumption | refine Below.setCell ?_ (by first | omega | (simp <;> omega)) _ | refine Below.alloc ?_ (by first | omega | (simp <;> omega)) _ | refine Below.drew ?_ | refine below_drewN' ?_ _)))
    · obtain ⟨k, hkk⟩ : ∃ k : Nat, k = (u - e).toNat := ⟨_, rfl⟩
      have hki : u - e = (k : Int) := by omega
      have hk0 : 0 < k := by omega
      obtain ⟨k1, -⟩ := hkb k (by omega) hk0
      have HJ := Lib.hid (J2 k hk0 (by omega) (by omega))
      have hM2 : M = N / 2 ^ k + (decide (N / 2 ^ (k - 1) % 2 = 1) && (decide (N % 2 ^ (k - 1) ≠ 0) || more || decide (N / 2 ^ k % 2 = 1))).toNat := by
        rw [hM, Fl.rdm, if_neg (by omega), ← hkk, Fl.upw]
      obtain ⟨q, hq⟩ : ∃ q, q = N / 2 ^ k := ⟨_, rfl⟩
      obtain ⟨half, hhf⟩ : ∃ b, b = decide (N / 2 ^ (k - 1) % 2 = 1) := ⟨_, rfl⟩
      obtain ⟨rest, hrs⟩ : ∃ b, b = decide (N % 2 ^ (k - 1) ≠ 0) := ⟨_, rfl⟩
      rw [← hq, ← hhf, ← hrs] at HJ hM2
      rw [← hq] at k1
      have HM2 := Lib.hid hM2
      have hand : Go.bits BinOp.and IntKind.u64 (q : Int) 1 = ((q % 2 : Nat) : Int) := Fl.and_one64 q (by omega)
      have hqm : q % 2 = 1 ∨ q % 2 = 0 := by omega
      have hkl : k ≤ 100000 := by omega
      clear hun J1 J2 hkb hub hrd hM hM2 hD hL hue bl1 bl2 hu hpk hN hkk hq hhf hrs
      have walk : ∀ (r : Nat) (c : Bool), r = q % 2 → c = (half && (rest || more || decide (r = 1))) → M = q + c.toNat → Calls Tryz.prog 109 #[.bool neg, .int .i64 (L : Nat), .int .i64 e, .bool more, .func (.func 111) #[] #[.pointer (some ⟨b, 0, none⟩)]] w (RetB (.int .u64 ((D : Nat) : Int)) w) := by
        intro r c hr hc hMr
        clear HM2
        rw [← hr] at hand hqm
        clear hr
        cases c
        · have e : M = q := hMr
          clear hMr
          subst e
          cases half <;> cases rest <;> cases more <;> rcases hqm with rfl | rfl
          all_goals first
            | (exfalso; revert hc; decide; done)
            | skip
          all_goals (
            clear hc
            go_enter Tryz.func109, Tryz.ntmps109
            go_wp2_with (first
              | (go_at_call 161; (with_reducible refine (HF.out _).mono ?_); rintro e w' ⟨rfl, rfl⟩)
              | (go_at_call 162; (with_reducible refine (HU.out _).mono ?_); rintro e w' ⟨rfl, rfl⟩)
              | (go_at_call 111; (with_reducible refine (HJ.out _ (by assumption) (by assumption) (by omega)).mono ?_); rintro e w1 ⟨rfl, hb_w1⟩; have hB_w1 : Below (w).heap.size (w) w1 := Below.trans (by (repeat (first | exact Below.refl _ _ | assumption | refine Below.setCell ?_ (by first | omega | (simp <;> omega)) _ | refine Below.alloc ?_ (by first | omega | (simp <;> omega)) _ | refine Below.drew ?_ | refine below_drewN' ?_ _))) (hb_w1.mono (by first | omega | (simp <;> omega))); obtain ⟨hc_w1, hf_w1⟩ := bcell hb_w1; have hz_w1 := hb_w1.size; (try simp only [size_drew', size_drewN', World.size_alloc, World.size_setCell] at hz_w1); have hl0_w1 : b < w1.heap.size := (by omega); have hm0_w1 : b ≤ w1.heap.size := (by omega); have hn0_w1 : ¬ b = w1.heap.size := (by omega); have hq0_w1 : ¬ w1.heap.size = b := (by omega); have hr0_w1 := fun o => hc_w1 (b) o (by (try simp only [size_drew', size_drewN', World.size_alloc, World.size_setCell]); omega); have hg0_w1 := fun o => hf_w1 (b) o (by (try simp only [size_drew', size_drewN', World.size_alloc, World.size_setCell]); omega))
              | (go_at_call 163; (with_reducible refine (HP.out _).mono ?_); rintro e w' ⟨rfl, rfl⟩))
            go_ret
            exact RetB.of rfl (by (repeat (first | exact Below.refl _ _ | assumption | refine Below.setCell ?_ (by first | omega | (simp <;> omega)) _ | refine Below.alloc ?_ (by first | omega | (simp <;> omega)) _ | refine Below.drew ?_ | refine below_drewN' ?_ _))))
        · have e : (q : Int) + 1 = (M : Int) := by have : M = q + 1 := hMr; omega
          clear hMr
          cases half <;> cases rest <;> cases more <;> rcases hqm with rfl | rfl
          all_goals first
            | (exfalso; revert hc; decide; done)
            | skip
          all_goals (
            clear hc
            go_enter Tryz.func109, Tryz.ntmps109
            go_wp2_with (first
              | (go_at_call 161; (with_reducible refine (HF.out _).mono ?_); rintro e w' ⟨rfl, rfl⟩)
              | (go_at_call 162; (with_reducible refine (HU.out _).mono ?_); rintro e w' ⟨rfl, rfl⟩)
              | (go_at_call 111; (with_reducible refine (HJ.out _ (by assumption) (by assumption) (by omega)).mono ?_); rintro e w1 ⟨rfl, hb_w1⟩; have hB_w1 : Below (w).heap.size (w) w1 := Below.trans (by (repeat (first | exact Below.refl _ _ | assumption | refine Below.setCell ?_ (by first | omega | (simp <;> omega)) _ | refine Below.alloc ?_ (by first | omega | (simp <;> omega)) _ | refine Below.drew ?_ | refine below_drewN' ?_ _))) (hb_w1.mono (by first | omega | (simp <;> omega))); obtain ⟨hc_w1, hf_w1⟩ := bcell hb_w1; have hz_w1 := hb_w1.size; (try simp only [size_drew', size_drewN', World.size_alloc, World.size_setCell] at hz_w1); have hl0_w1 : b < w1.heap.size := (by omega); have hm0_w1 : b ≤ w1.heap.size := (by omega); have hn0_w1 : ¬ b = w1.heap.size := (by omega); have hq0_w1 : ¬ w1.heap.size = b := (by omega); have hr0_w1 := fun o => hc_w1 (b) o (by (try simp only [size_drew', size_drewN', World.size_alloc, World.size_setCell]); omega); have hg0_w1 := fun o => hf_w1 (b) o (by (try simp only [size_drew', size_drewN', World.size_alloc, World.size_setCell]); omega))
              | (go_at_call 163; (with_reducible refine (HP.out _).mono ?_); rintro e w' ⟨rfl, rfl⟩))
            go_ret
            exact RetB.of rfl (by (repeat (first | exact Below.refl _ _ | assumption | refine Below.setCell ?_ (by first | omega | (simp <;> omega)) _ | refine Below.alloc ?_ (by first | omega | (simp <;> omega)) _ | refine Below.drew ?_ | refine below_drewN' ?_ _))))
      exact walk _ _ rfl rfl HM2.out

end Go.Proofs.YtjnkbifafbjckaaGreatDoor

/- binary64 in the program: a number of two words, times a power of two, is rounded (3): Join. -/
namespace Go.Proofs.YtjnkbifafbjckaaGreatDoor
set_option linter.all false
open Go.RowKit

theorem fl_join_any (neg : Bool) (hi lo : Nat) (e : Int) (more : Bool) (w : World) (hh : hi < 18446744073709551616) (hl : lo < 18446744073709551616) (he : -10000 ≤ e ∧ e ≤ 2000) :
    Calls Tryz.prog 45 #[.bool neg, .agg #[.int .u64 hi, .int .u64 lo], .int .i64 e, .bool more] w (RetB (.int .u64 ((Fl.sgn neg + Fl.rd (hi * 18446744073709551616 + lo) e more : Nat) : Int)) w) := by
  have HL := Lib.hid (fun w1 => wi_len_any hi lo w1 hh hl)
  have HS := Lib.hid (fun w1 c0 c1 hb => fl_settle_any neg w.heap.size hi lo e more w1 c0 c1 hb hh hl he)
  obtain ⟨L, hL⟩ : ∃ L, L = Na.bitLen (hi * 18446744073709551616 + lo) := ⟨_, rfl⟩
  rw [← hL] at HL HS
  obtain ⟨D, hD⟩ : ∃ D, D = Fl.sgn neg + Fl.rd (hi * 18446744073709551616 + lo) e more := ⟨_, rfl⟩
  rw [← hD] at HS ⊢
  clear hL hD
  go_enter Tryz.func45, Tryz.ntmps45
  go_wp2_with (first
    | (go_at_call 110; (with_reducible refine (HL.out _).mono ?_); rintro e w1 ⟨rfl, hb_w1⟩; have hB_w1 : Below (w).heap.size (w) w1 := Below.trans (by (repeat (first | exact Below.refl _ _ | assumption | refine Below.setCell ?_ (by first | omega | (simp <;> omega)) _ | refine Below.alloc ?_ (by first | omega | (simp <;> omega)) _ | refine Below.drew ?_ | refine below_drewN' ?_ _))) (hb_w1.mono (by first | omega | (simp <;> omega))); obtain ⟨hc_w1, hf_w1⟩ := bcell hb_w1; have hz_w1 := hb_w1.size; (try simp only [size_drew', size_drewN', World.size_alloc, World.size_setCell] at hz_w1); have hl0_w1 : w.heap.size < w1.heap.size := (by omega); have hm0_w1 : w.heap.size ≤ w1.heap.size := (by omega); have hn0_w1 : ¬ w.heap.size = w1.heap.size := (by omega); have hq0_w1 : ¬ w1.heap.size = w.heap.size := (by omega); have hr0_w1 := fun o => hc_w1 (w.heap.size) o (by (try simp only [size_drew', size_drewN', World.size_alloc, World.size_setCell]); omega); have hg0_w1 := fun o => hf_w1 (w.heap.size) o (by (try simp only [size_drew', size_drewN', World.size_alloc, World.size_setCell]); omega); have cc := (C2.new w hi lo).on hb_w1; have cc0 := cc.1.get 0 rfl; have cc1 := cc.1.get 1 rfl; have ccl := cc.1.1)
    | (go_loud (go_at_call 109; (with_reducible refine (HS.out _ cc0 cc1 ccl).mono ?_); rintro e w2 ⟨rfl, hb_w2⟩; have hB_w2 : Below (w).heap.size (w) w2 := Below.trans (by (repeat (first | exact Below.refl _ _ | assumption | refine Below.setCell ?_ (by first | omega | (simp <;> omega)) _ | refine Below.alloc ?_ (by first | omega | (simp <;> omega)) _ | refine Below.drew ?_ | refine below_drewN' ?_ _))) (hb_w2.mono (by first | omega | (simp <;> omega))); obtain ⟨hc_w2, hf_w2⟩ := bcell hb_w2; have hz_w2 := hb_w2.size; (try simp only [size_drew', size_drewN', World.size_alloc, World.size_setCell] at hz_w2))))
  go_ret
  exact RetB.of rfl (by (repeat (first | exact Below.refl _ _ | assumption | refine Below.setCell ?_ (by first | omega | (simp <;> omega)) _ | refine Below.alloc ?_ (by first | omega | (simp <;> omega)) _ | refine Below.drew ?_ | refine below_drewN' ?_ _)))
end Go.Proofs.YtjnkbifafbjckaaGreatDoor

/- binary64 in the program: a natural, times a power of two, is rounded: Round. -/
namespace Go.Proofs.YtjnkbifafbjckaaGreatDoor
set_option linter.all false
open Go.RowKit

def moreLoop (L : List Nat) (n : Nat) (more : Bool) (mv iv : Value) : Prop := ∃ (i : Nat) (m : Bool), i ≤ n ∧ iv = .int .i64 i ∧ mv = .bool m ∧ Hid (m = (more || decide (Na.val (L.take i) ≠ 0)))

theorem Na.take_more3 {L : List Nat} {i : Nat} (h : i < L.length) : (Na.val (L.take (i + 1)) ≠ 0) ↔ (Na.val (L.take i) ≠ 0 ∨ L[i] ≠ 0) := by
  rw [Na.val_take_succ L i h]
  have hp : 0 < Na.B ^ i := Nat.pow_pos (by decide)
  constructor
  · intro h0
    by_cases h1 : Na.val (L.take i) = 0
    · right; intro h2; apply h0; rw [h1, h2, Nat.mul_zero]
    · exact Or.inl h1
  · rintro (h1 | h1)
    · omega
    · have := Nat.mul_pos hp (Nat.pos_of_ne_zero h1); omega

theorem Na.cut_pow {L : List Nat} {c : Nat} (hok : Na.OK L) (hc : c ≤ L.length) : Na.val (L.drop c) = Na.val L / 2 ^ (32 * c) ∧ Na.val (L.take c) = Na.val L % 2 ^ (32 * c) := by
  have e : Na.B ^ c = 2 ^ (32 * c) := by rw [Nat.pow_mul]
  have h := Na.val_take_drop L c hc
  have hl := Na.val_lt (L.take c) (Na.ok_take hok c)
  rw [List.length_take, Nat.min_eq_left hc, e] at hl
  rw [e] at h
  have hp : 0 < 2 ^ (32 * c) := Nat.pow_pos (by decide)
  rw [h]
  exact ⟨by rw [Nat.add_comm, Nat.mul_add_div hp, Nat.div_eq_of_lt hl, Nat.add_zero], by rw [Nat.add_mul_mod_self_left, Nat.mod_eq_of_lt hl]⟩

/-- What is left of a long natural. -/
theorem Na.cut_long {N c : Nat} (hc : (Na.limbs N).length = c + 4) : 54 ≤ Na.bitLen (N / 2 ^ (32 * c)) := by
  have h1 : ¬ (Na.limbs N).length ≤ c + 3 := by omega
  rw [Na.limbs_len_iff] at h1
  have e : Na.B ^ c = 2 ^ (32 * c) := by rw [Nat.pow_mul]
  have e3 : Na.B ^ 3 = 79228162514264337593543950336 := by decide
  have h2 : 79228162514264337593543950336 ≤ N / 2 ^ (32 * c) := by
    rw [Nat.le_div_iff_mul_le (Nat.pow_pos (by decide)), ← e, ← e3, ← Nat.pow_add, Nat.add_comm]; omega
  rcases Nat.lt_or_ge (Na.bitLen (N / 2 ^ (32 * c))) 54 with h3 | h3
  · have h4 := (Fl.bitLen_ge (n := N / 2 ^ (32 * c)) (by omega)).2.1
    have h5 : 2 ^ Na.bitLen (N / 2 ^ (32 * c)) ≤ 2 ^ 53 := Nat.pow_le_pow_right (by decide) (by omega)
    omega
  · exact h3

set_option maxRecDepth 100000 in
set_option maxHeartbeats 8000000 in
theorem fl_round_short (neg : Bool) (a : Option Addr) (c : Nat) (l : List Nat) (e : Int) (more : Bool) (w : World) (h : Sl w a c l) (hl : l.length ≤ 4000) (he : -10000 ≤ e ∧ e ≤ 2000) (h4 : (Na.limbs (Na.val l)).length ≤ 4) :
    Calls Tryz.prog 190 #[.bool neg, .slice a l.length c, .int .i64 e, .bool more] w (RetB (.int .u64 ((Fl.sgn neg + Fl.rd (Na.val l) e more : Nat) : Int)) w) := by
  have H1 := Lib.hid (na_trim_any a c l w h (by omega))
  obtain ⟨N, hN⟩ : ∃ N, N = Na.val l := ⟨_, rfl⟩
  have hcl : Na.cut l = Na.limbs N := by rw [Na.cut, hN]
  have hll : (Na.limbs N).length ≤ l.length := by have := (Na.rt_le h.ok).1; rw [Na.rt, hcl] at this; exact this
  rw [hcl] at H1
  rw [← hN] at h4 ⊢
  have hok := Na.ok_limbs N
  have hvl := Na.val_limbs N
  obtain ⟨L, hL⟩ : ∃ L, L = Na.limbs N := ⟨_, rfl⟩
  rw [← hL] at H1 hll h4 hok hvl
  obtain ⟨e1', e2'⟩ := he
  obtain ⟨R, hR⟩ : ∃ R, R = Fl.sgn neg + Fl.rd N e more := ⟨_, rfl⟩
  rw [← hR]
  have HR2 := Lib.hid (show R = Fl.sgn neg + Fl.rd (Na.val L) e more by rw [hR, hvl])
  have HOM := Lib.hid hok
  have hM4 := h4
  have hsub : decide ((0 : Int) < ((L.length : Nat) : Int) - 4) = false := decide_eq_false (by omega)
  clear hcl hN hL h hR hvl hok h4
  go_enter Tryz.func190, Tryz.ntmps190
  go_upto_if 20 with (go_at_call 135; (with_reducible refine (H1.out).mono ?_); rintro e w1 ⟨g, rfl, hg, hk, hb1⟩)
  have HCE : Hid (∀ k (hk : k < L.length), w1.cell? ⟨g, k, none⟩ = some (.int .u32 (L[k] : Int))) := Lib.hid (fun k hk' => hk.cell k hk')
  have HGL := Lib.hid hk.lt
  have HBW := Lib.hid hb1
  clear hk hb1 H1
  obtain ⟨q1, q2⟩ := limb_start L
  have HQ1 := Lib.hid q1; have HQ2 := Lib.hid q2
  have HA0 : Hid (C2 (w1.alloc (.cells #[.int .u64 0, .int .u64 0] 57)) w1.heap.size 0 0) := Lib.hid (C2.new0 rfl)
  have HB0 : Hid (Below w1.heap.size w1 (w1.alloc (.cells #[.int .u64 0, .int .u64 0] 57))) := Lib.hid ((Below.refl w1.heap.size w1).alloc (Nat.le_refl _) _)
  clear q1 q2 hll
  go_wp2_with fail
  go_loopw [46] (fun iv wr => limbLoop L w1.heap.size w1 iv wr) (fun iv _ => L.length - (intOf iv).toNat)
  case atStart => exact ⟨0, 0, 0, Nat.zero_le _, rfl, by decide, by decide, HQ1, HQ2, HA0, HB0⟩
  case round =>
    clear HB0 HA0 HQ1 HQ2
    obtain ⟨i, hi, lo, hil, rfl, hh, hl, HH, HL, HC, HBe⟩ := hrel
    by_cases hlt : i < L.length
    · obtain ⟨mm, j, d, H, D, P, hj, f1, f2, hd, hd2, hH, hD, hP, v1, v2, v3, v4, v5⟩ := limb_round hlt HOM.out HH.out HL.out
      have hb := HGL.out
      have hx := (HBe.out.cell (p := ⟨g, j, none⟩) hb).trans (HCE.out j hj)
      rw [← hd] at hx
      have H1 := Lib.hid (fun w1 => wi_shl_lim hi lo H D hh hl v1 v2 w1)
      have HV4 := Lib.hid v4; have HV5 := Lib.hid v5
      have c0 := HC.out.1.get 0 rfl
      have c1 := HC.out.1.get 1 rfl
      have z0 := HC.out.2 0; have z1 := HC.out.2 1
      have hbl := HC.out.1.1
      have hbw := HBe.out.size
      clear v1 v2 v4 v5 hd
      skip
      go_wp2_with (first | (go_at_call 112; (with_reducible refine (H1.out _).mono ?_); rintro e w2 ⟨rfl, hb_w2⟩; have hB_w2 : Below (wr).heap.size (wr) w2 := Below.trans (by (repeat (first | exact Below.refl _ _ | assumption | refine Below.setCell ?_ (by first | omega | (simp <;> omega)) _ | refine Below.alloc ?_ (by first | omega | (simp <;> omega)) _ | refine Below.drew ?_ | refine below_drewN' ?_ _))) (hb_w2.mono (by first | omega | (simp <;> omega))); obtain ⟨hc_w2, hf_w2⟩ := bcell hb_w2; have hz_w2 := hb_w2.size; (try simp only [size_drew', size_drewN', World.size_alloc, World.size_setCell] at hz_w2); have hl0_w2 : w1.heap.size < w2.heap.size := (by omega); have hm0_w2 : w1.heap.size ≤ w2.heap.size := (by omega); have hn0_w2 : ¬ w1.heap.size = w2.heap.size := (by omega); have hq0_w2 : ¬ w2.heap.size = w1.heap.size := (by omega); have hr0_w2 := fun o => hc_w2 (w1.heap.size) o (by (try simp only [size_drew', size_drewN', World.size_alloc, World.size_setCell]); omega); have hg0_w2 := fun o => hf_w2 (w1.heap.size) o (by (try simp only [size_drew', size_drewN', World.size_alloc, World.size_setCell]); omega); have hl1_w2 : g < w2.heap.size := (by omega); have hm1_w2 : g ≤ w2.heap.size := (by omega); have hn1_w2 : ¬ g = w2.heap.size := (by omega); have hq1_w2 : ¬ w2.heap.size = g := (by omega); have hr1_w2 := fun o => hc_w2 (g) o (by (try simp only [size_drew', size_drewN', World.size_alloc, World.size_setCell]); omega); have hg1_w2 := fun o => hf_w2 (g) o (by (try simp only [size_drew', size_drewN', World.size_alloc, World.size_setCell]); omega)))
      obtain ⟨X, hX⟩ : ∃ X, X = w2.setCells w1.heap.size 0 [.int .u64 H, .int .u64 D] := ⟨_, rfl⟩
      change Code.wp _ _ _ _ (w2.setCells w1.heap.size 0 [.int .u64 H, .int .u64 D])
      have HCX := (HC.out.on (hb_w2.mono (Nat.le_refl _))).stored H D
      have hBX := below_setCells (B := w1.heap.size) (b := w1.heap.size) (Nat.le_refl _) [.int .u64 H, .int .u64 D] 0 (HBe.out.trans (hb_w2.mono hbw))
      have hxX : (w2.setCells w1.heap.size 0 [.int .u64 H, .int .u64 D]).cell? ⟨g, j, none⟩ = some (.int .u32 d) := (hBX.cell (p := ⟨g, j, none⟩) hb).trans ((HBe.out.cell (p := ⟨g, j, none⟩) hb).symm.trans hx)
      rw [← hX] at HCX hBX hxX ⊢
      have x0 := HCX.1.get 0 rfl
      have x1 := HCX.1.get 1 rfl
      have y0 := HCX.2 0; have y1 := HCX.2 1
      have xl := HCX.1.1
      have HCX2 := Lib.hid (HCX.low P)
      have HBX2 := Lib.hid (hBX.setCell (p := ⟨w1.heap.size, 1, none⟩) (Nat.le_refl _) (.int .u64 P))
      clear hX HCX hBX c0 c1 hx
      go_region
      go_wp2
      go_roundw
      case rel => exact ⟨i + 1, H, P, by omega, by go_num, hH, hP, HV4, HV5, Lib.hid HCX2.out.drew, Lib.hid HBX2.out.drew⟩
      case measure => simp [intOf]; omega
    · have hie : i = L.length := by omega
      have hv := limb_all (L := L) hie.symm
      have h128 : Na.val L < 340282366920938463463374607431768211456 := by
        have h1 := Na.val_lt L HOM.out
        exact Nat.lt_of_lt_of_le h1 (Nat.le_trans (Nat.pow_le_pow_right (by decide) hM4) (by decide))
      have h1 := HH.out
      have h2 := HL.out
      rw [hv] at h1 h2
      have hsum : hi * 18446744073709551616 + lo = Na.val L := by omega
      have hj := fun w1 => fl_join_any neg hi lo e more w1 hh hl ⟨e1', e2'⟩
      rw [hsum, ← HR2.out] at hj
      have HJ := Lib.hid hj
      have c0 := HC.out.1.get 0 rfl
      have c1 := HC.out.1.get 1 rfl
      have hbl := HC.out.1.1
      have hBw := HBW.out.trans (HBe.out.mono HBW.out.size)
      have hBws := hBw.size
      skip
      clear hj h1 h2 hsum hv hie
      go_wp2_with (first | (go_at_call 45; (with_reducible refine (HJ.out _).mono ?_); rintro e w3 ⟨rfl, hb_w3⟩; have hB_w3 : Below (wr).heap.size (wr) w3 := Below.trans (by (repeat (first | exact Below.refl _ _ | assumption | refine Below.setCell ?_ (by first | omega | (simp <;> omega)) _ | refine Below.alloc ?_ (by first | omega | (simp <;> omega)) _ | refine Below.drew ?_ | refine below_drewN' ?_ _))) (hb_w3.mono (by first | omega | (simp <;> omega))); obtain ⟨hc_w3, hf_w3⟩ := bcell hb_w3; have hz_w3 := hb_w3.size; (try simp only [size_drew', size_drewN', World.size_alloc, World.size_setCell] at hz_w3); have hBf : Below w.heap.size w w3 := hBw.trans (hB_w3.mono hBws)))
      go_ret
      exact RetB.of rfl (by (repeat (first | exact Below.refl _ _ | assumption | refine Below.setCell ?_ (by first | omega | (simp <;> omega)) _ | refine Below.alloc ?_ (by first | omega | (simp <;> omega)) _ | refine Below.drew ?_ | refine below_drewN' ?_ _)))

set_option maxRecDepth 100000 in
set_option maxHeartbeats 8000000 in
theorem fl_round_long (neg : Bool) (a : Option Addr) (c : Nat) (l : List Nat) (e : Int) (more : Bool) (w : World) (h : Sl w a c l) (hl : l.length ≤ 4000) (he : -10000 ≤ e ∧ e ≤ 2000) (h4 : 4 < (Na.limbs (Na.val l)).length) (he2 : e + 32 * (((Na.limbs (Na.val l)).length : Int) - 4) ≤ 2000) :
    Calls Tryz.prog 190 #[.bool neg, .slice a l.length c, .int .i64 e, .bool more] w (RetB (.int .u64 ((Fl.sgn neg + Fl.rd (Na.val l) e more : Nat) : Int)) w) := by
  have H1 := Lib.hid (na_trim_any a c l w h (by omega))
  obtain ⟨N, hN⟩ : ∃ N, N = Na.val l := ⟨_, rfl⟩
  have hcl : Na.cut l = Na.limbs N := by rw [Na.cut, hN]
  have hll : (Na.limbs N).length ≤ l.length := by have := (Na.rt_le h.ok).1; rw [Na.rt, hcl] at this; exact this
  rw [hcl] at H1
  rw [← hN] at h4 he2 ⊢
  have hok := Na.ok_limbs N
  have hvl := Na.val_limbs N
  obtain ⟨k, hkk⟩ : ∃ k, (Na.limbs N).length = k + 4 := ⟨(Na.limbs N).length - 4, by omega⟩
  have hcut := (And.intro (Na.cut_pow (c := k) hok (by omega)) (Na.cut_long hkk))
  obtain ⟨L, hL⟩ : ∃ L, L = Na.limbs N := ⟨_, rfl⟩
  rw [← hL] at H1 hll hok hvl hcut hkk h4 he2
  obtain ⟨e1, e2⟩ := he
  obtain ⟨R, hR⟩ : ∃ R, R = Fl.sgn neg + Fl.rd N e more := ⟨_, rfl⟩
  rw [← hR]
  have HR := Lib.hid hR; have HVL := Lib.hid hvl; have HOK := Lib.hid hok; have HC := Lib.hid hcut; have HLK := Lib.hid hkk
  have hki : ((L.length : Nat) : Int) - 4 = (k : Int) := by omega
  have hk4 : 0 < k := by omega
  obtain ⟨n, hn⟩ : ∃ n, n = L.length := ⟨_, rfl⟩
  have HN := Lib.hid hn
  rw [← hn] at hki h4 he2 hll
  have hkn : k ≤ n := by omega
  have hkb : k ≤ 4000 := by omega
  have hkq : e + 32 * (k : Int) ≤ 2000 := by omega
  have hdn : (n : Int) - (k : Int) = 4 := by omega
  obtain rfl : n = k + 4 := by omega
  clear hcl hN hL h hR hvl hok hcut hkk hn hki hkn hdn
  go_enter Tryz.func190, Tryz.ntmps190
  go_upto_if 20 with (go_at_call 135; (with_reducible refine (H1.out).mono ?_); rintro e w1 ⟨g, rfl, hg, hk, hb1⟩; rw [← HN.out])
  have HK := Lib.hid hk; have HBW := Lib.hid hb1
  clear hk hb1 H1
  go_wp2_with fail
  go_loop [3, 25] (fun mv iv => moreLoop L k more mv iv) (fun _ i => k - (intOf i).toNat)
  case atStart => exact ⟨0, more, Nat.zero_le _, rfl, rfl, Lib.hid (by rw [List.take_zero]; simp [Na.val])⟩
  case round =>
    obtain ⟨i, m, hik, rfl, rfl, HM⟩ := hrel
    by_cases hlt : i < k
    · have hiL : i < L.length := by have := HN.out; omega
      have hx := HK.out.cell i hiL
      have hx2 : L[i] < 4294967296 := HOK.out _ (List.getElem_mem hiL)
      have htk := Na.take_more3 hiL
      obtain ⟨x, hxe⟩ : ∃ x, x = L[i] := ⟨_, rfl⟩
      rw [← hxe] at hx hx2 htk
      have hnew : (more || decide (Na.val (L.take (i + 1)) ≠ 0)) = (m || decide (x ≠ 0)) := by
        rw [HM.out, Bool.or_assoc, ← Bool.decide_or]
        congr 1; exact decide_eq_decide.2 htk
      have HNW := Lib.hid hnew
      clear htk hnew hxe HK HBW
      cases m with
      | true =>
        go_wp2_with fail
        go_round
        case rel => exact ⟨i + 1, true, by omega, by go_num, rfl, Lib.hid (by rw [HNW.out]; rfl)⟩
        case measure => simp [intOf]; omega
      | false =>
        go_wp2_with fail
        go_round
        case rel => exact ⟨i + 1, decide (0 < x), by omega, by go_num, by go_num, Lib.hid (by rw [HNW.out, Bool.false_or]; apply decide_eq_decide.2; omega)⟩
        case measure => simp [intOf]; omega
    · have hie : i = k := by omega
      subst hie
      obtain ⟨⟨c1, c2⟩, c3⟩ := HC.out
      have hrd := Fl.rd_cut (n := N) (c := 32 * i) (e := e) (more := more) c3
      rw [HVL.out] at c1 c2
      rw [← c1, ← c2, ← HM.out] at hrd
      obtain ⟨K, hK⟩ : ∃ K : Nat, K = 32 * i := ⟨_, rfl⟩
      have hKi : (32 : Int) * (i : Int) = (K : Int) := by omega
      obtain ⟨e', he'⟩ : ∃ e' : Int, e' = e + (K : Int) := ⟨_, rfl⟩
      have hei : e + (K : Int) = e' := he'.symm
      have e1' : -10000 ≤ e' := by omega
      have e2' : e' ≤ 2000 := by omega
      rw [show (((32 * i : Nat) : Int)) = (K : Int) by omega, ← he'] at hrd
      have hDl : (L.drop i).length = 4 := by rw [List.length_drop]; have := HLK.out; omega
      have HR2 := Lib.hid (show R = Fl.sgn neg + Fl.rd (Na.val (L.drop i)) e' m by rw [HR.out, hrd])
      have HOM := Lib.hid (Na.ok_drop HOK.out i)
      have HCE : Hid (∀ k (hk : k < (L.drop i).length), w1.cell? ⟨g, i + k, none⟩ = some (.int .u32 ((L.drop i)[k] : Int))) := Lib.hid (fun k hk => by
        simp only [List.getElem_drop]; exact HK.out.cell _ _)
      have HGL := Lib.hid HK.out.lt
      obtain ⟨M, hM⟩ : ∃ M, M = L.drop i := ⟨_, rfl⟩
      rw [← hM] at hDl HR2 HOM HCE
      have hM4 : M.length ≤ 4 := by omega
      clear c1 c2 c3 hrd hK he' hM HM HC HK hlt
      obtain ⟨q1, q2⟩ := limb_start M
      have HQ1 := Lib.hid q1; have HQ2 := Lib.hid q2
      have HA0 : Hid (C2 (w1.alloc (.cells #[.int .u64 0, .int .u64 0] 57)) w1.heap.size 0 0) := Lib.hid (C2.new0 rfl)
      have HB0 : Hid (Below w1.heap.size w1 (w1.alloc (.cells #[.int .u64 0, .int .u64 0] 57))) := Lib.hid ((Below.refl w1.heap.size w1).alloc (Nat.le_refl _) _)
      clear q1 q2 
      go_wp2_with fail
      go_loopw [46] (fun iv wr => limbLoop M w1.heap.size w1 iv wr) (fun iv _ => M.length - (intOf iv).toNat)
      case atStart => exact ⟨0, 0, 0, Nat.zero_le _, rfl, by decide, by decide, HQ1, HQ2, HA0, HB0⟩
      case round =>
        clear HB0 HA0 HQ1 HQ2
        obtain ⟨i2, hi, lo, hil, rfl, hh, hl, HH, HL, HC, HBe⟩ := hrel
        by_cases hlt : i2 < M.length
        · obtain ⟨mm, j, d, H, D, P, hj, f1, f2, hd, hd2, hH, hD, hP, v1, v2, v3, v4, v5⟩ := limb_round hlt HOM.out HH.out HL.out
          have hb := HGL.out
          have hx := (HBe.out.cell (p := ⟨g, i + j, none⟩) hb).trans (HCE.out j hj)
          rw [← hd] at hx
          have H1 := Lib.hid (fun w1 => wi_shl_lim hi lo H D hh hl v1 v2 w1)
          have HV4 := Lib.hid v4; have HV5 := Lib.hid v5
          have c0 := HC.out.1.get 0 rfl
          have c1 := HC.out.1.get 1 rfl
          have z0 := HC.out.2 0; have z1 := HC.out.2 1
          have hbl := HC.out.1.1
          have hbw := HBe.out.size
          clear v1 v2 v4 v5 hd
          have f2' : (3 : Int) - (i2 : Int) = (j : Int) := (by omega); have hlt4 : i2 < 4 := (by omega)
          go_wp2_with (first | (go_at_call 112; (with_reducible refine (H1.out _).mono ?_); rintro e w2 ⟨rfl, hb_w2⟩; have hB_w2 : Below (wr).heap.size (wr) w2 := Below.trans (by (repeat (first | exact Below.refl _ _ | assumption | refine Below.setCell ?_ (by first | omega | (simp <;> omega)) _ | refine Below.alloc ?_ (by first | omega | (simp <;> omega)) _ | refine Below.drew ?_ | refine below_drewN' ?_ _))) (hb_w2.mono (by first | omega | (simp <;> omega))); obtain ⟨hc_w2, hf_w2⟩ := bcell hb_w2; have hz_w2 := hb_w2.size; (try simp only [size_drew', size_drewN', World.size_alloc, World.size_setCell] at hz_w2); have hl0_w2 : w1.heap.size < w2.heap.size := (by omega); have hm0_w2 : w1.heap.size ≤ w2.heap.size := (by omega); have hn0_w2 : ¬ w1.heap.size = w2.heap.size := (by omega); have hq0_w2 : ¬ w2.heap.size = w1.heap.size := (by omega); have hr0_w2 := fun o => hc_w2 (w1.heap.size) o (by (try simp only [size_drew', size_drewN', World.size_alloc, World.size_setCell]); omega); have hg0_w2 := fun o => hf_w2 (w1.heap.size) o (by (try simp only [size_drew', size_drewN', World.size_alloc, World.size_setCell]); omega); have hl1_w2 : g < w2.heap.size := (by omega); have hm1_w2 : g ≤ w2.heap.size := (by omega); have hn1_w2 : ¬ g = w2.heap.size := (by omega); have hq1_w2 : ¬ w2.heap.size = g := (by omega); have hr1_w2 := fun o => hc_w2 (g) o (by (try simp only [size_drew', size_drewN', World.size_alloc, World.size_setCell]); omega); have hg1_w2 := fun o => hf_w2 (g) o (by (try simp only [size_drew', size_drewN', World.size_alloc, World.size_setCell]); omega)))
          obtain ⟨X, hX⟩ : ∃ X, X = w2.setCells w1.heap.size 0 [.int .u64 H, .int .u64 D] := ⟨_, rfl⟩
          change Code.wp _ _ _ _ (w2.setCells w1.heap.size 0 [.int .u64 H, .int .u64 D])
          have HCX := (HC.out.on (hb_w2.mono (Nat.le_refl _))).stored H D
          have hBX := below_setCells (B := w1.heap.size) (b := w1.heap.size) (Nat.le_refl _) [.int .u64 H, .int .u64 D] 0 (HBe.out.trans (hb_w2.mono hbw))
          have hxX : (w2.setCells w1.heap.size 0 [.int .u64 H, .int .u64 D]).cell? ⟨g, i + j, none⟩ = some (.int .u32 d) := (hBX.cell (p := ⟨g, i + j, none⟩) hb).trans ((HBe.out.cell (p := ⟨g, i + j, none⟩) hb).symm.trans hx)
          rw [← hX] at HCX hBX hxX ⊢
          have x0 := HCX.1.get 0 rfl
          have x1 := HCX.1.get 1 rfl
          have y0 := HCX.2 0; have y1 := HCX.2 1
          have xl := HCX.1.1
          have HCX2 := Lib.hid (HCX.low P)
          have HBX2 := Lib.hid (hBX.setCell (p := ⟨w1.heap.size, 1, none⟩) (Nat.le_refl _) (.int .u64 P))
          clear hX HCX hBX c0 c1 hx
          go_region
          go_wp2
          go_roundw
          case rel => exact ⟨i2 + 1, H, P, by omega, by go_num, hH, hP, HV4, HV5, Lib.hid HCX2.out.drew, Lib.hid HBX2.out.drew⟩
          case measure => simp [intOf]; omega
        · have hie : i2 = M.length := by omega
          have hv := limb_all (L := M) hie.symm
          have h128 : Na.val M < 340282366920938463463374607431768211456 := by
            have h1 := Na.val_lt M HOM.out
            exact Nat.lt_of_lt_of_le h1 (Nat.le_trans (Nat.pow_le_pow_right (by decide) hM4) (by decide))
          have h1 := HH.out
          have h2 := HL.out
          rw [hv] at h1 h2
          have hsum : hi * 18446744073709551616 + lo = Na.val M := by omega
          have hj := fun w1 => fl_join_any neg hi lo e' m w1 hh hl ⟨e1', e2'⟩
          rw [hsum, ← HR2.out] at hj
          have HJ := Lib.hid hj
          have c0 := HC.out.1.get 0 rfl
          have c1 := HC.out.1.get 1 rfl
          have hbl := HC.out.1.1
          have hBw := HBW.out.trans (HBe.out.mono HBW.out.size)
          have hBws := hBw.size
          have hlt4 : ¬ i2 < 4 := (by omega)
          clear hj h1 h2 hsum hv hie
          go_wp2_with (first | (go_at_call 45; (with_reducible refine (HJ.out _).mono ?_); rintro e w3 ⟨rfl, hb_w3⟩; have hB_w3 : Below (wr).heap.size (wr) w3 := Below.trans (by (repeat (first | exact Below.refl _ _ | assumption | refine Below.setCell ?_ (by first | omega | (simp <;> omega)) _ | refine Below.alloc ?_ (by first | omega | (simp <;> omega)) _ | refine Below.drew ?_ | refine below_drewN' ?_ _))) (hb_w3.mono (by first | omega | (simp <;> omega))); obtain ⟨hc_w3, hf_w3⟩ := bcell hb_w3; have hz_w3 := hb_w3.size; (try simp only [size_drew', size_drewN', World.size_alloc, World.size_setCell] at hz_w3); have hBf : Below w.heap.size w w3 := hBw.trans (hB_w3.mono hBws)))
          go_ret
          exact RetB.of rfl (by (repeat (first | exact Below.refl _ _ | assumption | refine Below.setCell ?_ (by first | omega | (simp <;> omega)) _ | refine Below.alloc ?_ (by first | omega | (simp <;> omega)) _ | refine Below.drew ?_ | refine below_drewN' ?_ _)))

theorem fl_round_any (neg : Bool) (a : Option Addr) (c : Nat) (l : List Nat) (e : Int) (more : Bool) (w : World) (h : Sl w a c l) (hl : l.length ≤ 4000) (he : -10000 ≤ e ∧ e ≤ 2000) (he2 : e + 32 * (((Na.limbs (Na.val l)).length : Int) - 4) ≤ 2000) :
    Calls Tryz.prog 190 #[.bool neg, .slice a l.length c, .int .i64 e, .bool more] w (RetB (.int .u64 ((Fl.sgn neg + Fl.rd (Na.val l) e more : Nat) : Int)) w) := by
  by_cases h4 : (Na.limbs (Na.val l)).length ≤ 4
  · exact fl_round_short neg a c l e more w h hl he h4
  · exact fl_round_long neg a c l e more w h hl he (by omega) he2
end Go.Proofs.YtjnkbifafbjckaaGreatDoor
