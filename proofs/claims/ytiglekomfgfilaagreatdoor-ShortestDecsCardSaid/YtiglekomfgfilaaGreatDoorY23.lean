/- The Reader in the program: the lowest 128 bits of a natural. -/
import Derived.Test.YtiglekomfgfilaaGreatDoorY11
import Derived.Test.YtiglekomfgfilaaGreatDoorY21
import Derived.Test.YtiglekomfgfilaaGreatDoorY4
import Derived.Test.YtiglekomfgfilaaGreatDoorY5
import Derived.Test.YtiglekomfgfilaaGreatDoorY14
import Derived.Test.YtiglekomfgfilaaGreatDoorY3
import Derived.Test.YtiglekomfgfilaaGreatDoorY22
namespace Go.Proofs.YtiglekomfgfilaaGreatDoor
set_option maxRecDepth 100000
set_option maxHeartbeats 4000000
set_option linter.all false
open Go.RowKit
def valueLoop (L : List Nat) (w : World) (iv : Value) (wr : World) : Prop := limbLoop L (w.heap.size + 1) w iv wr ∧ Hid (C2 wr w.heap.size 0 0)
theorem re_value_any (a : Option Addr) (c : Nat) (L : List Nat) (w : World) (s : Sl w a c L) (hn : L.length ≤ 1000000) :
    Calls Tryz.prog 206 #[.slice a L.length c] w (RetB (.agg #[.int .u64 ((Na.val L / 18446744073709551616 % 18446744073709551616 : Nat) : Int), .int .u64 ((Na.val L % 18446744073709551616 : Nat) : Int)]) w) := by
  have HB0 : Hid (Below w.heap.size w ((w.alloc (.cells #[.int .u64 0, .int .u64 0] 91)).alloc (.cells #[.int .u64 0, .int .u64 0] 91))) := Lib.hid (((Below.refl w.heap.size w).alloc (Nat.le_refl _) _).alloc (by simp) _)
  have HR0 : Hid (C2 ((w.alloc (.cells #[.int .u64 0, .int .u64 0] 91)).alloc (.cells #[.int .u64 0, .int .u64 0] 91)) w.heap.size 0 0) := Lib.hid ((C2.new0 rfl).alloc _)
  have HA0 : Hid (C2 ((w.alloc (.cells #[.int .u64 0, .int .u64 0] 91)).alloc (.cells #[.int .u64 0, .int .u64 0] 91)) (w.heap.size + 1) 0 0) := Lib.hid (C2.new0 (by simp))
  obtain ⟨q1, q2⟩ := limb_start L
  have HQ1 := Lib.hid q1; have HQ2 := Lib.hid q2
  have HS := Lib.hid s
  clear s q1 q2
  go_enter Tryz.func206, Tryz.ntmps206
  go_wp2_with fail
  go_loopw [7] (fun iv wr => valueLoop L w iv wr) (fun iv _ => L.length - (intOf iv).toNat)
  case atStart => exact ⟨⟨0, 0, 0, Nat.zero_le _, rfl, by decide, by decide, HQ1, HQ2, HA0, HB0⟩, HR0⟩
  case round =>
    clear HB0 HR0 HA0 HQ1 HQ2
    obtain ⟨⟨i, hi, lo, hil, rfl, hh, hl, HH, HL, HC, HBe⟩, HR⟩ := hrel
    by_cases hlt : i < L.length
    · obtain ⟨m, j, d, H, D, P, hj, e1, e2, hd, hd2, hH, hD, hP, v1, v2, v3, v4, v5⟩ := limb_round hlt HS.out.ok HH.out HL.out
      obtain ⟨b, o, rfl, hb, hcell⟩ := HS.out.plain (by omega)
      have hx := (HBe.out.cell (p := ⟨b, o + j, none⟩) hb).trans (hcell j hj)
      rw [← hd] at hx
      have H1 := Lib.hid (fun w1 => wi_shl_lim hi lo H D hh hl v1 v2 w1)
      have HV4 := Lib.hid v4; have HV5 := Lib.hid v5
      have c0 := HC.out.1.get 0 rfl
      have c1 := HC.out.1.get 1 rfl
      have hbl := HC.out.1.1
      have f0 := HC.out.2 0; have f1 := HC.out.2 1
      have hbw := HBe.out.size
      clear hcell v1 v2 v4 v5 hd
      go_wp2_with (first | (go_at_call 179; (with_reducible refine (H1.out _).mono ?_); rintro e w1 ⟨rfl, hb_w1⟩; have hB_w1 : Below (wr).heap.size (wr) w1 := Below.trans (by (repeat (first | exact Below.refl _ _ | assumption | refine Below.setCell ?_ (by first | omega | (simp <;> omega)) _ | refine Below.alloc ?_ (by first | omega | (simp <;> omega)) _ | refine Below.drew ?_ | refine below_drewN' ?_ _))) (hb_w1.mono (by first | omega | (simp <;> omega))); obtain ⟨hc_w1, hf_w1⟩ := bcell hb_w1; have hz_w1 := hb_w1.size; (try simp only [zD, zN, zA, zS] at hz_w1); have hk := own6 hb_w1 (w.heap.size) (by (try simp only [zD, zN, zA, zS]); omega); obtain ⟨hl0_w1, hm0_w1, hn0_w1, hq0_w1, hr0_w1, hg0_w1⟩ := hk; have hk := own6 hb_w1 (w.heap.size + 1) (by (try simp only [zD, zN, zA, zS]); omega); obtain ⟨hl1_w1, hm1_w1, hn1_w1, hq1_w1, hr1_w1, hg1_w1⟩ := hk; have hk := own6 hb_w1 (b) (by (try simp only [zD, zN, zA, zS]); omega); obtain ⟨hl2_w1, hm2_w1, hn2_w1, hq2_w1, hr2_w1, hg2_w1⟩ := hk))
      obtain ⟨X, hX⟩ : ∃ X, X = w1.setCells (w.heap.size + 1) 0 [.int .u64 H, .int .u64 D] := ⟨_, rfl⟩
      change Code.wp _ _ _ _ (w1.setCells (w.heap.size + 1) 0 [.int .u64 H, .int .u64 D])
      have HCX := (HC.out.on (hb_w1.mono (Nat.le_refl _))).stored H D
      have HRX := ((HR.out.on (hb_w1.mono (Nat.le_refl _))).setOther (o := 0) (u := .int .u64 H) (show w.heap.size ≠ w.heap.size + 1 by omega)).setOther (o := 1) (u := .int .u64 D) (show w.heap.size ≠ w.heap.size + 1 by omega)
      have hBX := below_setCells (B := w.heap.size) (b := w.heap.size + 1) (Nat.le_succ _) [.int .u64 H, .int .u64 D] 0 (HBe.out.trans (hb_w1.mono hbw))
      have hxX : (w1.setCells (w.heap.size + 1) 0 [.int .u64 H, .int .u64 D]).cell? ⟨b, o + j, none⟩ = some (.int .u32 d) := (hBX.cell (p := ⟨b, o + j, none⟩) hb).trans ((HBe.out.cell (p := ⟨b, o + j, none⟩) hb).symm.trans hx)
      rw [← hX] at HCX hBX hxX ⊢
      replace HRX : C2 X w.heap.size 0 0 := by rw [hX]; exact HRX
      have x0 := HCX.1.get 0 rfl
      have x1 := HCX.1.get 1 rfl
      have y0 := HCX.2 0; have y1 := HCX.2 1
      have xl := HCX.1.1
      have HCX2 := Lib.hid (HCX.low P)
      have HRX2 := Lib.hid (HRX.setOther (o := 1) (u := .int .u64 P) (show w.heap.size ≠ w.heap.size + 1 by omega))
      have HBX2 := Lib.hid (hBX.setCell (p := ⟨w.heap.size + 1, 1, none⟩) (Nat.le_succ _) (.int .u64 P))
      clear hX HCX HRX hBX c0 c1 hx f0 f1
      go_region
      go_wp2
      go_roundw
      case rel => exact ⟨⟨i + 1, H, P, by omega, by go_num, hH, hP, HV4, HV5, Lib.hid HCX2.out.drew, Lib.hid HBX2.out.drew⟩, Lib.hid HRX2.out.drew⟩
      case measure => simp [intOf]; omega
    · obtain rfl : i = L.length := by omega
      have hv := limb_all (L := L) rfl
      have HH2 := Lib.hid (HH.out.trans (by rw [hv]))
      have HL2 := Lib.hid (HL.out.trans (by rw [hv]))
      have c0 := HC.out.1.get 0 rfl
      have c1 := HC.out.1.get 1 rfl
      have hbl := HC.out.1.1
      have r0 := HR.out.1.get 0 rfl
      have r1 := HR.out.1.get 1 rfl
      have f0 := HR.out.2 0; have f1 := HR.out.2 1
      have HCR := Lib.hid (HR.out.stored hi lo)
      have HBR := Lib.hid (below_setCells (B := w.heap.size) (b := w.heap.size) (Nat.le_refl _) [.int .u64 hi, .int .u64 lo] 0 HBe.out)
      go_wp2_with fail
      obtain ⟨X, hX⟩ : ∃ X, X = wr.setCells w.heap.size 0 [.int .u64 hi, .int .u64 lo] := ⟨_, rfl⟩
      change bodyPost _ _ _ _ _ (wr.setCells w.heap.size 0 [.int .u64 hi, .int .u64 lo])
      rw [← hX] at HCR HBR ⊢
      have x0 := HCR.out.1.get 0 rfl
      have x1 := HCR.out.1.get 1 rfl
      refine bodyPost_ret (v := .agg #[.int .u64 hi, .int .u64 lo]) (by (simp [results, Tryz.results206, go_sem, x0, x1]; done)) rfl (RetB.of (by rw [HH2.out, HL2.out]) HBR.out)
end Go.Proofs.YtiglekomfgfilaaGreatDoor

/- The reference: the nearest fraction. -/
namespace Go.Proofs.YtiglekomfgfilaaGreatDoor
set_option linter.all false
open Go.RowKit
attribute [local go_sem] Fl.dv
def Fl.fv (f : Fl.Frac) : Value := .tuple #[.agg #[.bool f.d.n, .string ⟨f.d.l.toArray⟩, .int .i64 f.d.x, .int .i64 f.p, .int .i64 f.q], .int .i64 f.e]
def Z5 (W : World) (b : Nat) : Prop := W.cell? ⟨b, 0, none⟩ = some (.bool false) ∧ W.cell? ⟨b, 1, none⟩ = some (.string ⟨#[]⟩) ∧ W.cell? ⟨b, 2, none⟩ = some (.int .i64 0) ∧ W.cell? ⟨b, 3, none⟩ = some (.int .i64 0) ∧ W.cell? ⟨b, 4, none⟩ = some (.int .i64 0) ∧ (∀ o, W.frozen? ⟨b, o, none⟩ = false) ∧ b < W.heap.size
theorem Z5.on {W W' : World} {b : Nat} (h : Z5 W b) (hb : Below W.heap.size W W') : Z5 W' b := by
  obtain ⟨h0, h1, h2, h3, h4, hf, hl⟩ := h
  exact ⟨(hb.cell (p := ⟨b, 0, none⟩) hl).trans h0, (hb.cell (p := ⟨b, 1, none⟩) hl).trans h1, (hb.cell (p := ⟨b, 2, none⟩) hl).trans h2, (hb.cell (p := ⟨b, 3, none⟩) hl).trans h3, (hb.cell (p := ⟨b, 4, none⟩) hl).trans h4, fun o => (hb.frozen (p := ⟨b, o, none⟩) hl).trans (hf o), Nat.lt_of_lt_of_le hl hb.size⟩
theorem Z5.alloc {W : World} {b : Nat} (h : Z5 W b) (o : Obj) : Z5 (W.alloc o) b := h.on ((Below.refl _ _).alloc (Nat.le_refl _) o)
theorem Z5.step {W W1 W' : World} {b : Nat} (h : Z5 W b) (hb : Below W1.heap.size W1 W') (hW : Below W.heap.size W W1 := by first | exact Below.alloc (Below.refl _ _) (Nat.le_refl _) _ | (repeat (first | exact Below.refl _ _ | refine Below.setCell ?_ (by first | exact Nat.le_refl _ | (simp <;> omega)) _ | refine Below.alloc ?_ (by first | exact Nat.le_refl _ | (simp <;> omega)) _ | refine Below.drew ?_))) : Z5 W' b := (h.on hW).on hb
section
variable (x : Nat) (hx : x < 18446744073709551616) (most : Int) (hm : -9223372036854775808 ≤ most ∧ most ≤ 9223372036854775807) (w : World)
include hx hm
end
theorem lit_one9 (w : World) : Sl (w.alloc (Obj.cells #[Value.int IntKind.u32 1] 81)) (some ⟨w.heap.size, 0, none⟩) 1 (Na.limbs 1) := by rw [Na.limbs_one]; exact lit_sl w 1 (by decide)
end Go.Proofs.YtiglekomfgfilaaGreatDoor

/- The Reader in the program: a power of ten is made. -/
namespace Go.Proofs.YtiglekomfgfilaaGreatDoor
set_option maxRecDepth 100000
set_option maxHeartbeats 8000000
set_option linter.all false
open Go.RowKit
def CF (w : World) (b : Nat) (vs : List Value) : Prop := Cs w b vs ∧ ∀ o, w.frozen? ⟨b, o, none⟩ = false
theorem CF.new (w : World) (vs : List Value) (t : TypeId) : CF (w.alloc (.cells vs.toArray t)) w.heap.size vs :=
  ⟨Cs.new w vs _, fun o => by
      unfold World.frozen?; simp only []
      rw [show (w.alloc (.cells vs.toArray t)).heap[w.heap.size]? = some _ from heap_alloc_new w _]
      simp⟩
theorem CF.on {w w' : World} {b : Nat} {vs : List Value} (c : CF w b vs) (hb : Below w.heap.size w w') : CF w' b vs :=
  ⟨c.1.on hb, fun o => (hb.frozen (p := ⟨b, o, none⟩) c.1.1).trans (c.2 o)⟩
theorem CF.stored {w : World} {b : Nat} {vs : List Value} (us : List Value) (c : CF w b vs) (hl : us.length = vs.length) : CF (w.setCells b 0 us) b us :=
  ⟨c.1.stored _ hl, fun o => by rw [World.frozen?_setCells]; exact c.2 o⟩
theorem CF.alloc {w : World} {b : Nat} {vs : List Value} (c : CF w b vs) (o : Obj) : CF (w.alloc o) b vs := c.on ((Below.refl _ _).alloc (Nat.le_refl _) o)
def pw0 : List Value := [.int .u64 0, .int .u64 0, .int .i64 0, .bool false]
def Fl.pval (x : Int) : Value := .agg #[.int .u64 ((Fl.pwP x / 18446744073709551616 : Nat) : Int), .int .u64 ((Fl.pwP x % 18446744073709551616 : Nat) : Int), .int .i64 (Fl.pwE x), .bool (Fl.pwA x)]
theorem re_value_lim (N : Nat) (hi lo : Nat) (a : Option Addr) (c : Nat) (w : World) (s : Sl w a c (Na.limbs N)) (hN : Fl.Mid N) (hh : hi = N / 18446744073709551616) (hl : lo = N % 18446744073709551616) (hN2 : N < 340282366920938463463374607431768211456) :
    Calls Tryz.prog 206 #[.slice a (Na.limbs N).length c] w (RetB (.agg #[.int .u64 hi, .int .u64 lo]) w) := by
  have h := re_value_any a c (Na.limbs N) w s (by unfold Fl.Mid at hN; omega)
  rw [Na.val_limbs, Nat.mod_eq_of_lt (show N / 18446744073709551616 < 18446744073709551616 by omega), ← hh, ← hl] at h
  exact h
theorem re_made_neg (j : Nat) (hj : 0 < j) (hj2 : j ≤ 400) (w : World) : Calls Tryz.prog 184 #[.int .i64 (-(j : Int))] w (RetB (Fl.pval (-(j : Int))) w) := by
  obtain ⟨p1, p2, p3⟩ := Fl.pw_neg hj
  have hr := (Fl.pw_range (-(j : Int))).2
  have hlen := Fl.ten_len j
  have h0 := Fl.ten_ne j
  have hmid := Fl.ten_mid (show j ≤ 2000 by omega)
  rw [Fl.pval, p1, p3]
  obtain ⟨P, hP⟩ : ∃ P, P = Fl.pwP (-(j : Int)) := ⟨_, rfl⟩
  rw [← hP] at p2 hr ⊢
  have hpow := fun w1 => na_pow_any 10 (j : Int) w1 (by omega) (by omega)
  rw [Fl.pow_ten (by omega)] at hpow
  obtain ⟨T, hT⟩ : ∃ T, T = 10 ^ j := ⟨_, rfl⟩
  rw [← hT] at p2 hpow h0 hmid hlen ⊢
  obtain ⟨L, hL⟩ : ∃ L, L = Na.bitLen T := ⟨_, rfl⟩
  have hlT := fun a1 c1 w1 (s1 : Sl w1 a1 c1 (Na.limbs T)) => na_len_any a1 c1 (Na.limbs T) w1 s1 (by unfold Fl.Mid at hmid; omega)
  rw [Na.val_limbs, ← hL] at hlT
  rw [← hL] at p2 hlen ⊢
  have hshl := fun (wr : World) => (by
    have := na_shl_any _ _ (Na.limbs 1) ((L + 127 : Nat) : Int) _ (lit_one9 wr) (by rw [Na.limbs_one]; simp) (by omega)
    rw [Fl.shl_mid (by decide) (by show 1 + _ ≤ _; omega), Na.limbs_one] at this
    exact this : Calls Tryz.prog 90 #[.slice (some ⟨wr.heap.size, 0, none⟩) 1 1, .int .i64 ((L + 127 : Nat) : Int)] (wr.alloc (Obj.cells #[Value.int IntKind.u32 1] 81)) (GivesE (Na.limbs (1 * 2 ^ (L + 127)), 0) (wr.alloc (Obj.cells #[Value.int IntKind.u32 1] 81))))
  have hupm : Fl.Mid (1 * 2 ^ (L + 127)) := Fl.mid_pow (k := L + 128) (by rw [Nat.one_mul]; exact Nat.pow_lt_pow_right (by decide) (by omega)) (by omega)
  obtain ⟨U, hU⟩ : ∃ U, U = 1 * 2 ^ (L + 127) := ⟨_, rfl⟩
  rw [← hU] at hshl hupm p2
  have hPm : Fl.Mid P := Fl.mid_pow (k := 128) (Nat.lt_of_lt_of_le hr (by decide)) (by decide)
  have hdiv := fun (wr : World) a1 c1 a2 c2 (s1 : Sl wr a1 c1 (Na.limbs U)) (s2 : Sl wr a2 c2 (Na.limbs T)) => (by
    have := na_divmod_any a1 c1 (Na.limbs U) a2 c2 (Na.limbs T) wr s1 s2 (by unfold Fl.Mid at hupm; omega) (by unfold Fl.Mid at hmid; omega)
    rw [Fl.div_mid hupm hmid h0, ← p2] at this
    exact this : Calls Tryz.prog 157 #[.slice a1 (Na.limbs U).length c1, .slice a2 (Na.limbs T).length c2] wr (GivesQ (Na.limbs P, Na.limbs (U % T), 0) wr))
  have hval := fun (wr : World) a1 c1 (s1 : Sl wr a1 c1 (Na.limbs P)) => re_value_lim P _ _ a1 c1 wr s1 hPm rfl rfl hr
  obtain ⟨hi, hhi⟩ : ∃ x, x = P / 18446744073709551616 := ⟨_, rfl⟩
  obtain ⟨lo, hlo⟩ : ∃ x, x = P % 18446744073709551616 := ⟨_, rfl⟩
  rw [← hhi, ← hlo] at hval ⊢
  have hmax : max (-(j : Int)) (-(-(j : Int))) = (j : Int) := by omega
  have HP := Lib.hid hpow; have HLN := Lib.hid hlT; have HSH := Lib.hid hshl; have HDV := Lib.hid hdiv; have HV := Lib.hid hval
  obtain ⟨n, hn⟩ : ∃ n : Int, n = -(j : Int) := ⟨_, rfl⟩
  have hnn : -n = (j : Int) := by omega
  have hnb : n < 0 := by omega
  rw [← hn]
  have hmx : max n (j : Int) = (j : Int) := by omega
  have hLe : ∀ a b : Nat, ((L + 127 : Nat) : Int) = (L : Int) + 127 := fun _ _ => by omega
  have hsh2 : ∀ wr : World, Calls Tryz.prog 90 #[.slice (some ⟨wr.heap.size, 0, none⟩) 1 1, .int .i64 ((L : Int) + 127)] (wr.alloc (Obj.cells #[Value.int IntKind.u32 1] 81)) (GivesE (Na.limbs U, 0) (wr.alloc (Obj.cells #[Value.int IntKind.u32 1] 81))) := fun wr => by
    rw [← hLe 0 0]; exact hshl wr
  replace HSH := Lib.hid hsh2
  have hLb : L ≤ 4 * 400 + 1 := by omega
  clear p1 p2 p3 hr h0 hmid hP hpow hT hL hlT hshl hupm hU hPm hdiv hval hhi hlo hn hlen hmax hLe hsh2
  have CF0 : Hid (CF (w.alloc (Obj.cells #[.int .u64 0, .int .u64 0, .int .i64 0, .bool false] 93)) w.heap.size pw0) := Lib.hid (CF.new w pw0 _)
  have HB0 : Hid (Below w.heap.size w (w.alloc (Obj.cells #[.int .u64 0, .int .u64 0, .int .i64 0, .bool false] 93))) := Lib.hid ((Below.refl _ _).alloc (Nat.le_refl _) _)
  go_enter Tryz.func184, Tryz.ntmps184
  go_wp2_with (first
    | (go_at_call 92; (with_reducible refine (HP.out _).mono ?_); rintro e w1 ⟨a1, c1, rfl, s1, -, hb1⟩; have cf1 := CF0.out.on hb1; have hB1 := HB0.out.trans (hb1.mono (by simp)))
    | (go_at_call 114; (with_reducible refine (HLN.out _ _ _ s1).mono ?_); rintro e w' ⟨rfl, rfl⟩)
    | (go_at_call 90; (with_reducible refine (HSH.out _).mono ?_); rintro e w2 ⟨a2, c2, rfl, s2, -, hb2⟩; have hba2 : Below w1.heap.size w1 w2 := Below.trans ((Below.refl _ _).alloc (Nat.le_refl _) _) (hb2.mono (by simp)); have hB2 := hB1.trans (hba2.mono hB1.size); have s12 := s1.on hba2; have cf2 := cf1.on hba2)
    | (go_at_call 157; (with_reducible refine (HDV.out _ _ _ _ _ s2 s12).mono ?_); rintro e w3 ⟨a3, c3, a4, c4, rfl, s3, -, -, -, hb3⟩; have hB3 := hB2.trans (hb3.mono hB2.size); have cf3 := cf2.on hb3; have hz3 := hB3.size)
    | (go_at_call 206; (with_reducible refine (HV.out _ _ _ s3).mono ?_); rintro e w4 ⟨rfl, hb_w4⟩; have hB_w4 : Below (w3).heap.size (w3) w4 := Below.trans (by (repeat (first | exact Below.refl _ _ | assumption | refine Below.setCell ?_ (by first | omega | (simp <;> omega)) _ | refine Below.alloc ?_ (by first | omega | (simp <;> omega)) _ | refine Below.drew ?_ | refine below_drewN' ?_ _))) (hb_w4.mono (by first | omega | (simp <;> omega))); obtain ⟨hc_w4, hf_w4⟩ := bcell hb_w4; have hz_w4 := hb_w4.size; (try simp only [zD, zN, zA, zS] at hz_w4); have hB4 := hB3.trans (hB_w4.mono hz3); have cf4 := cf3.on hB_w4; have q0 := cf4.1.get 0 rfl; have q1 := cf4.1.get 1 rfl; have q2 := cf4.1.get 2 rfl; have q3 := cf4.1.get 3 rfl; have z0 := cf4.2 0; have z1 := cf4.2 1; have z2 := cf4.2 2; have z3 := cf4.2 3; have ql := cf4.1.1))
  have HS := cf4.stored [.int .u64 hi, .int .u64 lo, .int .i64 (-((L : Int) + 127)), .bool false] rfl
  have HX := below_setCells (B := w.heap.size) (b := w.heap.size) (Nat.le_refl _) [.int .u64 hi, .int .u64 lo, .int .i64 (-((L : Int) + 127)), .bool false] 0 hB4
  obtain ⟨Y, hY⟩ : ∃ Y, Y = w4.setCells w.heap.size 0 [.int .u64 hi, .int .u64 lo, .int .i64 (-((L : Int) + 127)), .bool false] := ⟨_, rfl⟩
  change bodyPost _ _ _ _ _ (w4.setCells w.heap.size 0 [.int .u64 hi, .int .u64 lo, .int .i64 (-((L : Int) + 127)), .bool false])
  rw [← hY] at HS HX ⊢
  have y0 := HS.1.get 0 rfl
  have y1 := HS.1.get 1 rfl
  have y2 := HS.1.get 2 rfl
  have y3 := HS.1.get 3 rfl
  clear hY
  refine bodyPost_ret (v := .agg #[.int .u64 hi, .int .u64 lo, .int .i64 (-((L : Int) + 127)), .bool false]) (by (simp [results, Tryz.results184, go_sem, y0, y1, y2, y3]; done)) rfl (RetB.of rfl HX)
theorem re_made_pos (j : Nat) (hj2 : j ≤ 400) (w : World) : Calls Tryz.prog 184 #[.int .i64 (j : Nat)] w (RetB (Fl.pval (j : Int)) w) := by
  obtain ⟨e, he⟩ : ∃ e : Int, e = (Na.bitLen (10 ^ j) : Int) - 128 := ⟨_, rfl⟩
  obtain ⟨p1, p2, p3⟩ := Fl.pw_pos he
  have hr := (Fl.pw_range (j : Int)).2
  have hlen := Fl.ten_len j
  have h0 := Fl.ten_ne j
  have hmid := Fl.ten_mid (show j ≤ 2000 by omega)
  rw [Fl.pval, p1]
  obtain ⟨P, hP⟩ : ∃ P, P = Fl.pwP (j : Int) := ⟨_, rfl⟩
  obtain ⟨A, hA⟩ : ∃ P, P = Fl.pwA (j : Int) := ⟨_, rfl⟩
  rw [← hP, ← hA] at p2 p3
  rw [← hP] at hr
  rw [← hP, ← hA]
  have hpow := fun w1 => na_pow_any 10 (j : Int) w1 (by omega) (by omega)
  rw [Fl.pow_ten (by omega)] at hpow
  obtain ⟨T, hT⟩ : ∃ T, T = 10 ^ j := ⟨_, rfl⟩
  rw [← hT] at p2 p3 hpow h0 hmid hlen he
  obtain ⟨L, hL⟩ : ∃ L, L = Na.bitLen T := ⟨_, rfl⟩
  have hlT := fun a1 c1 w1 (s1 : Sl w1 a1 c1 (Na.limbs T)) => na_len_any a1 c1 (Na.limbs T) w1 s1 (by unfold Fl.Mid at hmid; omega)
  rw [Na.val_limbs, ← hL] at hlT
  rw [← hL] at hlen he
  have hPm : Fl.Mid P := Fl.mid_pow (k := 128) (Nat.lt_of_lt_of_le hr (by decide)) (by decide)
  have hval := fun (wr : World) a1 c1 (s1 : Sl wr a1 c1 (Na.limbs P)) => re_value_lim P _ _ a1 c1 wr s1 hPm rfl rfl hr
  obtain ⟨hi, hhi⟩ : ∃ x, x = P / 18446744073709551616 := ⟨_, rfl⟩
  obtain ⟨lo, hlo⟩ : ∃ x, x = P % 18446744073709551616 := ⟨_, rfl⟩
  rw [← hhi, ← hlo] at hval ⊢
  have heL : (L : Int) - 128 = e := he.symm
  have hmx : max (j : Int) (-(j : Int)) = (j : Int) := by omega
  have hj0 : ¬ (j : Int) < 0 := by omega
  have heb : -128 ≤ e ∧ e ≤ 1500 := by omega
  obtain ⟨eb1, eb2⟩ := heb
  have HP := Lib.hid hpow; have HLN := Lib.hid hlT; have HV := Lib.hid hval
  have CF0 : Hid (CF (w.alloc (Obj.cells #[.int .u64 0, .int .u64 0, .int .i64 0, .bool false] 93)) w.heap.size pw0) := Lib.hid (CF.new w pw0 _)
  have HB0 : Hid (Below w.heap.size w (w.alloc (Obj.cells #[.int .u64 0, .int .u64 0, .int .i64 0, .bool false] 93))) := Lib.hid ((Below.refl _ _).alloc (Nat.le_refl _) _)
  by_cases hup : e ≤ 0
  · obtain ⟨q1, q2⟩ := p2 hup
    obtain ⟨k, hk⟩ : ∃ k : Nat, k = (-e).toNat := ⟨_, rfl⟩
    rw [← hk] at q1
    have hke : -e = (k : Int) := by omega
    have hshl := fun (wr : World) a1 c1 (s1 : Sl wr a1 c1 (Na.limbs T)) => na_shl_any a1 c1 (Na.limbs T) (k : Int) wr s1 (by unfold Fl.Mid at hmid; omega) (by omega)
    rw [Fl.shl_mid h0 (by rw [← hL]; omega), ← q1] at hshl
    have HSH := Lib.hid hshl
    subst q2
    clear p1 p2 p3 hr h0 hmid hP hA hpow hT hL hlT hshl hPm hval hhi hlo hlen he hk q1
    go_enter Tryz.func184, Tryz.ntmps184
    go_wp2_with (first
      | (go_at_call 92; (with_reducible refine (HP.out _).mono ?_); rintro e w1 ⟨a1, c1, rfl, s1, -, hb1⟩; have cf1 := CF0.out.on hb1; have hB1 := HB0.out.trans (hb1.mono (by simp)))
      | (go_at_call 114; (with_reducible refine (HLN.out _ _ _ s1).mono ?_); rintro e w' ⟨rfl, rfl⟩)
      | (go_at_call 90; (with_reducible refine (HSH.out _ _ _ s1).mono ?_); rintro e w2 ⟨a2, c2, rfl, s2, -, hb2⟩; have hB2 := hB1.trans (hb2.mono hB1.size); have cf2 := cf1.on hb2; have hz2 := hB2.size)
      | (go_at_call 206; (with_reducible refine (HV.out _ _ _ s2).mono ?_); rintro e w4 ⟨rfl, hb_w4⟩; have hB_w4 : Below (w2).heap.size (w2) w4 := Below.trans (by (repeat (first | exact Below.refl _ _ | assumption | refine Below.setCell ?_ (by first | omega | (simp <;> omega)) _ | refine Below.alloc ?_ (by first | omega | (simp <;> omega)) _ | refine Below.drew ?_ | refine below_drewN' ?_ _))) (hb_w4.mono (by first | omega | (simp <;> omega))); obtain ⟨hc_w4, hf_w4⟩ := bcell hb_w4; have hz_w4 := hb_w4.size; (try simp only [zD, zN, zA, zS] at hz_w4); have hB4 := hB2.trans (hB_w4.mono hz2); have cf4 := cf2.on hB_w4; have q0 := cf4.1.get 0 rfl; have q1 := cf4.1.get 1 rfl; have q2 := cf4.1.get 2 rfl; have q3 := cf4.1.get 3 rfl; have z0 := cf4.2 0; have z1 := cf4.2 1; have z2 := cf4.2 2; have z3 := cf4.2 3; have ql := cf4.1.1))
    have HS := cf4.stored [.int .u64 hi, .int .u64 lo, .int .i64 (e), .bool true] rfl
    have HX := below_setCells (B := w.heap.size) (b := w.heap.size) (Nat.le_refl _) [.int .u64 hi, .int .u64 lo, .int .i64 (e), .bool true] 0 hB4
    obtain ⟨Y, hY⟩ : ∃ Y, Y = w4.setCells w.heap.size 0 [.int .u64 hi, .int .u64 lo, .int .i64 (e), .bool true] := ⟨_, rfl⟩
    change bodyPost _ _ _ _ _ (w4.setCells w.heap.size 0 [.int .u64 hi, .int .u64 lo, .int .i64 (e), .bool true])
    rw [← hY] at HS HX ⊢
    have y0 := HS.1.get 0 rfl
    have y1 := HS.1.get 1 rfl
    have y2 := HS.1.get 2 rfl
    have y3 := HS.1.get 3 rfl
    clear hY
    refine bodyPost_ret (v := .agg #[.int .u64 hi, .int .u64 lo, .int .i64 (e), .bool true]) (by (simp [results, Tryz.results184, go_sem, y0, y1, y2, y3]; done)) rfl (RetB.of rfl HX)
  · obtain ⟨q1, q2⟩ := p3 (by omega)
    obtain ⟨k, hk⟩ : ∃ k : Nat, k = e.toNat := ⟨_, rfl⟩
    rw [← hk] at q1 q2
    have hke : e = (k : Int) := by omega
    have hshr := fun (wr : World) a1 c1 (s1 : Sl wr a1 c1 (Na.limbs T)) => na_shr_any a1 c1 (Na.limbs T) (k : Int) wr s1 (by unfold Fl.Mid at hmid; omega) (by omega)
    rw [Fl.shr_mid hmid, ← q1] at hshr
    obtain ⟨z, hz⟩ : ∃ z, z = decide (T % 2 ^ k ≠ 0) := ⟨_, rfl⟩
    rw [← hz] at hshr q2
    have HSR := Lib.hid hshr
    have hAz : (!z) = A := q2.symm
    subst hke
    have hup' : ¬ (k : Int) ≤ 0 := hup
    have HAZ := Lib.hid hAz
    clear p1 p2 p3 hr h0 hmid hP hA hpow hT hL hlT hshr hPm hval hhi hlo hlen he hk q1 q2 hz hAz hup
    go_enter Tryz.func184, Tryz.ntmps184
    go_wp2_with (first
      | (go_at_call 92; (with_reducible refine (HP.out _).mono ?_); rintro e w1 ⟨a1, c1, rfl, s1, -, hb1⟩; have cf1 := CF0.out.on hb1; have hB1 := HB0.out.trans (hb1.mono (by simp)))
      | (go_at_call 114; (with_reducible refine (HLN.out _ _ _ s1).mono ?_); rintro e w' ⟨rfl, rfl⟩)
      | (go_at_call 91; (with_reducible refine (HSR.out _ _ _ s1).mono ?_); rintro e w2 ⟨a2, c2, rfl, s2, -, hb2⟩; have hB2 := hB1.trans (hb2.mono hB1.size); have cf2 := cf1.on hb2; have hz2 := hB2.size)
      | (go_at_call 206; (with_reducible refine (HV.out _ _ _ s2).mono ?_); rintro e w4 ⟨rfl, hb_w4⟩; have hB_w4 : Below (w2).heap.size (w2) w4 := Below.trans (by (repeat (first | exact Below.refl _ _ | assumption | refine Below.setCell ?_ (by first | omega | (simp <;> omega)) _ | refine Below.alloc ?_ (by first | omega | (simp <;> omega)) _ | refine Below.drew ?_ | refine below_drewN' ?_ _))) (hb_w4.mono (by first | omega | (simp <;> omega))); obtain ⟨hc_w4, hf_w4⟩ := bcell hb_w4; have hz_w4 := hb_w4.size; (try simp only [zD, zN, zA, zS] at hz_w4); have hB4 := hB2.trans (hB_w4.mono hz2); have cf4 := cf2.on hB_w4; have q0 := cf4.1.get 0 rfl; have q1 := cf4.1.get 1 rfl; have q2 := cf4.1.get 2 rfl; have q3 := cf4.1.get 3 rfl; have z0 := cf4.2 0; have z1 := cf4.2 1; have z2 := cf4.2 2; have z3 := cf4.2 3; have ql := cf4.1.1))
    rw [← HAZ.out]
    have HS := cf4.stored [.int .u64 hi, .int .u64 lo, .int .i64 ((k : Int)), .bool (!z)] rfl
    have HX := below_setCells (B := w.heap.size) (b := w.heap.size) (Nat.le_refl _) [.int .u64 hi, .int .u64 lo, .int .i64 ((k : Int)), .bool (!z)] 0 hB4
    obtain ⟨Y, hY⟩ : ∃ Y, Y = w4.setCells w.heap.size 0 [.int .u64 hi, .int .u64 lo, .int .i64 ((k : Int)), .bool (!z)] := ⟨_, rfl⟩
    change bodyPost _ _ _ _ _ (w4.setCells w.heap.size 0 [.int .u64 hi, .int .u64 lo, .int .i64 ((k : Int)), .bool (!z)])
    rw [← hY] at HS HX ⊢
    have y0 := HS.1.get 0 rfl
    have y1 := HS.1.get 1 rfl
    have y2 := HS.1.get 2 rfl
    have y3 := HS.1.get 3 rfl
    clear hY
    refine bodyPost_ret (v := .agg #[.int .u64 hi, .int .u64 lo, .int .i64 ((k : Int)), .bool (!z)]) (by (simp [results, Tryz.results184, go_sem, y0, y1, y2, y3]; done)) rfl (RetB.of rfl HX)
theorem re_made_any (n : Int) (hn : -400 ≤ n ∧ n ≤ 400) (w : World) : Calls Tryz.prog 184 #[.int .i64 n] w (RetB (Fl.pval n) w) := by
  by_cases h : n < 0
  · obtain ⟨j, hj⟩ : ∃ j : Nat, n = -(j : Int) := ⟨(-n).toNat, by omega⟩
    subst hj
    exact re_made_neg j (by omega) (by omega) w
  · obtain ⟨j, hj⟩ : ∃ j : Nat, n = (j : Int) := ⟨n.toNat, by omega⟩
    subst hj
    exact re_made_pos j (by omega) w
end Go.Proofs.YtiglekomfgfilaaGreatDoor

/- The Reader in the program: a power that is made when it is asked for first. -/
namespace Go.Proofs.YtiglekomfgfilaaGreatDoor
set_option maxRecDepth 100000
set_option maxHeartbeats 4000000
set_option linter.all false
open Go.RowKit
def Fl.pcells (n : Int) : List Value := [.int .u64 ((Fl.pwP n / 18446744073709551616 : Nat) : Int), .int .u64 ((Fl.pwP n % 18446744073709551616 : Nat) : Int), .int .i64 (Fl.pwE n), .bool (Fl.pwA n)]
theorem re_of1_any (gn gs b o : Nat) (n : Int) (W : World) (hn : -400 ≤ n ∧ n ≤ 400) (hgn : gn < W.heap.size) (hgs : gs < W.heap.size) (hb : b < W.heap.size) (hnb : gn ≠ b) (hsb : gs ≠ b)
    (h0 : W.cell? ⟨gn, 0, none⟩ = some (.int .i64 n)) (h1 : W.cell? ⟨gs, 0, none⟩ = some (.pointer (some ⟨b, o, none⟩)))
    (c0 : W.cell? ⟨b, o + 3, none⟩ = some (.int .u64 0)) (c1 : W.cell? ⟨b, o + 4, none⟩ = some (.int .u64 0)) (c2 : W.cell? ⟨b, o + 5, none⟩ = some (.int .i64 0)) (c3 : W.cell? ⟨b, o + 6, none⟩ = some (.bool false)) (hf : ∀ o, W.frozen? ⟨b, o, none⟩ = false) :
    Calls Tryz.prog 183 #[.pointer (some ⟨gn, 0, none⟩), .pointer (some ⟨gs, 0, none⟩)] W fun e w' => e = .returned (.tuple #[]) ∧ ∃ W1, Below W.heap.size W W1 ∧ w' = W1.setCells b (o + 3) (Fl.pcells n) := by
  have h1' := fun w1 => re_made_any n hn w1
  simp only [Fl.pval] at h1'
  rw [Fl.pcells]
  obtain ⟨A, hA⟩ : ∃ A, A = Fl.pwP n / 18446744073709551616 := ⟨_, rfl⟩
  obtain ⟨B, hB⟩ : ∃ A, A = Fl.pwP n % 18446744073709551616 := ⟨_, rfl⟩
  obtain ⟨C, hC⟩ : ∃ A, A = Fl.pwE n := ⟨_, rfl⟩
  obtain ⟨D, hD⟩ : ∃ A, A = Fl.pwA n := ⟨_, rfl⟩
  rw [← hA, ← hB, ← hC, ← hD] at h1'
  rw [← hA, ← hB, ← hC, ← hD]
  have H1 := Lib.hid h1'
  clear h1' hA hB hC hD
  have f0 := hf (o + 3); have f1 := hf (o + 4); have f2 := hf (o + 5); have f3 := hf (o + 6)
  go_enter Tryz.func183, Tryz.ntmps183
  go_upto_region 0 with (fail)
  go_region_held3 (fun w' => w'.cell? ⟨gn, 0, none⟩ = some (.int .i64 n) ∧ w'.cell? ⟨gs, 0, none⟩ = some (.pointer (some ⟨b, o, none⟩)))
    (first | go_keep | (refine ⟨?_, ?_⟩ <;> (first | (rw [hr0_w1]; assumption) | (rw [hr1_w1]; assumption))) | (refine ⟨?_, ?_⟩ <;> (first | (go_simp; done) | (simp [go_sem, *]; done))))
    (first | (go_at_call 184; (with_reducible refine (H1.out _).mono ?_); rintro e w1 ⟨rfl, hb_w1⟩; have hB_w1 : Below (W).heap.size (W) w1 := Below.trans (by (repeat (first | exact Below.refl _ _ | assumption | refine Below.setCell ?_ (by first | omega | (simp <;> omega)) _ | refine Below.alloc ?_ (by first | omega | (simp <;> omega)) _ | refine Below.drew ?_ | refine below_drewN' ?_ _))) (hb_w1.mono (by first | omega | (simp <;> omega))); obtain ⟨hc_w1, hf_w1⟩ := bcell hb_w1; have hz_w1 := hb_w1.size; (try simp only [zD, zN, zA, zS] at hz_w1); have hk := own6 hb_w1 (gn) (by (try simp only [zD, zN, zA, zS]); omega); obtain ⟨hl0_w1, hm0_w1, hn0_w1, hq0_w1, hr0_w1, hg0_w1⟩ := hk; have hk := own6 hb_w1 (gs) (by (try simp only [zD, zN, zA, zS]); omega); obtain ⟨hl1_w1, hm1_w1, hn1_w1, hq1_w1, hr1_w1, hg1_w1⟩ := hk; have hk := own6 hb_w1 (b) (by (try simp only [zD, zN, zA, zS]); omega); obtain ⟨hl2_w1, hm2_w1, hn2_w1, hq2_w1, hr2_w1, hg2_w1⟩ := hk))
  all_goals (refine bodyPost_end (results_none rfl _ _ _) rfl ?_)
  all_goals first
    | exact ⟨rfl, w1, hB_w1, rfl⟩
    | exact ⟨rfl, w1.drew, hB_w1.drew, rfl⟩
    | exact ⟨rfl, _, below_drewN' hB_w1 _, rfl⟩
theorem slot_filled {W0 W1 w' : World} {b o : Nat} {n : Int} (hb : b < W0.heap.size) (s : Slot0 W0 b o) (h1 : Below (W0.setCell ⟨b, o + 1, none⟩ (.int .i32 1)).heap.size (W0.setCell ⟨b, o + 1, none⟩ (.int .i32 1)) W1)
    (hw : w' = (((W1.setCells b (o + 3) (Fl.pcells n)).setCell ⟨b, o, none⟩ (.int .u32 1)).setCell ⟨b, o + 1, none⟩ (.int .i32 0)).drew) : Turn b o W0 w' ∧ Slot1 w' b o n := by
  have hb1 : b < (W0.setCell ⟨b, o + 1, none⟩ (.int .i32 1)).heap.size := by rw [World.size_setCell]; exact hb
  have t1 : Turn b o W0 W1 := ((Turn.refl b o W0).setCell (j := o + 1) (by omega) (.int .i32 1)).trans (Turn.of hb1 h1)
  have k : ∀ j, j ≠ o + 1 → W1.cell? ⟨b, j, none⟩ = W0.cell? ⟨b, j, none⟩ := fun j hj =>
    (h1.cell (p := ⟨b, j, none⟩) hb1).trans (World.cell?_setCell_other _ ⟨b, o + 1, none⟩ ⟨b, j, none⟩ _ (by intro e; injection e; omega))
  have d0 := (k o (by omega)).trans s.done
  have d3 := (k (o + 3) (by omega)).trans s.hi
  have d4 := (k (o + 4) (by omega)).trans s.lo
  have d5 := (k (o + 5) (by omega)).trans s.e
  have d6 := (k (o + 6) (by omega)).trans s.all
  have ne : ∀ (w : World) (i j : Nat) (u : Value), i ≠ j → (w.setCell ⟨b, i, none⟩ u).cell? ⟨b, j, none⟩ = w.cell? ⟨b, j, none⟩ := fun w i j u h => World.cell?_setCell_other _ ⟨b, i, none⟩ ⟨b, j, none⟩ _ (by intro e; injection e; omega)
  obtain ⟨A, hA⟩ : ∃ A : Value, A = .int .u64 ((Fl.pwP n / 18446744073709551616 : Nat) : Int) := ⟨_, rfl⟩
  obtain ⟨B, hB⟩ : ∃ A : Value, A = .int .u64 ((Fl.pwP n % 18446744073709551616 : Nat) : Int) := ⟨_, rfl⟩
  obtain ⟨C, hC⟩ : ∃ A : Value, A = .int .i64 (Fl.pwE n) := ⟨_, rfl⟩
  obtain ⟨D, hD⟩ : ∃ A : Value, A = .bool (Fl.pwA n) := ⟨_, rfl⟩
  have hp : Fl.pcells n = [A, B, C, D] := by rw [Fl.pcells, hA, hB, hC, hD]
  rw [hp] at hw
  have hw2 : w' = ((((((W1.setCell ⟨b, o + 3, none⟩ A).setCell ⟨b, o + 4, none⟩ B).setCell ⟨b, o + 5, none⟩ C).setCell ⟨b, o + 6, none⟩ D).setCell ⟨b, o, none⟩ (.int .u32 1)).setCell ⟨b, o + 1, none⟩ (.int .i32 0)).drew := hw
  clear hw
  subst hw2
  refine ⟨((((((t1.setCell (by omega) _).setCell (by omega) _).setCell (by omega) _).setCell (by omega) _).setCell (by omega) _).setCell (by omega) _).drew, ?_, ?_, ?_, ?_, ?_⟩
  · rw [World.cell?_drew, ne _ _ _ _ (by omega), World.cell?_setCell_same _ _ _ (by rw [ne _ _ _ _ (by omega), ne _ _ _ _ (by omega), ne _ _ _ _ (by omega), ne _ _ _ _ (by omega)]; exact d0)]
  · rw [World.cell?_drew, ne _ _ _ _ (by omega), ne _ _ _ _ (by omega), ne _ _ _ _ (by omega), ne _ _ _ _ (by omega), ne _ _ _ _ (by omega), World.cell?_setCell_same _ _ _ d3, hA]
  · rw [World.cell?_drew, ne _ _ _ _ (by omega), ne _ _ _ _ (by omega), ne _ _ _ _ (by omega), ne _ _ _ _ (by omega), World.cell?_setCell_same _ _ _ (by rw [ne _ _ _ _ (by omega)]; exact d4), hB]
  · rw [World.cell?_drew, ne _ _ _ _ (by omega), ne _ _ _ _ (by omega), ne _ _ _ _ (by omega), World.cell?_setCell_same _ _ _ (by rw [ne _ _ _ _ (by omega), ne _ _ _ _ (by omega)]; exact d5), hC]
  · rw [World.cell?_drew, ne _ _ _ _ (by omega), ne _ _ _ _ (by omega), World.cell?_setCell_same _ _ _ (by rw [ne _ _ _ _ (by omega), ne _ _ _ _ (by omega), ne _ _ _ _ (by omega)]; exact d6), hD]
theorem on_do_done (b o : Nat) (fv : Value) (w : World) (h0 : w.cell? ⟨b, o, none⟩ = some (.int .u32 1)) (hb : b < w.heap.size) :
    Calls Tryz.prog 182 #[.pointer (some ⟨b, o, none⟩), fv] w fun e w' => e = .returned (.tuple #[]) ∧ w' = w := by
  have HL := Lib.hid (on_load ⟨b, o, none⟩ 1 true w h0 rfl)
  go_enter Tryz.func182, Tryz.ntmps182
  go_wp2_with (go_at_call 204; refine (HL.out).mono ?_; rintro e w' ⟨rfl, rfl⟩)
  refine bodyPost_end (results_none rfl _ _ _) rfl ?_
  exact ⟨rfl, rfl⟩
theorem on_do_now (gn gs b o : Nat) (n : Int) (w : World) (hn : -400 ≤ n ∧ n ≤ 400) (hgn : gn < w.heap.size) (hgs : gs < w.heap.size) (hb : b < w.heap.size) (hnb : gn ≠ b) (hsb : gs ≠ b)
    (h0 : w.cell? ⟨gn, 0, none⟩ = some (.int .i64 n)) (h1 : w.cell? ⟨gs, 0, none⟩ = some (.pointer (some ⟨b, o, none⟩))) (s : Slot0 w b o) (hf : ∀ o, w.frozen? ⟨b, o, none⟩ = false) :
    Calls Tryz.prog 182 #[.pointer (some ⟨b, o, none⟩), .func (.func 183) #[] #[.pointer (some ⟨gn, 0, none⟩), .pointer (some ⟨gs, 0, none⟩)]] w fun e w' => e = .returned (.tuple #[]) ∧ Turn b o w w' ∧ Slot1 w' b o n := by
  have HL := Lib.hid (on_load ⟨b, o, none⟩ 0 false w s.done rfl)
  have ne : ∀ (g i : Nat) (u : Value), g ≠ b ∨ i ≠ o + 1 → (w.setCell ⟨b, o + 1, none⟩ u).cell? ⟨g, i, none⟩ = w.cell? ⟨g, i, none⟩ := fun g i u h => World.cell?_setCell_other _ ⟨b, o + 1, none⟩ ⟨g, i, none⟩ _ (by intro e; injection e with e1 e2; rcases h with h | h; exact h e1.symm; omega)
  have hs := on_slow b o 183 #[.pointer (some ⟨gn, 0, none⟩), .pointer (some ⟨gs, 0, none⟩)] w
    (fun w2 => ∃ W1, Below (w.setCell ⟨b, o + 1, none⟩ (.int .i32 1)).heap.size (w.setCell ⟨b, o + 1, none⟩ (.int .i32 1)) W1 ∧ w2 = W1.setCells b (o + 3) (Fl.pcells n)) s.done s.lock hf rfl
    ((re_of1_any gn gs b o n (w.setCell ⟨b, o + 1, none⟩ (.int .i32 1)) hn (by rw [World.size_setCell]; exact hgn) (by rw [World.size_setCell]; exact hgs) (by rw [World.size_setCell]; exact hb) hnb hsb
      ((ne _ _ _ (Or.inl hnb)).trans h0) ((ne _ _ _ (Or.inl hsb)).trans h1) ((ne _ _ _ (Or.inr (by omega))).trans s.hi) ((ne _ _ _ (Or.inr (by omega))).trans s.lo) ((ne _ _ _ (Or.inr (by omega))).trans s.e) ((ne _ _ _ (Or.inr (by omega))).trans s.all)
      (fun o' => by rw [World.frozen?_setCell]; exact hf o')).mono (fun e w' ⟨he, W1, hB, hw⟩ => by
        have hb1 : b < (w.setCell ⟨b, o + 1, none⟩ (.int .i32 1)).heap.size := by rw [World.size_setCell]; exact hb
        have hset : ∀ j, j < o + 3 → (W1.setCells b (o + 3) (Fl.pcells n)).cell? ⟨b, j, none⟩ = W1.cell? ⟨b, j, none⟩ := fun j hj => by
          have q : ∀ (w : World) (i : Nat) (u : Value), i ≠ j → (w.setCell ⟨b, i, none⟩ u).cell? ⟨b, j, none⟩ = w.cell? ⟨b, j, none⟩ := fun w i u h => World.cell?_setCell_other _ ⟨b, i, none⟩ ⟨b, j, none⟩ _ (by intro e; injection e; omega)
          exact (q _ (o + 6) _ (by omega)).trans ((q _ (o + 5) _ (by omega)).trans ((q _ (o + 4) _ (by omega)).trans (q _ (o + 3) _ (by omega))))
        refine ⟨he, ⟨W1, hB, hw⟩, ?_, ?_, fun o' => ?_⟩
        · rw [hw, hset o (by omega)]; exact (hB.cell (p := ⟨b, o, none⟩) hb1).trans ((ne _ _ _ (Or.inr (by omega))).trans s.done)
        · rw [hw, hset (o + 1) (by omega)]; exact (hB.cell (p := ⟨b, o + 1, none⟩) hb1).trans (World.cell?_setCell_same _ _ _ s.lock)
        · rw [hw, World.frozen?_setCells]; exact (hB.frozen (p := ⟨b, o', none⟩) hb1).trans (by rw [World.frozen?_setCell]; exact hf o')))
  have HS := Lib.hid hs
  clear hs ne
  go_enter Tryz.func182, Tryz.ntmps182
  go_wp2_with (first
    | (go_at_call 204; refine (HL.out).mono ?_; rintro e w' ⟨rfl, rfl⟩)
    | (go_at_call 205; refine (HS.out).mono ?_; rintro e w' ⟨rfl, w2, ⟨W1, hB, rfl⟩, hw⟩))
  refine bodyPost_end (results_none rfl _ _ _) rfl ?_
  exact ⟨rfl, slot_filled hb s hB rfl⟩
end Go.Proofs.YtiglekomfgfilaaGreatDoor

/- The Reader in the program: a power of ten is told. -/
namespace Go.Proofs.YtiglekomfgfilaaGreatDoor
set_option maxRecDepth 100000
set_option maxHeartbeats 4000000
set_option linter.all false
open Go.RowKit
theorem Slot0.same {w w' : World} {b o : Nat} (h : Slot0 w b o) (hc : ∀ o', w'.cell? ⟨b, o', none⟩ = w.cell? ⟨b, o', none⟩) : Slot0 w' b o :=
  ⟨(hc _).trans h.done, (hc _).trans h.lock, (hc _).trans h.hi, (hc _).trans h.lo, (hc _).trans h.e, (hc _).trans h.all⟩
theorem Slot1.same {w w' : World} {b o : Nat} {n : Int} (h : Slot1 w b o n) (hc : ∀ o', w'.cell? ⟨b, o', none⟩ = w.cell? ⟨b, o', none⟩) : Slot1 w' b o n :=
  ⟨(hc _).trans h.done, (hc _).trans h.hi, (hc _).trans h.lo, (hc _).trans h.e, (hc _).trans h.all⟩
theorem Rdr.below {w w' : World} {b B : Nat} (h : Rdr w b) (hb : Below B w w') (hB : b < B) : Rdr w' b :=
  ⟨Nat.lt_of_lt_of_le h.lt hb.size, fun o => (hb.frozen (p := ⟨b, o, none⟩) hB).trans (h.free o), fun n h1 h2 => (h.slot n h1 h2).imp (fun s => s.same fun o' => hb.cell (p := ⟨b, o', none⟩) hB) (fun s => s.same fun o' => hb.cell (p := ⟨b, o', none⟩) hB)⟩
theorem Onl.own {b : Nat} {w w2 Y : World} (h : Onl b w w2) (hb : Below w.heap.size w2 Y) (hl : b < w.heap.size) : Onl b w Y :=
  ⟨h.below.trans (hb.mono (Nat.le_of_lt hl)), fun i hi hl' => (hb.block i hl').trans (h.block i hi hl')⟩
theorem re_of_any (b : Nat) (n : Int) (w : World) (hn : -400 ≤ n ∧ n ≤ 400) (hr : Rdr w b) : Calls Tryz.prog 150 #[.pointer (some ⟨b, 0, none⟩), .int .i64 n] w (RetR b (Fl.pval n) w) := by
  obtain ⟨k, hk⟩ : ∃ k : Nat, (400 : Int) + n = (k : Int) := ⟨(400 + n).toNat, by omega⟩
  have hko : slotAt n = k * 7 := by unfold slotAt; omega
  have hkl : k ≤ 800 := by omega
  obtain ⟨n1, n2⟩ := hn
  have hs := hr.slot n n1 n2
  have hbl := hr.lt
  have HR := Lib.hid hr
  have HS := Lib.hid hs
  have HKO := Lib.hid hko
  clear hr hs hko
  go_enter Tryz.func150, Tryz.ntmps150
  go_upto_region 1 with (fail)
  go_region
  have hcf : CF ((((w.alloc (Obj.cells #[Value.int IntKind.i64 n] 3)).alloc (Obj.cells #[.int .u64 0, .int .u64 0, .int .i64 0, .bool false] 93)).alloc (Obj.cells #[Value.pointer (some ⟨b, k * 7, none⟩)] 210)).drew) (w.heap.size + 1) pw0 := by
    have h := CF.new (w.alloc (Obj.cells #[Value.int IntKind.i64 n] 3)) pw0 93
    rw [World.size_alloc] at h
    exact (h.alloc _).on ((Below.refl _ _).drew)
  have hX0 : Below w.heap.size w ((((w.alloc (Obj.cells #[Value.int IntKind.i64 n] 3)).alloc (Obj.cells #[.int .u64 0, .int .u64 0, .int .i64 0, .bool false] 93)).alloc (Obj.cells #[Value.pointer (some ⟨b, k * 7, none⟩)] 210)).drew) := by (repeat (first | exact Below.refl _ _ | assumption | refine Below.setCell ?_ (by first | omega | (simp <;> omega)) _ | refine Below.alloc ?_ (by first | omega | (simp <;> omega)) _ | refine Below.drew ?_ | refine below_drewN' ?_ _))
  have hc0 : ((((w.alloc (Obj.cells #[Value.int IntKind.i64 n] 3)).alloc (Obj.cells #[.int .u64 0, .int .u64 0, .int .i64 0, .bool false] 93)).alloc (Obj.cells #[Value.pointer (some ⟨b, k * 7, none⟩)] 210)).drew).cell? ⟨w.heap.size, 0, none⟩ = some (.int .i64 n) := by simp [go_sem]
  have hcs : ((((w.alloc (Obj.cells #[Value.int IntKind.i64 n] 3)).alloc (Obj.cells #[.int .u64 0, .int .u64 0, .int .i64 0, .bool false] 93)).alloc (Obj.cells #[Value.pointer (some ⟨b, k * 7, none⟩)] 210)).drew).cell? ⟨w.heap.size + 1 + 1, 0, none⟩ = some (.pointer (some ⟨b, k * 7, none⟩)) := by simp [go_sem]
  have hsz : w.heap.size + 3 = ((((w.alloc (Obj.cells #[Value.int IntKind.i64 n] 3)).alloc (Obj.cells #[.int .u64 0, .int .u64 0, .int .i64 0, .bool false] 93)).alloc (Obj.cells #[Value.pointer (some ⟨b, k * 7, none⟩)] 210)).drew).heap.size := by simp
  generalize ((((w.alloc (Obj.cells #[Value.int IntKind.i64 n] 3)).alloc (Obj.cells #[.int .u64 0, .int .u64 0, .int .i64 0, .bool false] 93)).alloc (Obj.cells #[Value.pointer (some ⟨b, k * 7, none⟩)] 210)).drew) = X at *
  have hRX := HR.out.on hX0
  have hdo : Calls Tryz.prog 182 #[.pointer (some ⟨b, k * 7, none⟩), .func (.func 183) #[] #[.pointer (some ⟨w.heap.size, 0, none⟩), .pointer (some ⟨w.heap.size + 1 + 1, 0, none⟩)]] X fun e w2 => e = .returned (.tuple #[]) ∧ Onl b X w2 ∧ Rdr w2 b ∧ Slot1 w2 b (k * 7) n := by
    rcases hRX.slot n n1 n2 with s | s
    · rw [HKO.out] at s
      refine (on_do_now w.heap.size (w.heap.size + 1 + 1) b (k * 7) n X ⟨n1, n2⟩ (by omega) (by omega) hRX.lt (by omega) (by omega) hc0 hcs s hRX.free).mono ?_
      rintro e w2 ⟨he, ht, hs⟩
      exact ⟨he, ht.onl, hRX.turn n1 (by rw [HKO.out]; exact ht) (by rw [HKO.out]; exact hs), hs⟩
    · rw [HKO.out] at s
      refine (on_do_done b (k * 7) _ X s.done hRX.lt).mono ?_
      rintro e w2 ⟨he, rfl⟩
      exact ⟨he, Onl.refl _ _, hRX, s⟩
  have hpv : Fl.pval n = .agg #[.int .u64 ((Fl.pwP n / 18446744073709551616 : Nat) : Int), .int .u64 ((Fl.pwP n % 18446744073709551616 : Nat) : Int), .int .i64 (Fl.pwE n), .bool (Fl.pwA n)] := rfl
  have hdo2 : ∀ w2, Slot1 w2 b (k * 7) n → w2.cell? ⟨b, k * 7 + 3, none⟩ = some (.int .u64 ((Fl.pwP n / 18446744073709551616 : Nat) : Int)) ∧ w2.cell? ⟨b, k * 7 + 4, none⟩ = some (.int .u64 ((Fl.pwP n % 18446744073709551616 : Nat) : Int)) ∧ w2.cell? ⟨b, k * 7 + 5, none⟩ = some (.int .i64 (Fl.pwE n)) ∧ w2.cell? ⟨b, k * 7 + 6, none⟩ = some (.bool (Fl.pwA n)) :=
    fun w2 h => ⟨h.hi, h.lo, h.e, h.all⟩
  obtain ⟨A, hA⟩ : ∃ A, A = Fl.pwP n / 18446744073709551616 := ⟨_, rfl⟩
  obtain ⟨B, hB⟩ : ∃ A, A = Fl.pwP n % 18446744073709551616 := ⟨_, rfl⟩
  obtain ⟨C, hC⟩ : ∃ A, A = Fl.pwE n := ⟨_, rfl⟩
  obtain ⟨D, hD⟩ : ∃ A, A = Fl.pwA n := ⟨_, rfl⟩
  rw [← hA, ← hB, ← hC, ← hD] at hdo2
  rw [← hA, ← hB, ← hC, ← hD] at hpv
  have HPV := Lib.hid hpv
  have HD2 := Lib.hid hdo2
  clear hpv hdo2 hA hB hC hD
  have HDO := Lib.hid hdo
  have HCF := Lib.hid hcf; have HX0 := Lib.hid hX0
  have hXs := hX0.size
  clear hdo hcf hX0 hc0 HR HS hRX
  go_wp2_with (go_at_call 182; refine (HDO.out).mono ?_; rintro e w2 ⟨rfl, ho, hrd, hs⟩; obtain ⟨s3, s4, s5, s6⟩ := HD2.out w2 hs; have g0 := (ho.cell (k := w.heap.size + 1 + 1) (o := 0) (by omega) (by omega)).trans hcs; have q0 := (ho.cell (k := w.heap.size + 1) (o := 0) (by omega) (by omega)).trans (HCF.out.1.get 0 rfl); have q1 := (ho.cell (k := w.heap.size + 1) (o := 1) (by omega) (by omega)).trans (HCF.out.1.get 1 rfl); have q2 := (ho.cell (k := w.heap.size + 1) (o := 2) (by omega) (by omega)).trans (HCF.out.1.get 2 rfl); have q3 := (ho.cell (k := w.heap.size + 1) (o := 3) (by omega) (by omega)).trans (HCF.out.1.get 3 rfl); have z := fun o => (ho.frozen (k := w.heap.size + 1) (o := o) (by omega) (by omega)).trans (HCF.out.2 o); have z0 := z 0; have z1 := z 1; have z2 := z 2; have z3 := z 3; have hws := ho.size; have ql : w.heap.size + 1 < w2.heap.size := (by omega))
  have hcf2 : CF w2 (w.heap.size + 1) pw0 := ⟨⟨ql, fun k hk => (ho.cell (k := w.heap.size + 1) (o := k) (by omega) (by omega)).trans (HCF.out.1.2 k hk)⟩, z⟩
  have HS := hcf2.stored [.int .u64 A, .int .u64 B, .int .i64 C, .bool D] rfl
  have HX := below_setCells (B := w.heap.size) (b := w.heap.size + 1) (Nat.le_succ _) [.int .u64 A, .int .u64 B, .int .i64 C, .bool D] 0 (Below.refl w.heap.size w2)
  obtain ⟨Y, hY⟩ : ∃ Y, Y = w2.setCells (w.heap.size + 1) 0 [.int .u64 A, .int .u64 B, .int .i64 C, .bool D] := ⟨_, rfl⟩
  change bodyPost _ _ _ _ _ (w2.setCells (w.heap.size + 1) 0 [.int .u64 A, .int .u64 B, .int .i64 C, .bool D])
  rw [← hY] at HS HX ⊢
  have y0 := HS.1.get 0 rfl
  have y1 := HS.1.get 1 rfl
  have y2 := HS.1.get 2 rfl
  have y3 := HS.1.get 3 rfl
  clear hY
  have hon : Onl b w w2 := ⟨HX0.out.mono (Nat.le_of_lt hbl) |>.trans ho.below, fun i hi hl => (ho.block i hi (by omega)).trans (HX0.out.block i hl)⟩
  refine bodyPost_ret (v := .agg #[.int .u64 A, .int .u64 B, .int .i64 C, .bool D]) (by (simp [results, Tryz.results150, go_sem, y0, y1, y2, y3]; done)) rfl ⟨by rw [HPV.out], hon.own HX hbl, hrd.below HX hbl⟩
end Go.Proofs.YtiglekomfgfilaaGreatDoor

/- The Reader in the program: three words, times a power of two, are rounded. -/
namespace Go.Proofs.YtiglekomfgfilaaGreatDoor
set_option maxRecDepth 100000
set_option maxHeartbeats 4000000
set_option linter.all false
open Go.RowKit
def Fl.six (h m l : Nat) : List Nat := [l % 4294967296, l / 4294967296, m % 4294967296, m / 4294967296, h % 4294967296, h / 4294967296]
theorem Fl.six_ok {h m l : Nat} (hh : h < 18446744073709551616) (hm : m < 18446744073709551616) (hl : l < 18446744073709551616) : Na.OK (Fl.six h m l) := fun x hx => by
  simp only [Fl.six, List.mem_cons, List.not_mem_nil, or_false] at hx
  show x < 4294967296
  omega
theorem Fl.six_val (h m l : Nat) : Na.val (Fl.six h m l) = Fl.w3 h m l := by
  simp only [Fl.six, Na.val, Na.B]; unfold Fl.w3; omega
theorem Fl.six_blk (h m l : Nat) (w1 : World) : Blk (w1.alloc (Obj.cells #[Value.int IntKind.u32 ((l : Int) % 4294967296), Value.int IntKind.u32 ((l : Int) / 4294967296), Value.int IntKind.u32 ((m : Int) % 4294967296), Value.int IntKind.u32 ((m : Int) / 4294967296), Value.int IntKind.u32 ((h : Int) % 4294967296), Value.int IntKind.u32 ((h : Int) / 4294967296)] 81)) w1.heap.size (Fl.six h m l) := by
  show (w1.heap.push _)[w1.heap.size]? = _; simp [u32s, Fl.six]
theorem Fl.six_len (h m l : Nat) : (Fl.six h m l).length = 6 := rfl
theorem Fl.six_round {h m l R b : Nat} {e : Int} (hh : h < 18446744073709551616) (hm : m < 18446744073709551616) (hl : l < 18446744073709551616) (he : -10000 ≤ e ∧ e ≤ 1900) (hR : R = Fl.rd (Fl.w3 h m l) e false) (w1 : World) (s : Sl w1 (some ⟨b, 0, none⟩) 6 (Fl.six h m l)) :
    Calls Tryz.prog 156 #[.bool false, .slice (some ⟨b, 0, none⟩) 6 6, .int .i64 e, .bool false] w1 (RetB (.int .u64 (R : Nat)) w1) := by
  have hlen := (Na.rt_le s.ok).1
  rw [Na.rt, Na.cut, Fl.six_val, Fl.six_len] at hlen
  have h1 := fl_round_any false (some ⟨b, 0, none⟩) 6 (Fl.six h m l) e false w1 s (by rw [Fl.six_len]; omega) (by omega) (by rw [Fl.six_val]; omega)
  rw [Fl.six_val, ← hR, show Fl.sgn false = 0 from rfl, Nat.zero_add, Fl.six_len] at h1
  exact h1
theorem re_join_any (h m l : Nat) (e : Int) (w : World) (hh : h < 18446744073709551616) (hm : m < 18446744073709551616) (hl : l < 18446744073709551616) (he : -10000 ≤ e ∧ e ≤ 1900) :
    Calls Tryz.prog 152 #[.agg #[.int .u64 h, .int .u64 m, .int .u64 l], .int .i64 e] w (RetB (.int .u64 ((Fl.rd (Fl.w3 h m l) e false : Nat) : Int)) w) := by
  obtain ⟨R, hR⟩ : ∃ R, R = Fl.rd (Fl.w3 h m l) e false := ⟨_, rfl⟩
  rw [← hR]
  have h1 := Fl.six_round hh hm hl he hR _ ((Fl.six_blk h m l (w.alloc (Obj.cells #[Value.int IntKind.u64 h, Value.int IntKind.u64 m, Value.int IntKind.u64 l] 176))).sl (Fl.six_ok hh hm hl) (by rw [Fl.six_len]; exact Nat.le_refl 6))
  rw [World.size_alloc] at h1
  have H1 := Lib.hid h1
  clear h1
  obtain ⟨e1, e2⟩ := he
  clear hR
  go_enter Tryz.func152, Tryz.ntmps152
  go_wp2_with (first | (go_at_call 156; (with_reducible refine (H1.out).mono ?_); rintro e w1 ⟨rfl, hb_w1⟩; have hB_w1 : Below (w).heap.size (w) w1 := Below.trans (by (repeat (first | exact Below.refl _ _ | assumption | refine Below.setCell ?_ (by first | omega | (simp <;> omega)) _ | refine Below.alloc ?_ (by first | omega | (simp <;> omega)) _ | refine Below.drew ?_ | refine below_drewN' ?_ _))) (hb_w1.mono (by first | omega | (simp <;> omega))); obtain ⟨hc_w1, hf_w1⟩ := bcell hb_w1; have hz_w1 := hb_w1.size; (try simp only [zD, zN, zA, zS] at hz_w1)))
  go_ret
  exact RetB.of rfl (by (repeat (first | exact Below.refl _ _ | assumption | refine Below.setCell ?_ (by first | omega | (simp <;> omega)) _ | refine Below.alloc ?_ (by first | omega | (simp <;> omega)) _ | refine Below.drew ?_ | refine below_drewN' ?_ _)))
end Go.Proofs.YtiglekomfgfilaaGreatDoor
