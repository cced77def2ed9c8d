/- The Reader in the program: the lowest 128 bits of a natural. -/
import Derived.Test.YtjnkbifafbjckaaGreatDoorZ9
import Derived.Test.YtjnkbifafbjckaaGreatDoorZ5
import Derived.Deep.QuietTactic
import Derived.BigQuiet
import Derived.Outline
import Derived.Test.YtjnkbifafbjckaaGreatDoorZ4
namespace Go.Proofs.YtjnkbifafbjckaaGreatDoor
set_option linter.all false
open Go.RowKit

def valueLoop (L : List Nat) (w : World) (iv : Value) (wr : World) : Prop := limbLoop L (w.heap.size + 1) w iv wr ∧ Hid (C2 wr w.heap.size 0 0)

set_option maxRecDepth 100000 in
set_option maxHeartbeats 4000000 in
theorem re_value_any (a : Option Addr) (c : Nat) (L : List Nat) (w : World) (s : Sl w a c L) (hn : L.length ≤ 1000000) :
    Calls Tryz.prog 196 #[.slice a L.length c] w (RetB (.agg #[.int .u64 ((Na.val L / 18446744073709551616 % 18446744073709551616 : Nat) : Int), .int .u64 ((Na.val L % 18446744073709551616 : Nat) : Int)]) w) := by
  have HB0 : Hid (Below w.heap.size w ((w.alloc (.cells #[.int .u64 0, .int .u64 0] 57)).alloc (.cells #[.int .u64 0, .int .u64 0] 57))) := Lib.hid (((Below.refl w.heap.size w).alloc (Nat.le_refl _) _).alloc (by simp) _)
  have HR0 : Hid (C2 ((w.alloc (.cells #[.int .u64 0, .int .u64 0] 57)).alloc (.cells #[.int .u64 0, .int .u64 0] 57)) w.heap.size 0 0) := Lib.hid ((C2.new0 rfl).alloc _)
  have HA0 : Hid (C2 ((w.alloc (.cells #[.int .u64 0, .int .u64 0] 57)).alloc (.cells #[.int .u64 0, .int .u64 0] 57)) (w.heap.size + 1) 0 0) := Lib.hid (C2.new0 (by simp))
  obtain ⟨q1, q2⟩ := limb_start L
  have HQ1 := Lib.hid q1; have HQ2 := Lib.hid q2
  have HS := Lib.hid s
  clear s q1 q2
  go_enter Tryz.func196, Tryz.ntmps196
  go_wp2_with fail
  go_loopw [7] (fun iv wr => valueLoop L w iv wr) (fun iv _ => L.length - (intOf iv).toNat)
  case atStart => exact ⟨⟨0, 0, 0, Nat.zero_le _, rfl, by decide, by decide, HQ1, HQ2, HA0, HB0⟩, HR0⟩
  case round =>
    clear HB0 HR0 HA0 HQ1 HQ2
    obtain ⟨⟨i, hi, lo, hil, rfl, hh, hl, HH, HL, HC, HBe⟩, HR⟩ := hrel
    by_cases hlt : i < L.length
    · obtain ⟨m, j, d, H, D, P, hj, e1, e2, hd, hd2, hH, hD, hP, v1, v2, v3, v4, v5⟩ := limb_round hlt HS.out.ok HH.out HL.out
      obtain ⟨b, o, rfl, hb, hcell⟩ := HS.out.plain (by omega)
      have hx := (HBe.out.cell (p := ⟨b, o + j, none⟩) hb).trans (hcell j hj)
      rw [← hd] at hx
      have H1 := Lib.hid (fun w1 => wi_shl_lim hi lo H D hh hl v1 v2 w1)
      have HV4 := Lib.hid v4; have HV5 := Lib.hid v5
      have c0 := HC.out.1.get 0 rfl
      have c1 := HC.out.1.get 1 rfl
      have hbl := HC.out.1.1
      have f0 := HC.out.2 0; have f1 := HC.out.2 1
      have hbw := HBe.out.size
      clear hcell v1 v2 v4 v5 hd
      go_wp2_with (first | (go_at_call 112; (with_reducible refine (H1.out _).mono ?_); rintro e w1 ⟨rfl, hb_w1⟩; have hB_w1 : Below (wr).heap.size (wr) w1 := Below.trans (by (repeat (first | exact Below.refl _ _ | assumption | refine Below.setCell ?_ (by first | omega | (simp <;> omega)) _ | refine Below.alloc ?_ (by first | omega | (simp <;> omega)) _ | refine Below.drew ?_ | refine below_drewN' ?_ _))) (hb_w1.mono (by first | omega | (simp <;> omega))); obtain ⟨hc_w1, hf_w1⟩ := bcell hb_w1; have hz_w1 := hb_w1.size; (try simp only [size_drew', size_drewN', World.size_alloc, World.size_setCell] at hz_w1); have hl0_w1 : w.heap.size < w1.heap.size := (by omega); have hm0_w1 : w.heap.size ≤ w1.heap.size := (by omega); have hn0_w1 : ¬ w.heap.size = w1.heap.size := (by omega); have hq0_w1 : ¬ w1.heap.size = w.heap.size := (by omega); have hr0_w1 := fun o => hc_w1 (w.heap.size) o (by (try simp only [size_drew', size_drewN', World.size_alloc, World.size_setCell]); omega); have hg0_w1 := fun o => hf_w1 (w.heap.size) o (by (try simp only [size_drew', size_drewN', World.size_alloc, World.size_setCell]); omega); have hl1_w1 : w.heap.size + 1 < w1.heap.size := (by omega); have hm1_w1 : w.heap.size + 1 ≤ w1.heap.size := (by omega); have hn1_w1 : ¬ w.heap.size + 1 = w1.heap.size := (by omega); have hq1_w1 : ¬ w1.heap.size = w.heap.size + 1 := (by omega); have hr1_w1 := fun o => hc_w1 (w.heap.size + 1) o (by (try simp only [size_drew', size_drewN', World.size_alloc, World.size_setCell]); omega); have hg1_w1 := fun o => hf_w1 (w.heap.size + 1) o (by (try simp only [size_drew', size_drewN', World.size_alloc, World.size_setCell]); omega); have hl2_w1 : b < w1.heap.size := (by omega); have hm2_w1 : b ≤ w1.heap.size := (by omega); have hn2_w1 : ¬ b = w1.heap.size := (by omega); have hq2_w1 : ¬ w1.heap.size = b := (by omega); have hr2_w1 := fun o => hc_w1 (b) o (by (try simp only [size_drew', size_drewN', World.size_alloc, World.size_setCell]); omega); have hg2_w1 := fun o => hf_w1 (b) o (by (try simp only [size_drew', size_drewN', World.size_alloc, World.size_setCell]); omega)))
      obtain ⟨X, hX⟩ : ∃ X, X = w1.setCells (w.heap.size + 1) 0 [.int .u64 H, .int .u64 D] := ⟨_, rfl⟩
      change Code.wp _ _ _ _ (w1.setCells (w.heap.size + 1) 0 [.int .u64 H, .int .u64 D])
      have HCX := (HC.out.on (hb_w1.mono (Nat.le_refl _))).stored H D
      have HRX := ((HR.out.on (hb_w1.mono (Nat.le_refl _))).setOther (o := 0) (u := .int .u64 H) (show w.heap.size ≠ w.heap.size + 1 by omega)).setOther (o := 1) (u := .int .u64 D) (show w.heap.size ≠ w.heap.size + 1 by omega)
      have hBX := below_setCells (B := w.heap.size) (b := w.heap.size + 1) (Nat.le_succ _) [.int .u64 H, .int .u64 D] 0 (HBe.out.trans (hb_w1.mono hbw))
      have hxX : (w1.setCells (w.heap.size + 1) 0 [.int .u64 H, .int .u64 D]).cell? ⟨b, o + j, none⟩ = some (.int .u32 d) := (hBX.cell (p := ⟨b, o + j, none⟩) hb).trans ((HBe.out.cell (p := ⟨b, o + j, none⟩) hb).symm.trans hx)
      rw [← hX] at HCX hBX hxX ⊢
      replace HRX : C2 X w.heap.size 0 0 := by rw [hX]; exact HRX
      have x0 := HCX.1.get 0 rfl
      have x1 := HCX.1.get 1 rfl
      have y0 := HCX.2 0; have y1 := HCX.2 1
      have xl := HCX.1.1
      have HCX2 := Lib.hid (HCX.low P)
      have HRX2 := Lib.hid (HRX.setOther (o := 1) (u := .int .u64 P) (show w.heap.size ≠ w.heap.size + 1 by omega))
      have HBX2 := Lib.hid (hBX.setCell (p := ⟨w.heap.size + 1, 1, none⟩) (Nat.le_succ _) (.int .u64 P))
      clear hX HCX HRX hBX c0 c1 hx f0 f1
      go_region
      go_wp2
      go_roundw
      case rel => exact ⟨⟨i + 1, H, P, by omega, by go_num, hH, hP, HV4, HV5, Lib.hid HCX2.out.drew, Lib.hid HBX2.out.drew⟩, Lib.hid HRX2.out.drew⟩
      case measure => simp [intOf]; omega
    · obtain rfl : i = L.length := by omega
      have hv := limb_all (L := L) rfl
      have HH2 := Lib.hid (HH.out.trans (by rw [hv]))
      have HL2 := Lib.hid (HL.out.trans (by rw [hv]))
      have c0 := HC.out.1.get 0 rfl
      have c1 := HC.out.1.get 1 rfl
      have hbl := HC.out.1.1
      have r0 := HR.out.1.get 0 rfl
      have r1 := HR.out.1.get 1 rfl
      have f0 := HR.out.2 0; have f1 := HR.out.2 1
      have HCR := Lib.hid (HR.out.stored hi lo)
      have HBR := Lib.hid (below_setCells (B := w.heap.size) (b := w.heap.size) (Nat.le_refl _) [.int .u64 hi, .int .u64 lo] 0 HBe.out)
      go_wp2_with fail
      obtain ⟨X, hX⟩ : ∃ X, X = wr.setCells w.heap.size 0 [.int .u64 hi, .int .u64 lo] := ⟨_, rfl⟩
      change bodyPost _ _ _ _ _ (wr.setCells w.heap.size 0 [.int .u64 hi, .int .u64 lo])
      rw [← hX] at HCR HBR ⊢
      have x0 := HCR.out.1.get 0 rfl
      have x1 := HCR.out.1.get 1 rfl
      refine bodyPost_ret (v := .agg #[.int .u64 hi, .int .u64 lo]) (by (simp [results, Tryz.results196, go_sem, x0, x1]; done)) rfl (RetB.of (by rw [HH2.out, HL2.out]) HBR.out)
end Go.Proofs.YtjnkbifafbjckaaGreatDoor

/- Shr: what is refused. -/
namespace Go.Proofs.YtjnkbifafbjckaaGreatDoor
set_option linter.all false
open Go.RowKit

/-- A list of the call's own, a bool and an error. -/
def GivesS (q : List Nat × Bool × Int) (w : World) (e : Ending) (w' : World) : Prop := ∃ a c, e = .returned (.tuple #[.slice a q.1.length c, .bool q.2.1, .int .i64 q.2.2]) ∧ Sl w' a c q.1 ∧ Own w' w.heap.size a q.1.length ∧ Below w.heap.size w w'
theorem gives_snil {q : List Nat × Bool × Int} {w w' : World} (b : Bool) (e : Int) (hq : q = ([], b, e)) (hb : Below w.heap.size w w') : GivesS q w (.returned (.tuple #[.slice none 0 0, .bool b, .int .i64 e])) w' := by
  rw [hq]; exact ⟨none, 0, rfl, Sl.nil _ _ _, Own.nil _ _ _, hb⟩

section
variable (a : Option Addr) (c : Nat) (l : List Nat) (n : Int) (w : World) (h : Sl w a c l) (hn : l.length ≤ 1000000) (hi : -9223372036854775808 ≤ n ∧ n ≤ 9223372036854775807)
include h hn hi

set_option maxHeartbeats 1000000 in
theorem na_shr_arg (h0 : n < 0) : Calls Tryz.prog 81 #[.slice a l.length c, .int .i64 n] w (GivesS (Na.shr l n) w) := by
  have e := Lib.hid (gives_snil false 1 (show Na.shr l n = ([], false, 1) from if_pos h0) (Below.refl w.heap.size w))
  go_enter Tryz.func81, Tryz.ntmps81
  go_wp2
  refine bodyPost_ret (v := .tuple #[.slice none 0 0, .bool false, .int .i64 1]) (by simp [results, Tryz.results81, go_sem]) rfl e.out

set_option maxHeartbeats 1000000 in
theorem na_shr_big (h0 : 0 ≤ n) (hb : Na.big l = true) : Calls Tryz.prog 81 #[.slice a l.length c, .int .i64 n] w (GivesS (Na.shr l n) w) := by
  have hB : Below w.heap.size w (w.alloc (Obj.cells #[Value.slice a l.length c] 85)) := (Below.refl _ _).alloc (Nat.le_refl _) _
  have e := Lib.hid (gives_snil false 2 (show Na.shr l n = ([], false, 2) by rw [Na.shr, if_neg (by omega), if_pos hb]) hB)
  have H1 := Lib.hid (na_over1_any h hn true hb)
  clear hb
  go_enter Tryz.func81, Tryz.ntmps81
  go_wp2_with (first | (go_at_call 137; (with_reducible refine (H1.out).mono ?_); rintro e w' ⟨rfl, rfl⟩))
  refine bodyPost_ret (v := .tuple #[.slice none 0 0, .bool false, .int .i64 2]) (by simp [results, Tryz.results81, go_sem]) rfl e.out
end
end Go.Proofs.YtjnkbifafbjckaaGreatDoor

/- Shr: nothing is left. -/
namespace Go.Proofs.YtjnkbifafbjckaaGreatDoor
set_option linter.all false
open Go.RowKit

set_option maxHeartbeats 1000000 in
theorem na_shr_all (a : Option Addr) (c : Nat) (l : List Nat) (n : Nat) (w : World) (h : Sl w a c l) (hn : l.length ≤ 1000000) (hi : n ≤ 9223372036854775807) (hb : Na.big l = false) (hp : (Na.cut l).length ≤ n / 32) :
    Calls Tryz.prog 81 #[.slice a l.length c, .int .i64 n] w (GivesS (Na.shr l n) w) := by
  have hB : Below w.heap.size w (w.alloc (Obj.cells #[Value.slice a l.length c] 85)) := (Below.refl _ _).alloc (Nat.le_refl _) _
  have H1 := Lib.hid (na_over1_any h hn false hb)
  have hl1 : (Na.cut l).length ≤ 256 := Nat.le_of_not_lt (of_decide_eq_false hb)
  have H4 := na_cut_any a c l _ (h.on hB) hn
  have S1 := h.cut
  have hv : Na.val l < 2 ^ n := by
    have h1 := Na.val_lt (Na.cut l) (Na.ok_cut l)
    rw [Na.val_cut, show Na.B ^ (Na.cut l).length = 2 ^ (32 * (Na.cut l).length) by rw [Nat.pow_mul]] at h1
    exact Nat.lt_of_lt_of_le h1 (Nat.pow_le_pow_right (by decide) (by omega))
  have hnil := Na.cut_nil_iff l
  have e2 := Lib.hid (show Na.shr l n = ([], decide (0 < (Na.cut l).length), 0) by
    rw [Na.shr, if_neg (by omega), hb, if_neg (by simp), Int.toNat_natCast, Nat.div_eq_of_lt hv, Nat.mod_eq_of_lt hv, Na.limbs_zero]
    congr 2
    apply decide_eq_decide.2
    rw [List.length_pos_iff, ne_eq, ne_eq, hnil])
  have hrt : Na.rt (Na.cut l) = (Na.cut l).length := by rw [Na.rt_cut]; rfl
  obtain ⟨q, hq⟩ : ∃ q, q = Na.cut l := ⟨_, rfl⟩
  rw [← hq] at H4 hl1 S1 hp e2 hrt
  obtain ⟨ln, hqn⟩ : ∃ n, q.length = n := ⟨_, rfl⟩
  have H5 := na_right_any a c q _ (S1.on hB) (by omega)
  rw [hrt, hqn] at H5
  rw [hqn] at H4 hl1 hp e2
  have H4' := Lib.hid H4; have H5' := Lib.hid H5
  obtain ⟨p, hpp⟩ : ∃ p, p = n / 32 := ⟨_, rfl⟩
  have hpi : (n : Int) / 32 = (p : Int) := by omega
  rw [← hpp] at hp
  have hmin : min (p : Int) (ln : Int) = (ln : Int) := by omega
  have hs1 : ln ≤ c := by have := S1.cap; omega
  clear hb hv hnil hq hqn H4 H5 hrt hpp S1
  go_enter Tryz.func81, Tryz.ntmps81
  go_wp2_with (first | (go_at_call 137; (with_reducible refine (H1.out).mono ?_); rintro e w' ⟨rfl, rfl⟩) | (go_at_call 138; (with_reducible refine (H4'.out).mono ?_); rintro e w' ⟨rfl, rfl⟩) | (go_at_call 139; (with_reducible refine (H5'.out).mono ?_); rintro e w' ⟨rfl, rfl⟩) | (at_make; refine mk_u32 rfl _ _ rfl _ _ 0 rfl rfl (by simp) (by simp) (by omega) ?_))
  intro w1 hK hgrow
  have HB1 := Lib.hid (hgrow.out _ _ hB (by simp [World.size_alloc]))
  clear hgrow hB hK
  go_wp2_with (first | (refine wpList_copy_nothing rfl _ _ 85 85 rfl 72 Tryz.underlying85 (by kernel_rfl) _ _ _ _ _ _ rfl rfl (by simp) ?_))
  all_goals exact bodyPost_ret (v := .tuple #[.slice none 0 0, .bool (decide (0 < ln)), .int .i64 0]) (by simp [results, Tryz.results81, go_sem]) rfl (gives_snil _ 0 e2.out HB1.out)
end Go.Proofs.YtjnkbifafbjckaaGreatDoor

/- Shr: limbs are left. -/
namespace Go.Proofs.YtjnkbifafbjckaaGreatDoor
set_option linter.all false
open Go.RowKit

def shrLoop (m s g : Nat) (X : List Nat) (w : World) (iv : Value) (wr : World) : Prop := ∃ (i : Nat) (o : List Nat), i ≤ m ∧ iv = .int .i64 i ∧ Hid (Blk wr g o) ∧ Hid (o.length = m) ∧ Hid (Na.OK o) ∧ Hid (o.drop i = X.drop i) ∧
  Hid (Na.val (o.take i) + Na.B ^ i * (Na.val (X.drop i) / 2 ^ s) = Na.val X / 2 ^ s) ∧ Hid (Below w.heap.size w wr)

theorem rt_pos (l : List Nat) : 0 < Na.rt l ↔ Na.val l ≠ 0 := by
  rw [Na.rt, List.length_pos_iff, ne_eq, ne_eq, Na.cut_nil_iff]

theorem Na.shr_step (X : List Nat) (i s x y : Nat) (hs : s < 32) (hi : i < X.length) (hx : X[i] = x) (hxl : x < 4294967296) (hy : ∃ r, Na.val (X.drop (i + 1)) = y + Na.B * r) (P V : Nat)
    (inv : P + Na.B ^ i * (Na.val (X.drop i) / 2 ^ s) = V) : P + Na.B ^ i * ((x + y * 4294967296) / 2 ^ s % 4294967296) + Na.B ^ (i + 1) * (Na.val (X.drop (i + 1)) / 2 ^ s) = V := by
  obtain ⟨r, hr⟩ := hy
  have h1 := Na.shr_head x y (Na.val (X.drop (i + 1))) r s hs hxl hr
  have h2 : Na.val (X.drop i) = x + Na.B * Na.val (X.drop (i + 1)) := by rw [List.drop_eq_getElem_cons hi, hx]; rfl
  rw [h2, h1] at inv
  rw [← inv, Nat.mul_add, Nat.pow_succ, Nat.mul_assoc (Na.B ^ i) Na.B, Nat.add_assoc]

theorem shrLoop.drew {m s g : Nat} {X : List Nat} {w : World} {iv : Value} {wr : World} (h : shrLoop m s g X w iv wr) (n : Nat) : shrLoop m s g X w iv (wr.drewN n) := by
  obtain ⟨i, o, h1, h2, h3, h4, h5, h6, h7, h8⟩ := h
  exact ⟨i, o, h1, h2, Lib.hid (show _ = _ from h3.out), h4, h5, h6, h7, Lib.hid (below_drewN' h8.out n)⟩
theorem Na.shr_set (X o : List Nat) (i v V s : Nat) (hi : i < o.length) (hd : o.drop i = X.drop i) (h : Na.val (o.take i) + Na.B ^ i * v + Na.B ^ (i + 1) * (Na.val (X.drop (i + 1)) / 2 ^ s) = V) :
    (o.set i v).drop (i + 1) = X.drop (i + 1) ∧ Na.val ((o.set i v).take (i + 1)) + Na.B ^ (i + 1) * (Na.val (X.drop (i + 1)) / 2 ^ s) = V := by
  constructor
  · rw [List.drop_set, if_pos (by omega)]
    have := congrArg (List.drop 1) hd
    rwa [List.drop_drop, List.drop_drop] at this
  · rw [Na.val_set_take o i v hi, h]
theorem Na.drop_get {X o : List Nat} {i j : Nat} (hd : o.drop i = X.drop i) (hj : i ≤ j) (ho : j < o.length) (hx : j < X.length) : o[j] = X[j] := by
  have h1 : (o.drop i)[j - i]? = (X.drop i)[j - i]? := by rw [hd]
  rw [List.getElem?_drop, List.getElem?_drop, show i + (j - i) = j by omega, List.getElem?_eq_getElem ho, List.getElem?_eq_getElem hx] at h1
  exact Option.some.inj h1

set_option maxHeartbeats 2000000 in
theorem na_shr_main (a : Option Addr) (c : Nat) (l : List Nat) (n : Nat) (w : World) (h : Sl w a c l) (hn : l.length ≤ 1000000) (hi : n ≤ 9223372036854775807) (hb : Na.big l = false) (hp : n / 32 < (Na.cut l).length) :
    Calls Tryz.prog 81 #[.slice a l.length c, .int .i64 n] w (GivesS (Na.shr l n) w) := by
  have hB : Below w.heap.size w (w.alloc (Obj.cells #[Value.slice a l.length c] 85)) := (Below.refl _ _).alloc (Nat.le_refl _) _
  have H1 := Lib.hid (na_over1_any h hn false hb)
  have hl1 : (Na.cut l).length ≤ 256 := Nat.le_of_not_lt (of_decide_eq_false hb)
  have H4 := na_cut_any a c l _ (h.on hB) hn
  have S1 := h.cut
  have hv := Na.val_cut (a := l)
  obtain ⟨q, hq⟩ : ∃ q, q = Na.cut l := ⟨_, rfl⟩
  rw [← hq] at H4 hl1 S1 hp hv
  obtain ⟨p, hpp⟩ : ∃ p, p = n / 32 := ⟨_, rfl⟩
  obtain ⟨s, hss⟩ : ∃ s, s = n % 32 := ⟨_, rfl⟩
  have hpi : (n : Int) / 32 = (p : Int) := by omega
  have hsi : (n : Int) % 32 = (s : Int) := by omega
  have hs32 : s < 32 := by omega
  have hnps : n = 32 * p + s := by omega
  rw [← hpp] at hp
  have hqtd := Na.val_take_drop q p (by omega)
  have hlo := Na.val_lt (q.take p) (Na.ok_take S1.ok p)
  rw [List.length_take, Nat.min_eq_left (by omega)] at hlo
  obtain ⟨hdiv, hmod⟩ := Na.shr_lost (Na.val (q.take p)) (Na.val (q.drop p)) p s hlo
  rw [← hqtd, ← hnps, hv] at hdiv hmod
  have e2 := Lib.hid (show Na.shr l n = (Na.limbs (Na.val (q.drop p) / 2 ^ s), decide (Na.val (q.take p) ≠ 0 ∨ Na.val (q.drop p) % 2 ^ s ≠ 0), 0) by
    rw [Na.shr, if_neg (by omega), hb, if_neg (by simp), Int.toNat_natCast, hdiv]
    congr 2
    exact decide_eq_decide.2 hmod)
  have H5 := na_right_any a c (q.take p) _ ((S1.on hB).take p) (by rw [List.length_take]; omega)
  rw [List.length_take, Nat.min_eq_left (by omega)] at H5
  obtain ⟨m, hqm⟩ : ∃ m, q.length = p + m := ⟨q.length - p, by omega⟩
  have hm0 : 0 < m := by omega
  rw [hqm] at H4 hl1
  obtain ⟨b, o, rfl, hbl, hcell⟩ := S1.plain (by omega)
  have hcap : p + m ≤ c := by have := S1.cap; omega
  obtain ⟨X, hX⟩ : ∃ X, X = q.drop p := ⟨_, rfl⟩
  have hXl : X.length = m := by rw [hX, List.length_drop]; omega
  have hXok : Na.OK X := by rw [hX]; exact Na.ok_drop S1.ok p
  have HCX := Lib.hid (show ∀ j v, (u32s X)[j]? = some v → w.cell? ⟨b, o + p + j, none⟩ = some v by
    intro j v hv
    have hj : j < X.length := by have := (List.getElem?_eq_some_iff.1 hv).1; rwa [u32s_len] at this
    rw [u32s_get X j hj] at hv
    have e := hcell (p + j) (by omega)
    rw [Nat.add_assoc, e, ← Option.some.inj hv]
    congr 3
    simp [hX])
  rw [← hX] at e2
  obtain ⟨r0, hr0⟩ : ∃ r, r = Na.rt (q.take p) := ⟨_, rfl⟩
  have hr1 : decide (Na.val (q.take p) ≠ 0 ∨ Na.val X % 2 ^ s ≠ 0) = (decide (0 < r0) || decide (Na.val X % 2 ^ s ≠ 0)) := by
    rw [hr0]; simp only [Bool.decide_or, rt_pos]
  rw [← hr0] at H5
  rw [hr1] at e2
  have H4' := Lib.hid H4; have H5' := Lib.hid H5
  have HXL := Lib.hid hXl; have HXO := Lib.hid hXok
  have hmin : min (p : Int) ((p : Int) + (m : Int)) = (p : Int) := by omega
  have hcp : ¬ c = p := by omega
  have hpm : ((p + m : Nat) : Int) = (p : Int) + (m : Int) := by simp
  clear hb hv hq hqtd hlo hdiv hmod H4 H5 hpp hss hnps hX hXl hXok hr0 hr1 hqm S1 hcell
  go_enter Tryz.func81, Tryz.ntmps81
  go_wp2_with (first | (go_at_call 137; (with_reducible refine (H1.out).mono ?_); rintro e w' ⟨rfl, rfl⟩) | (go_at_call 138; (with_reducible refine (H4'.out).mono ?_); rintro e w' ⟨rfl, rfl⟩) | (go_at_call 139; (with_reducible refine (H5'.out).mono ?_); rintro e w' ⟨rfl, rfl⟩) | (at_make; refine mk_u32 rfl _ _ rfl _ _ m rfl rfl (by omega) (by omega) (by omega) ?_))
  intro w1 hK hgrow
  have HB1 := Lib.hid (hgrow.out _ _ hB (by simp [World.size_alloc]))
  have hK' := Lib.hid (show Blk w1 (w.heap.size + 1) (List.replicate m 0) by have := hK.out; simpa [World.size_alloc] using this)
  clear hgrow hB hK
  go_wp2_with (first | (refine wpList_copy_splice rfl _ _ 85 85 rfl 72 Tryz.underlying85 (by kernel_rfl) _ _ _ _ _ _ rfl rfl (w.heap.size + 1) 0 (u32s (List.replicate m 0)) 72 hK'.out (u32s X) (by rw [u32s_len, HXL.out]; show _ = min _ _; omega) (fun h0 => ⟨rfl, _, rfl, fun j v hv => (by rw [add_own]; exact (HB1.out.cell (p := ⟨b, o + p + j, none⟩) hbl).trans (HCX.out j v hv))⟩) (by simp [u32s_len, HXL.out]) (u32s_one _) w.heap.size w HB1.out (by omega) ?_))
  intro w2 hg2 hB2
  have HG2 := Lib.hid (show Blk w2 (w.heap.size + 1) X by have := hg2.out; rwa [splice_all _ _ (by simp [u32s_len, HXL.out])] at this)
  have HB2 := Lib.hid hB2
  clear hg2 hB2 hK' HB1 HCX H1 H4' H5' h
  go_wp2_with fail
  have hx0 : 0 < X.length := by have := HXL.out; omega
  have cx := HG2.out.cell 0 hx0
  have hx0l : X[0]'hx0 < 4294967296 := HXO.out _ (List.getElem_mem hx0)
  obtain ⟨x0, hx0e⟩ : ∃ x, X[0]'hx0 = x := ⟨_, rfl⟩
  rw [hx0e] at cx hx0l
  obtain ⟨M, hM⟩ : ∃ M, M = 2 ^ s := ⟨_, rfl⟩
  have hM1 : 1 ≤ M := by rw [hM]; exact Nat.pow_pos (by decide)
  have hM2 : M ≤ 2147483648 := by rw [hM]; exact Nat.pow_le_pow_right (by decide) (show s ≤ 31 by omega)
  have hMi : ((2 : Int) ^ s) = (M : Int) := by rw [hM]; simp
  have HM := Lib.hid hM; have HX0 := Lib.hid hx0e; clear hM hx0e
  clear hmin hcp hpm hpi hm0
  have hand := Na.and_mask x0 s hx0l hs32
  obtain ⟨z0, hz0⟩ : ∃ z, z = x0 % 2 ^ s := ⟨_, rfl⟩
  rw [← hz0, ← HM.out, show ((M - 1 : Nat) : Int) = (M : Int) - 1 by omega] at hand
  have hvz : Na.val X % 2 ^ s = z0 := by
    rw [hz0, ← HX0.out]
    have e1 : Na.val X = X[0] + Na.B * Na.val (X.drop 1) := by
      conv => lhs; rw [← List.drop_zero (l := X), List.drop_eq_getElem_cons hx0]
      rfl
    rw [e1, show Na.B = 2 ^ s * 2 ^ (32 - s) by rw [← Nat.pow_add, show s + (32 - s) = 32 by omega], Nat.mul_assoc, Nat.add_mul_mod_self_left]
  rw [hvz] at e2
  have hdz : decide (z0 ≠ 0) = ((z0 : Int) != 0) := by
    rw [Bool.eq_iff_iff]; simp
  rw [hdz] at e2
  have HAtS := Lib.hid (show shrLoop m s (w.heap.size + 1) X w (.int .i64 ((0 : Nat) : Int)) w2 from ⟨0, X, Nat.zero_le _, rfl, HG2, HXL, HXO, Lib.hid rfl, Lib.hid (by simp [Na.val]), HB2⟩)
  clear hz0 hvz hdz HG2 HB2
  by_cases hr : 0 < r0
  all_goals
    first
    | (have hd : decide (0 < r0) = true := decide_eq_true hr
       rw [hd, Bool.true_or] at e2
       simp only [hd]
       clear hMi hand cx
       go_quiet (fail)
       clear hd
       have hMi : ((2 : Int) ^ s) = (M : Int) := by rw [HM.out]; simp
       go_wp2_with fail)
    | (have hd : decide (0 < r0) = false := decide_eq_false hr
       rw [hd, Bool.false_or] at e2
       simp only [hd]
       go_quiet (fail)
       clear hd hand cx
       go_wp2_with fail)
    go_loopw [67] (shrLoop m s (w.heap.size + 1) X w) (fun i _ => m - (intOf i).toNat)
    case atStart => exact HAtS.out.drew _
    case round =>
      clear HAtS
      obtain ⟨i, o2, hi, rfl, HBl, HOl, HOk, HDr, HInv, HBe⟩ := hrel
      by_cases hlt : i < m
      · have ho1 : i < o2.length := by have := HOl.out; omega
        have hx1 : i < X.length := by have := HXL.out; omega
        have co := HBl.out.cell i ho1
        have fo := HBl.out.frozen i
        have hxl : X[i]'hx1 < 4294967296 := HXO.out _ (List.getElem_mem hx1)
        obtain ⟨x, hxe⟩ : ∃ x, X[i]'hx1 = x := ⟨_, rfl⟩
        rw [Na.drop_get HDr.out (Nat.le_refl _) ho1 hx1] at co
        rw [hxe] at co hxl
        by_cases hlt2 : i + 1 < m
        · have ho2 : i + 1 < o2.length := by have := HOl.out; omega
          have hx2 : i + 1 < X.length := by have := HXL.out; omega
          have co2 := HBl.out.cell (i + 1) ho2
          have hyl : X[i + 1]'hx2 < 4294967296 := HXO.out _ (List.getElem_mem hx2)
          have HR := Lib.hid (show ∃ r, Na.val (X.drop (i + 1)) = X[i + 1] + Na.B * r from ⟨Na.val (X.drop (i + 1 + 1)), by rw [List.drop_eq_getElem_cons hx2]; rfl⟩)
          obtain ⟨y, hye⟩ : ∃ x, X[i + 1]'hx2 = x := ⟨_, rfl⟩
          rw [Na.drop_get HDr.out (Nat.le_succ _) ho2 hx2] at co2
          rw [hye] at co2 hyl HR
          have HS := Lib.hid (Na.shr_set X o2 i _ _ s ho1 HDr.out (Na.shr_step X i s x y hs32 hx1 hxe hxl HR.out _ _ HInv.out))
          have hor := Na.or_shift x y 32 (by omega) (by omega)
          have e32 : IntKind.u64.wrap ((y : Int) * 2 ^ 32) = (y : Int) * 4294967296 := by rw [show ((y : Int) * 2 ^ 32) = ((y * 4294967296 : Nat) : Int) by simp, Na.wrap_u64 _ (by omega)]; simp
          rw [e32] at hor
          have e33 : x + y * 2 ^ 32 = x + y * 4294967296 := rfl
          rw [e33] at hor
          have hs3 : x + y * 4294967296 < 18446744073709551616 := by omega
          have hor' : bits BinOp.or IntKind.u64 (x : Int) ((y : Int) * 4294967296) = ((x + y * 4294967296 : Nat) : Int) := hor
          obtain ⟨t, ht⟩ : ∃ t, t = x + y * 4294967296 := ⟨_, rfl⟩
          rw [← ht] at HS hor' hs3
          clear ht hor e32 e33 hxe hye
          go_wp2_with fail
          go_roundw
          case rel =>
            have hq : (t : Int) / (M : Int) % 4294967296 = ((t / 2 ^ s % 4294967296 : Nat) : Int) := by rw [← HM.out]; simp
            rw [hq]
            exact ⟨i + 1, o2.set i (t / 2 ^ s % 4294967296), by omega, by go_num, Lib.hid (HBl.out.set i _), Lib.hid (by rw [List.length_set]; exact HOl.out), Lib.hid (Na.ok_set HOk.out _ _ (Nat.mod_lt _ (by decide))), Lib.hid HS.out.1, Lib.hid HS.out.2, Lib.hid (by have hbe := HBe.out; (repeat (first | exact Below.refl _ _ | assumption | refine Below.setCell ?_ (by first | omega | (simp <;> omega)) _ | refine Below.alloc ?_ (by first | omega | (simp <;> omega)) _ | refine Below.drew ?_ | refine below_drewN' ?_ _)))⟩
          case measure => simp [intOf]; omega
        · have HS := Lib.hid (Na.shr_set X o2 i _ _ s ho1 HDr.out (Na.shr_step X i s x 0 hs32 hx1 hxe hxl ⟨0, by rw [List.drop_of_length_le (by have := HXL.out; omega)]; rfl⟩ _ _ HInv.out))
          obtain ⟨t, ht⟩ : ∃ t, t = x + 0 * 4294967296 := ⟨_, rfl⟩
          rw [← ht] at HS
          obtain rfl : t = x := by omega
          clear ht hxe
          go_wp2_with fail
          go_roundw
          case rel =>
            have hq : (t : Int) / (M : Int) % 4294967296 = ((t / 2 ^ s % 4294967296 : Nat) : Int) := by rw [← HM.out]; simp
            rw [hq]
            exact ⟨i + 1, o2.set i (t / 2 ^ s % 4294967296), by omega, by go_num, Lib.hid (HBl.out.set i _), Lib.hid (by rw [List.length_set]; exact HOl.out), Lib.hid (Na.ok_set HOk.out _ _ (Nat.mod_lt _ (by decide))), Lib.hid HS.out.1, Lib.hid HS.out.2, Lib.hid (by have hbe := HBe.out; (repeat (first | exact Below.refl _ _ | assumption | refine Below.setCell ?_ (by first | omega | (simp <;> omega)) _ | refine Below.alloc ?_ (by first | omega | (simp <;> omega)) _ | refine Below.drew ?_ | refine below_drewN' ?_ _)))⟩
          case measure => simp [intOf]; omega
      · obtain rfl : i = m := by omega
        have hv : Na.val o2 = Na.val X / 2 ^ s := by
          have := HInv.out
          rw [List.take_of_length_le (by have := HOl.out; omega), List.drop_of_length_le (by have := HXL.out; omega)] at this
          simpa [Na.val] using this
        have hcut : Na.cut o2 = Na.limbs (Na.val X / 2 ^ s) := by rw [Na.cut, hv]
        have hs3 := HBl.out.sl HOk.out (c := i) (by have := HOl.out; omega)
        have hc := na_cut_any (some ⟨w.heap.size + 1, 0, none⟩) i o2 wr hs3 (by have := HOl.out; omega)
        have hs4 := hs3.cut
        rw [HOl.out, hcut] at hc
        rw [hcut] at hs4
        have HC := Lib.hid hc; have HS4 := Lib.hid hs4
        clear hc hs4 hs3 hcut hv
        go_wp2_with (first | (go_at_call 138; (with_reducible refine (HC.out).mono ?_); rintro e w' ⟨rfl, rfl⟩))
        first
        | refine bodyPost_ret (v := .tuple #[.slice (some ⟨w.heap.size + 1, 0, none⟩) (Na.limbs (Na.val X / 2 ^ s)).length i, .bool true, .int .i64 0]) (by simp [results, Tryz.results81, go_sem]) rfl (by rw [e2.out]; exact ⟨_, _, rfl, HS4.out, HBl.out.own (by omega), HBe.out⟩)
        | refine bodyPost_ret (v := .tuple #[.slice (some ⟨w.heap.size + 1, 0, none⟩) (Na.limbs (Na.val X / 2 ^ s)).length i, .bool ((z0 : Int) != 0), .int .i64 0]) (by simp [results, Tryz.results81, go_sem]) rfl (by rw [e2.out]; exact ⟨_, _, rfl, HS4.out, HBl.out.own (by omega), HBe.out⟩)

theorem na_shr_any (a : Option Addr) (c : Nat) (l : List Nat) (n : Int) (w : World) (h : Sl w a c l) (hn : l.length ≤ 1000000) (hi : -9223372036854775808 ≤ n ∧ n ≤ 9223372036854775807) :
    Calls Tryz.prog 81 #[.slice a l.length c, .int .i64 n] w (GivesS (Na.shr l n) w) := by
  by_cases h0 : n < 0
  · exact na_shr_arg a c l n w h hn hi h0
  · cases hb : Na.big l with
    | true => exact na_shr_big a c l n w h hn hi (by omega) hb
    | false =>
      obtain ⟨n', rfl⟩ : ∃ x : Nat, n = x := ⟨n.toNat, by omega⟩
      by_cases hp : n' / 32 < (Na.cut l).length
      · exact na_shr_main a c l n' w h hn (by omega) hb hp
      · exact na_shr_all a c l n' w h hn (by omega) hb (by omega)
end Go.Proofs.YtjnkbifafbjckaaGreatDoor

/- Plain Lean: long division, one limb of the quotient at a time (Knuth). -/
namespace Go.Proofs.YtjnkbifafbjckaaGreatDoor.Na
set_option linter.all false
open Go

/-- A dividend of a step and the divisor, by their first limbs. -/
structure Kn (U V W top u2 U' v1 v2 V' : Nat) : Prop where
  hU : U = (top * B + u2) * W + U'
  hV : V = (v1 * B + v2) * W + V'
  lU : U' < W
  lV : V' < W
  lu : u2 < B
  lv : v2 < B
  pv : 0 < v1
  lt : U < V * B

section
variable {U V W top u2 U' v1 v2 V' : Nat} (h : Kn U V W top u2 U' v1 v2 V')
include h

theorem Kn.posW : 0 < W := by have := h.lU; omega
theorem Kn.ltU : U < top * (B * W) + B * W := by
  have h1 := Nat.mul_le_mul_right W (show u2 + 1 ≤ B from h.lu)
  have h2 := h.hU
  rw [Nat.add_mul, Nat.one_mul] at h1
  rw [Nat.add_mul, Nat.mul_assoc] at h2
  have := h.lU
  omega
theorem Kn.leV : v1 * (B * W) ≤ V := by
  have h2 := h.hV
  rw [Nat.add_mul, Nat.mul_assoc] at h2
  omega
theorem Kn.posV : 0 < V := by
  have h1 := h.leV
  have h2 : 0 < v1 * (B * W) := Nat.mul_pos h.pv (Nat.mul_pos (by decide) h.posW)
  omega
theorem Kn.leV1 : B * W ≤ V := by
  have h1 := h.leV
  have h2 := Nat.mul_le_mul_right (B * W) (show 1 ≤ v1 from h.pv)
  omega
theorem Kn.start : U / V ≤ top / v1 := by
  rw [Nat.le_div_iff_mul_le h.pv]
  rcases Nat.lt_or_ge top (U / V * v1) with h1 | h1
  · exfalso
    have h2 := Nat.mul_le_mul_right (B * W) (show top + 1 ≤ U / V * v1 from h1)
    rw [Nat.add_mul, Nat.one_mul, Nat.mul_assoc] at h2
    have h3 := Nat.mul_le_mul_left (U / V) h.leV
    have h4 := Nat.div_mul_le_self U V
    have h5 := h.ltU
    omega
  · exact h1
theorem Kn.ltB : U / V < B := by
  rw [Nat.div_lt_iff_lt_mul h.posV, Nat.mul_comm]; exact h.lt
/-- A guess that the test finds too great. -/
theorem Kn.down {d r : Nat} (hd : d * v1 + r = top) (hq : U / V ≤ d) (ht : B ≤ d ∨ r * B + u2 < d * v2) : 0 < d ∧ U / V ≤ d - 1 ∧ (d - 1) * v1 + (r + v1) = top := by
  have h1 : U / V < d := by
    rcases ht with ht | ht
    · have := h.ltB; omega
    · rw [Nat.div_lt_iff_lt_mul h.posV, Nat.mul_comm]
      have e : d * (v1 * B + v2) = d * v1 * B + d * v2 := by rw [Nat.mul_add, Nat.mul_assoc]
      have e2 : top * B = d * v1 * B + r * B := by rw [← hd, Nat.add_mul]
      have h2 : top * B + u2 + 1 ≤ d * (v1 * B + v2) := by omega
      have h3 := Nat.mul_le_mul_right W h2
      rw [Nat.add_mul, Nat.one_mul, Nat.mul_assoc] at h3
      have h4 : d * ((v1 * B + v2) * W) ≤ d * V := Nat.mul_le_mul_left d (by rw [h.hV]; omega)
      have := h.hU
      have := h.lU
      rw [Nat.mul_comm V d]
      omega
  have h0 := Nat.zero_le (U / V)
  refine ⟨by omega, by omega, ?_⟩
  obtain ⟨k, rfl⟩ : ∃ k, d = k + 1 := ⟨d - 1, by omega⟩
  rw [Nat.add_sub_cancel]
  rw [Nat.add_mul, Nat.one_mul] at hd
  omega
theorem Kn.close {d : Nat} (hd : d < B) (ht : d * (v1 * B + v2) ≤ top * B + u2) : d * V < U + V := by
  have h1 := Nat.mul_le_mul_right W ht
  rw [Nat.mul_assoc] at h1
  have h2 : d * V = d * ((v1 * B + v2) * W) + d * V' := by rw [h.hV, Nat.mul_add]
  have h3 : d * V' ≤ d * W := Nat.mul_le_mul_left d (Nat.le_of_lt h.lV)
  have h4 : d * W + W ≤ B * W := by
    have := Nat.mul_le_mul_right W (show d + 1 ≤ B from hd)
    rwa [Nat.add_mul, Nat.one_mul] at this
  have h5 := h.leV1
  have h6 := h.hU
  have := h.posW
  omega
/-- A guess that the test lets by. -/
theorem Kn.stop {d r : Nat} (hd : d * v1 + r = top) (hB : d < B) (ht : d * v2 ≤ r * B + u2) : d * V < U + V := by
  refine h.close hB ?_
  have e : d * (v1 * B + v2) = d * v1 * B + d * v2 := by rw [Nat.mul_add, Nat.mul_assoc]
  have e2 : top * B = d * v1 * B + r * B := by rw [← hd, Nat.add_mul]
  omega
theorem Kn.top_le : top ≤ v1 * B + v2 := by
  rcases Nat.lt_or_ge (v1 * B + v2) top with h1 | h1
  · exfalso
    have h2 := Nat.mul_le_mul_right (B * W) (show v1 * B + v2 + 1 ≤ top from h1)
    have h3 : top * (B * W) ≤ U := by
      have := h.hU
      rw [Nat.add_mul, Nat.mul_assoc] at this
      omega
    have h4 : V * B ≤ (v1 * B + v2 + 1) * (B * W) := by
      have : V ≤ (v1 * B + v2 + 1) * W := by
        rw [Nat.add_mul (v1 * B + v2), Nat.one_mul]
        have := h.hV; have := h.lV; omega
      have := Nat.mul_le_mul_right B this
      rw [Nat.mul_assoc, Nat.mul_comm W B] at this
      exact this
    have := h.lt
    omega
  · exact h1
/-- A guess whose rest is a limb too great for a test. -/
theorem Kn.broke {d r : Nat} (hd : d * v1 + r = top) (hr : B ≤ r) : d < B ∧ d * V < U + V := by
  have h1 := h.top_le
  have h2 := h.lv
  have hB : d < B := by
    rcases Nat.lt_or_ge d B with h3 | h3
    · exact h3
    · have := Nat.mul_le_mul_right v1 h3
      rw [Nat.mul_comm B v1] at this
      omega
  refine ⟨hB, h.close hB ?_⟩
  have e : d * (v1 * B + v2) = d * v1 * B + d * v2 := by rw [Nat.mul_add, Nat.mul_assoc]
  have e2 : top * B = d * v1 * B + r * B := by rw [← hd, Nat.add_mul]
  have e3 : d * v2 ≤ d * B := Nat.mul_le_mul_left d (Nat.le_of_lt h2)
  have e4 := Nat.mul_le_mul_right B (Nat.le_of_lt hB)
  have e5 := Nat.mul_le_mul_right B hr
  omega
end

/-- What is taken away, and given back: N the limbs' reach, br the borrow. -/
theorem kn_taken {U V d N o br : Nat} (hV : 0 < V) (hN : V ≤ N) (hq : U / V ≤ d) (hd : d * V < U + V) (ho : o < N) (h : U + N * br = o + d * V) (hb : br ≤ 1) :
    (br = 0 → o = U % V ∧ d = U / V) ∧ (br = 1 → ∀ o2 c, o2 < N → o2 + N * c = o + V → o2 = U % V ∧ 0 < d ∧ d - 1 = U / V) := by
  have hm := Nat.div_add_mod U V
  have hl := Nat.mod_lt U hV
  have hd2 : d ≤ U / V + 1 := by
    have : d - 1 < U / V + 1 ∨ d = 0 := by
      rcases Nat.eq_zero_or_pos d with h0 | h0
      · exact Or.inr h0
      · left
        obtain ⟨k, rfl⟩ : ∃ k, d = k + 1 := ⟨d - 1, by omega⟩
        rw [Nat.add_mul, Nat.one_mul] at hd
        have : k ≤ U / V := by rw [Nat.le_div_iff_mul_le hV]; omega
        omega
    have h0 := Nat.zero_le (U / V)
    omega
  constructor
  · rintro rfl
    rw [Nat.mul_zero, Nat.add_zero] at h
    have h1 : d ≤ U / V := by rw [Nat.le_div_iff_mul_le hV]; omega
    have h2 : d = U / V := by omega
    subst h2
    rw [Nat.mul_comm] at hm
    exact ⟨by omega, rfl⟩
  · rintro rfl o2 c ho2 hc
    rw [Nat.mul_one] at h
    have h1 : U / V < d := by
      rw [Nat.div_lt_iff_lt_mul hV, Nat.mul_comm]
      rw [Nat.mul_comm V d]; omega
    have h2 : d = U / V + 1 := by omega
    rw [h2, Nat.add_mul, Nat.one_mul, Nat.mul_comm (U / V) V] at h
    have h3 : N * c + o2 = N * 1 + U % V := by omega
    have h4 : c = 1 := by
      have hr : U % V < N := by omega
      have a1 : (N * c + o2) / N = c := by rw [Nat.mul_add_div (by omega), Nat.div_eq_of_lt ho2]; omega
      have a2 : (N * 1 + U % V) / N = 1 := by rw [Nat.mul_add_div (by omega), Nat.div_eq_of_lt hr]
      rw [← a1, h3, a2]
    subst h4
    exact ⟨by omega, by rw [h2]; exact Nat.succ_pos _, by rw [h2]; rfl⟩

/-- .. in the numbers: off the list's part from off on, o as it stands, q the divisor, d the factor. -/
theorem takes_step (O o q : List Nat) (off d k x y c b c2 b2 v : Nat) (hk : off + k < o.length) (hOk : (O.drop off).take (k + 1) = (O.drop off).take k ++ [x])
    (inv : val ((O.drop off).take k) + B ^ k * (c + b) = val ((o.drop off).take k) + d * val (q.take k)) (hq : val (q.take (k + 1)) = val (q.take k) + B ^ k * y)
    (hl : (O.drop off).length ≥ k + 1) (he : x + B * (c2 + b2) = v + (d * y + c + b)) :
    val ((O.drop off).take (k + 1)) + B ^ (k + 1) * (c2 + b2) = val (((o.set (off + k) v).drop off).take (k + 1)) + d * val (q.take (k + 1)) := by
  rw [drop_set, val_set_take _ k _ (by rw [List.length_drop]; omega), hq, hOk, val_app, Nat.pow_succ, List.length_take, Nat.min_eq_left (by omega)]
  have h1 := congrArg (B ^ k * ·) he
  simp only [Nat.mul_add] at h1
  simp only [val, Nat.mul_zero, Nat.add_zero]
  have h2 : d * (B ^ k * y) = B ^ k * (d * y) := by rw [Nat.mul_left_comm]
  have h3 : B ^ k * B * (c2 + b2) = B ^ k * (B * c2) + B ^ k * (B * b2) := by rw [Nat.mul_assoc, Nat.mul_add, Nat.mul_add]
  rw [Nat.mul_add d, h2, h3]
  rw [Nat.mul_add] at inv
  omega
end Go.Proofs.YtjnkbifafbjckaaGreatDoor.Na

/- takes. -/
namespace Go.Proofs.YtjnkbifafbjckaaGreatDoor
set_option linter.all false
open Go.RowKit

theorem Blk.onl {w w' : World} {g k : Nat} {o : List Nat} (h : Blk w k o) (hb : Onl g w w') (hk : k ≠ g) : Blk w' k o := (hb.block k hk h.lt).trans h

theorem Na.takes_limb2 (x lo hi cc b l2 : Nat) (hx : x < 4294967296) (hlo : lo < 4294967296) (hhi : hi ≤ 4294967294) (hc : cc < 4294967296) (hb : b ≤ 1) (hl2 : l2 = (lo + cc) % 4294967296) :
    ∃ o b2 c2 : Nat, o < 4294967296 ∧ b2 ≤ 1 ∧ c2 < 4294967296 ∧ (hi : Int) + ((lo : Int) + cc) / 4294967296 = (c2 : Int) ∧ (((x : Int) - l2) % 18446744073709551616 - b) % 18446744073709551616 % 4294967296 = (o : Int) ∧ (((x : Int) - l2) % 18446744073709551616 - b) % 18446744073709551616 / 9223372036854775808 = (b2 : Int) ∧
    x + Na.B * (c2 + b2) = o + (hi * 4294967296 + lo + cc + b) ∧ (hi = 0 → lo = 0 → c2 = 0) := by
  show ∃ o b2 c2 : Nat, o < 4294967296 ∧ b2 ≤ 1 ∧ c2 < 4294967296 ∧ (hi : Int) + ((lo : Int) + cc) / 4294967296 = (c2 : Int) ∧ (((x : Int) - l2) % 18446744073709551616 - b) % 18446744073709551616 % 4294967296 = (o : Int) ∧ (((x : Int) - l2) % 18446744073709551616 - b) % 18446744073709551616 / 9223372036854775808 = (b2 : Int) ∧
    x + 4294967296 * (c2 + b2) = o + (hi * 4294967296 + lo + cc + b) ∧ (hi = 0 → lo = 0 → c2 = 0)
  rcases Nat.lt_or_ge x (l2 + b) with h | h
  · exact ⟨x + 4294967296 - l2 - b, 1, hi + (lo + cc) / 4294967296, by omega, by omega, by omega, by omega, by omega, by omega, by omega, by omega⟩
  · exact ⟨x - l2 - b, 0, hi + (lo + cc) / 4294967296, by omega, by omega, by omega, by omega, by omega, by omega, by omega, by omega⟩
theorem Na.and32 (a : Nat) (ha : a < 18446744073709551616) : bits BinOp.and IntKind.u64 (a : Int) 4294967295 = ((a % 4294967296 : Nat) : Int) := by
  have h := bits_and_u64_nat a 4294967295 ha (by decide)
  rw [show (4294967295 : Nat) = 2 ^ 32 - 1 from rfl, Nat.and_two_pow_sub_one_eq_mod] at h
  exact h

theorem Na.drop_set_more {O o : List Nat} {i v : Nat} (h : o.drop i = O.drop i) : (o.set i v).drop (i + 1) = O.drop (i + 1) := by
  rw [List.drop_set, if_pos (by omega)]
  have := congrArg (List.drop 1) h
  rwa [List.drop_drop, List.drop_drop] at this

def takesLoop (N off g d : Nat) (O q : List Nat) (w : World) (cv bv iv : Value) (wr : World) : Prop := ∃ (k c b : Nat) (o : List Nat), k ≤ N ∧ iv = .int .i64 k ∧ cv = .int .u64 c ∧ bv = .int .u64 b ∧ c < 4294967296 ∧ b ≤ 1 ∧ Hid (Blk wr g o) ∧ Hid (o.length = O.length) ∧ Hid (Na.OK o) ∧
  Hid (o.take off = O.take off) ∧ Hid (o.drop (off + k) = O.drop (off + k)) ∧ Hid (q.length < k → c = 0) ∧ Hid (Na.val ((O.drop off).take k) + Na.B ^ k * (c + b) = Na.val ((o.drop off).take k) + d * Na.val (q.take k)) ∧ Hid (Onl g w wr)

def TakesR (N off g d : Nat) (O q : List Nat) (w : World) (e : Ending) (w' : World) : Prop := ∃ br, br ≤ 1 ∧ e = .returned (.bool (decide (0 < br))) ∧ Onl g w w' ∧ ∃ o, Blk w' g o ∧ o.length = O.length ∧ Na.OK o ∧ o.take off = O.take off ∧ o.drop (off + N) = O.drop (off + N) ∧
  Na.val ((O.drop off).take N) + Na.B ^ N * br = Na.val ((o.drop off).take N) + d * Na.val q

set_option maxHeartbeats 2000000 in
theorem na_takes_any (g gv off N c ca d : Nat) (O q : List Nat) (w : World) (hb : Blk w g O) (hok : Na.OK O) (hl : off + N ≤ O.length) (hv : Blk w gv q) (hvk : Na.OK q) (hne : gv ≠ g) (hqN : q.length < N) (hd : d < 4294967296) (hN : off + N ≤ 1000000) :
    Calls Tryz.prog 240 #[.slice (some ⟨g, off, none⟩) N c, .slice (some ⟨gv, 0, none⟩) q.length ca, .int .u64 d] w (TakesR N off g d O q w) := by
  have HB0 := Lib.hid hb; have HO0 := Lib.hid hok; have HL0 := Lib.hid hl; have HV := Lib.hid hv; have HVK := Lib.hid hvk; have HNE := Lib.hid hne
  clear hb hok hl hv hvk hne
  go_enter Tryz.func240, Tryz.ntmps240
  go_wp2_with fail
  go_loopw [7, 8, 15] (takesLoop N off g d O q w) (fun _ _ i _ => N - (intOf i).toNat)
  case atStart => exact ⟨0, 0, 0, O, Nat.zero_le _, rfl, rfl, rfl, by omega, by omega, HB0, Lib.hid rfl, HO0, Lib.hid rfl, Lib.hid rfl, Lib.hid (fun _ => rfl), Lib.hid (by simp [Na.val]), Lib.hid (Onl.refl _ _)⟩
  case round =>
    obtain ⟨k, cc, b, o, hk, rfl, rfl, rfl, hcc, hb1, HBl, HOl, HOk, HTk, HDr, HZ, HInv, HBe⟩ := hrel
    by_cases hlt : k < N
    · have hO1 : off + k < O.length := by have := HL0.out; omega
      have ho1 : off + k < o.length := by rw [HOl.out]; exact hO1
      have co := HBl.out.cell (off + k) ho1
      have fo := HBl.out.frozen (off + k)
      have hxl : O[off + k]'hO1 < 4294967296 := HO0.out _ (List.getElem_mem hO1)
      have HOx := Lib.hid (show (O.drop off).take (k + 1) = (O.drop off).take k ++ [O[off + k]'hO1] by
        rw [List.take_succ_eq_append_getElem (by rw [List.length_drop]; omega), List.getElem_drop])
      obtain ⟨x, hxe⟩ : ∃ x, O[off + k]'hO1 = x := ⟨_, rfl⟩
      rw [Na.drop_get HDr.out (Nat.le_refl _) ho1 hO1] at co
      rw [hxe] at co hxl HOx
      clear hxe
      by_cases hlq : k < q.length
      · have hv2 := HV.out.onl HBe.out HNE.out
        have c1 := hv2.cell k hlq
        have hyl : q[k]'hlq < 4294967296 := HVK.out _ (List.getElem_mem hlq)
        have VQ := Lib.hid (Na.val_take_succ q k hlq)
        obtain ⟨y, hye⟩ : ∃ x, q[k]'hlq = x := ⟨_, rfl⟩
        rw [hye] at c1 hyl VQ
        have hp := (Na.prod_le d y 0 0 hd hyl (by omega) (by omega)).1
        have hdp : (d : Int) * (y : Int) = ((d * y : Nat) : Int) := by simp
        obtain ⟨p, hpe⟩ : ∃ p, p = d * y := ⟨_, rfl⟩
        rw [← hpe] at hp hdp
        obtain ⟨hi, hhi⟩ : ∃ h, h = p / 4294967296 := ⟨_, rfl⟩
        obtain ⟨lo, hlo⟩ : ∃ h, h = p % 4294967296 := ⟨_, rfl⟩
        obtain ⟨l2, hl2⟩ : ∃ h, h = (lo + cc) % 4294967296 := ⟨_, rfl⟩
        have hand1 := Na.and32 p (by omega)
        rw [← hlo] at hand1
        have hdiv : (p : Int) / 4294967296 = (hi : Int) := by omega
        have hlo2 : lo < 4294967296 := by omega
        have hhi2 : hi ≤ 4294967294 := by omega
        have hand2 := Na.and32 (lo + cc) (by omega)
        rw [← hl2, show ((lo + cc : Nat) : Int) = (lo : Int) + (cc : Int) by simp] at hand2
        have hl22 : l2 < 4294967296 := by omega
        obtain ⟨z, b2, c2, hz, hb2, hc2, e1, e2, e3, he, he0⟩ := Na.takes_limb2 x lo hi cc b l2 hxl hlo2 hhi2 hcc hb1 hl2
        have hpp : hi * 4294967296 + lo = d * y := by rw [← hpe]; omega
        rw [hpp] at he
        have HS := Lib.hid (Na.takes_step O o q off d k x y cc b c2 b2 z ho1 HOx.out HInv.out VQ.out (by rw [List.length_drop]; omega) he)
        have E1 := Lib.hid e1; have E2 := Lib.hid e2; have E3 := Lib.hid e3
        clear hye hv2 hpe hhi hlo hl2 hpp he he0 e1 e2 e3 HInv
        go_wp2_with fail
        go_roundw
        case rel =>
          rw [IntKind.wrap_u64, IntKind.wrap_u64, E1.out, E2.out, E3.out]
          exact ⟨k + 1, c2, b2, o.set (off + k) z, by omega, by go_num, rfl, rfl, hc2, hb2, Lib.hid (HBl.out.set _ _), Lib.hid (by rw [List.length_set]; exact HOl.out), Lib.hid (Na.ok_set HOk.out _ _ hz), Lib.hid (by rw [List.take_set_of_le (by omega)]; exact HTk.out), Lib.hid (Na.drop_set_more HDr.out), Lib.hid (fun h => absurd h (by omega)), HS, Lib.hid (HBe.out.setCell _ _)⟩
        case measure => simp [intOf]; omega
      · have VQ := Lib.hid (Na.take_more q k (by omega))
        obtain ⟨z, b2, c2, hz, hb2, hc2, e1, e2, e3, he, he0⟩ := Na.takes_limb2 x 0 0 cc b cc hxl (by omega) (by omega) hcc hb1 (by omega)
        obtain rfl : c2 = 0 := he0 rfl rfl
        have HS := Lib.hid (Na.takes_step O o q off d k x 0 cc b 0 b2 z ho1 HOx.out HInv.out VQ.out (by rw [List.length_drop]; omega) (by rw [he]; omega))
        have hand1 : bits BinOp.and IntKind.u64 0 4294967295 = 0 := by decide
        have hand2 := Na.and32 cc (by omega)
        rw [Nat.mod_eq_of_lt hcc] at hand2
        have hcd : (cc : Int) / 4294967296 = 0 := by omega
        have E2 := Lib.hid e2; have E3 := Lib.hid e3
        clear he he0 e1 e2 e3 HInv
        go_wp2_with fail
        go_roundw
        case rel =>
          rw [IntKind.wrap_u64, IntKind.wrap_u64, E2.out, E3.out]
          exact ⟨k + 1, 0, b2, o.set (off + k) z, by omega, by go_num, rfl, rfl, by omega, hb2, Lib.hid (HBl.out.set _ _), Lib.hid (by rw [List.length_set]; exact HOl.out), Lib.hid (Na.ok_set HOk.out _ _ hz), Lib.hid (by rw [List.take_set_of_le (by omega)]; exact HTk.out), Lib.hid (Na.drop_set_more HDr.out), Lib.hid (fun _ => rfl), HS, Lib.hid (HBe.out.setCell _ _)⟩
        case measure => simp [intOf]; omega
    · obtain rfl : k = N := by omega
      have HE := Lib.hid (show Na.val ((O.drop off).take k) + Na.B ^ k * b = Na.val ((o.drop off).take k) + d * Na.val q by
        have h1 := HInv.out
        have h2 := HZ.out hqN
        rw [h2, Nat.zero_add, List.take_of_length_le (l := q) (by omega)] at h1
        exact h1)
      go_wp2_with fail
      go_ret
      exact ⟨b, hb1, by simp, HBe.out, o, HBl.out, HOl.out, HOk.out, HTk.out, HDr.out, HE.out⟩
end Go.Proofs.YtjnkbifafbjckaaGreatDoor
