/- The reference: ten to a power; the natural that digits say. -/
import Derived.Test.YtiglekomfgfilaaGreatDoorY21
import Derived.Deep.RegionWith
import Derived.Test.YtiglekomfgfilaaGreatDoorY8
import Derived.Test.YtiglekomfgfilaaGreatDoorY14
import Derived.Test.YtiglekomfgfilaaGreatDoorY11
import Derived.Test.YtiglekomfgfilaaGreatDoorY12
import Derived.Test.YtiglekomfgfilaaGreatDoorY4
import Derived.Test.YtiglekomfgfilaaGreatDoorY5
import Derived.Test.YtiglekomfgfilaaGreatDoorY3
import Derived.Test.YtiglekomfgfilaaGreatDoorY1
import Derived.Defers
import Derived.Laws.Pointers
import Derived.Laws.LoneSync
import Derived.RegionTactic
import Derived.RegionCalls
import Derived.ChangeAlike
namespace Go.Proofs.YtiglekomfgfilaaGreatDoor
set_option maxRecDepth 100000
set_option maxHeartbeats 4000000
set_option linter.all false
open Go.RowKit
theorem r8_ten_any (n : Nat) (w : World) (hn : n ≤ 50000) : Calls Tryz.prog 51 #[.int .i64 n] w (GivesZ (Na.limbs (10 ^ n)) w) := by
  have HB := Lib.hid ((Below.refl w.heap.size w).alloc (Nat.le_refl _) (Obj.cells #[Value.int IntKind.u32 1] 81))
  have HS0 := Lib.hid (lit_one' w); have HR0 := Lib.hid (lit_one_row w)
  go_enter Tryz.func51, Tryz.ntmps51
  go_wp2_with fail
  go_loopw [3, 4] (fivesLoop 10 n w) (fun _ i _ => n - (intOf i).toNat)
  case atStart => exact ⟨0, some ⟨w.heap.size, 0, none⟩, 1, Nat.zero_le _, rfl, by simp [Na.limbs_one], by simp [Na.limbs_one], by simpa [Na.limbs_one] using HS0, Lib.hid (fun e => by cases e), by simpa [Na.limbs_one] using HR0, HB⟩
  case round =>
    clear HB HS0 HR0
    obtain ⟨k, a, c, hk, rfl, rfl, hlen, HSl, HZ, HR, HBe⟩ := hrel
    obtain ⟨x, hx⟩ : ∃ x, x = 10 ^ k := ⟨_, rfl⟩
    rw [← hx] at hlen HSl HR ⊢
    have HX := Lib.hid hx
    clear hx
    by_cases hlt : k < n
    · have hSL := lit_sl wr 10 (by decide)
      have hSA : Sl (wr.alloc (.cells #[Value.int .u32 10] 81)) a c (Na.limbs x) := HSl.out.on ((Below.refl _ _).alloc (Nat.le_refl _) _)
      have htm := r1_times_any a c (Na.limbs x) _ _ [10] _ hSA hSL (by omega) (by simp)
      rw [Na.val_limbs, show Na.val [10] = 10 by simp [Na.val], HX.out, ← Nat.pow_succ, ← HX.out] at htm
      have HTM := Lib.hid (show Calls Tryz.prog 50 #[.slice a (Na.limbs x).length c, .slice (some ⟨wr.heap.size, 0, none⟩) 1 1] (wr.alloc (.cells #[Value.int .u32 10] 81)) (GivesZ (Na.limbs (10 ^ (k + 1))) (wr.alloc (.cells #[Value.int .u32 10] 81))) from htm)
      have HBA := Lib.hid (HBe.out.alloc HBe.out.size (.cells #[Value.int .u32 10] 81))
      have hl2 : (Na.limbs (10 ^ (k + 1))).length ≤ k + 1 + 1 := by
        have h1 := Na.val_lt (Na.limbs x) (Na.ok_limbs _)
        rw [Na.val_limbs] at h1
        have h3 : (Na.limbs (10 ^ (k + 1))).length ≤ (Na.limbs x).length + 1 := by rw [Nat.pow_succ, ← HX.out]; exact Na.len_prod h1 (show 10 < Na.B ^ 1 by decide)
        omega
      clear htm hSL hSA
      go_wp2_with (first | (go_at_call 50; (with_reducible refine (HTM.out).mono ?_); rintro e w1 ⟨a1, c1, rfl, s1, z1, r1, hb1⟩; have hB1 := HBA.out.trans (hb1.mono HBA.out.size)))
      go_roundw
      case rel => exact ⟨k + 1, a1, c1, by omega, by go_num, rfl, hl2, Lib.hid s1, Lib.hid z1, Lib.hid (r1.mono HBA.out.size), Lib.hid hB1⟩
      case measure => simp [intOf]; omega
    · obtain rfl : k = n := by omega
      go_wp2_with fail
      go_ret
      rw [← HX.out]
      exact ⟨a, c, rfl, HSl.out, HZ.out, HR.out, HBe.out⟩
def GivesU (l : List Nat) (w : World) (e : Ending) (w' : World) : Prop := ∃ a c, e = .returned (.slice a l.length c) ∧ Sl w' a c l ∧ (a = none → c = 0) ∧ Below w.heap.size w w'
theorem Sl.drewn {w : World} {a : Option Addr} {c : Nat} {l : List Nat} (h : Sl w a c l) : Sl w.drew a c l := h.on ((Below.refl _ _).drew)
theorem lit_ten8 (w : World) : Sl (w.alloc (Obj.cells #[Value.int IntKind.u32 10] 81)) (some ⟨w.heap.size, 0, none⟩) 1 [10] := lit_sl w 10 (by decide)
def digsLoop (s : ByteArray) (w : World) (xv iv : Value) (wr : World) : Prop := ∃ (k x : Nat) (a : Option Addr) (c : Nat), k ≤ s.size ∧ iv = .int .i64 k ∧ xv = .slice a (Na.limbs x).length c ∧ Hid (x = Dc.nv (s.data.toList.take k)) ∧ (Na.limbs x).length ≤ k ∧ Hid (Sl wr a c (Na.limbs x)) ∧ Hid (a = none → c = 0) ∧ Hid (Below w.heap.size w wr)
theorem Dc.nv_take (s : ByteArray) (k : Nat) (h : k < s.size) : Dc.nv (s.data.toList.take (k + 1)) = Dc.nv (s.data.toList.take k) * 10 + (s[k].toNat - 48) := by
  rw [List.take_add_one, bs_getElem? s k h]
  show Dc.nv (_ ++ [s[k]]) = _
  rw [Dc.nv_app, Dc.nv_cons, Dc.nv_nil]
  simp
theorem Na.len_tens {x k : Nat} (h : x < 10 ^ k) : (Na.limbs x).length ≤ k :=
  Na.limbs_len_le x k (Nat.lt_of_lt_of_le h (Nat.pow_le_pow_left (by decide) k))
theorem r8_digits_any (s : ByteArray) (w : World) (hs : s.size ≤ 10000) (hd : Dc.allDig s.data.toList = true) : Calls Tryz.prog 48 #[.string s] w (GivesU (Na.limbs (Dc.nv s.data.toList)) w) := by
  have HD := Lib.hid hd
  clear hd
  have HB0 := Lib.hid ((Below.refl w.heap.size w).alloc (Nat.le_refl _) (Obj.cells #[] 81))
  have hs0 : Sl (w.alloc (Obj.cells #[] 81)) (some ⟨w.heap.size, 0, none⟩) 0 (Na.limbs 0) := by
    rw [Na.limbs_zero]; exact Sl.nil _ _ _
  have HS0 := Lib.hid hs0
  clear hs0
  go_enter Tryz.func48, Tryz.ntmps48
  go_wp2_with fail
  go_loopw [3, 4] (digsLoop s w) (fun _ i _ => s.size - (intOf i).toNat)
  case atStart => exact ⟨0, 0, some ⟨w.heap.size, 0, none⟩, 0, Nat.zero_le _, rfl, by rw [Na.limbs_zero]; rfl, Lib.hid rfl, by rw [Na.limbs_zero]; simp, HS0, Lib.hid (fun e => by cases e), HB0⟩
  case round =>
    clear HB0 HS0
    obtain ⟨k, x, a, c, hk, rfl, rfl, HX, hlen, HSl, HZ, HBe⟩ := hrel
    have hszw := HBe.out.size
    by_cases hlt : k < s.size
    · obtain ⟨hd1, hd2⟩ := Dc.dig_mem HD.out (List.mem_of_getElem? (bs_getElem? s k hlt))
      obtain ⟨d, hd⟩ : ∃ d, d = s[k].toNat - 48 := ⟨_, rfl⟩
      have hdi : (s[k].toNat : Int) - 48 = (d : Int) := by omega
      have hd9 : d ≤ 9 := by omega
      have hw1 : IntKind.u8.wrap (d : Int) = (d : Int) := by rw [IntKind.wrap_u8]; omega
      have hw2 : IntKind.u32.wrap (d : Int) = (d : Int) := by rw [IntKind.wrap_u32]; omega
      have hdl : d < 4294967296 := by omega
      obtain ⟨y, hy⟩ : ∃ y, y = x * 10 + d := ⟨_, rfl⟩
      have hyn : y = Dc.nv (s.data.toList.take (k + 1)) := by rw [Dc.nv_take s k hlt, ← HX.out, hy, hd]
      have hly : (Na.limbs y).length ≤ k + 1 := by
        refine Na.len_tens ?_
        rw [hyn]
        have := Dc.nv_lt (l := s.data.toList.take (k + 1)) (by
          have h := HD.out
          rw [← List.take_append_drop (k + 1) s.data.toList, Dc.allDig, List.all_append, Bool.and_eq_true] at h
          exact h.1)
        rwa [List.length_take, bs_length, Nat.min_eq_left (by omega)] at this
      have HY := Lib.hid hyn
      have htm := fun wr a2 c2 (h1 : Sl wr a c (Na.limbs x)) (h2 : Sl wr a2 c2 [10]) => r1_times_any a c (Na.limbs x) a2 c2 [10] wr h1 h2 (by omega) (by simp)
      rw [Na.val_limbs, show Na.val [10] = 10 by simp [Na.val]] at htm
      have hlx : (Na.limbs (x * 10)).length ≤ 10001 := by
        have h1 := Na.val_lt (Na.limbs x) (Na.ok_limbs _)
        rw [Na.val_limbs] at h1
        have h3 := Na.len_prod h1 (show 10 < Na.B ^ 1 by decide)
        omega
      have hpl := fun wr a1 c1 a2 c2 (h1 : Sl wr a1 c1 (Na.limbs (x * 10))) (h2 : Sl wr a2 c2 [d]) => r1_plus_any a1 c1 (Na.limbs (x * 10)) a2 c2 [d] wr h1 h2 (by omega) (by simp)
      rw [Na.val_limbs, show Na.val [d] = d by simp [Na.val], ← hy] at hpl
      have HTM := Lib.hid (show ∀ wr a2 c2, Sl wr a c (Na.limbs x) → Sl wr a2 c2 [10] → Calls Tryz.prog 50 #[.slice a (Na.limbs x).length c, .slice a2 1 c2] wr (GivesZ (Na.limbs (x * 10)) wr) from htm)
      have HPL := Lib.hid (show ∀ wr a1 c1 a2 c2, Sl wr a1 c1 (Na.limbs (x * 10)) → Sl wr a2 c2 [d] → Calls Tryz.prog 79 #[.slice a1 (Na.limbs (x * 10)).length c1, .slice a2 1 c2] wr (GivesZ (Na.limbs y) wr) from hpl)
      clear htm hpl hlx hy hd hyn
      go_upto_region 6 with (fail)
      go_region_with (first
        | (go_at_call 50; (with_reducible refine (HTM.out _ _ _ ?_ ?_).mono ?_); exact HSl.out.on (by (repeat (first | exact Below.refl _ _ | assumption | refine Below.setCell ?_ (by first | omega | (simp <;> omega)) _ | refine Below.alloc ?_ (by first | omega | (simp <;> omega)) _ | refine Below.drew ?_ | refine below_drewN' ?_ _))); (first | exact (lit_ten8 _).drewn | (have h := (lit_ten8 (wr.alloc (Obj.cells #[Value.int IntKind.u32 (d : Int)] 81))).drewn; rw [World.size_alloc] at h; exact h) | exact ((lit_ten8 _).on ((Below.refl _ _).alloc (Nat.le_refl _) _)).drewn); rintro e w1 ⟨a1, c1, rfl, s1, z1, -, hb1⟩; have hB1 : Below w.heap.size w w1 := Below.trans (by have hbe := HBe.out; (repeat (first | exact Below.refl _ _ | assumption | refine Below.setCell ?_ (by first | omega | (simp <;> omega)) _ | refine Below.alloc ?_ (by first | omega | (simp <;> omega)) _ | refine Below.drew ?_ | refine below_drewN' ?_ _))) (hb1.mono (by (try simp only [size_drew', World.size_alloc]); omega)))
        | (go_at_call 79; (with_reducible refine (HPL.out _ _ _ _ _ ?_ ?_).mono ?_); (first | exact s1 | exact s1.on ((Below.refl _ _).alloc (Nat.le_refl _) _)); (first | exact lit_sl _ d hdl | (have h := ((lit_sl (wr.alloc (Obj.cells #[Value.int IntKind.u32 10] 81)) d hdl).drewn).on hb1; rw [World.size_alloc] at h; exact h) | exact ((lit_sl _ d hdl).drewn).on hb1 | exact (((lit_sl _ d hdl).on ((Below.refl _ _).alloc (Nat.le_refl _) _)).drewn).on hb1); rintro e w2 ⟨a2, c2, rfl, s2, z2, -, hb2⟩; have hB2 : Below w.heap.size w w2 := Below.trans (by have hsz1 := hB1.size; (repeat (first | exact Below.refl _ _ | assumption | refine Below.setCell ?_ (by first | omega | (simp <;> omega)) _ | refine Below.alloc ?_ (by first | omega | (simp <;> omega)) _ | refine Below.drew ?_ | refine below_drewN' ?_ _))) (hb2.mono (by have := hB1.size; (try simp only [World.size_alloc]); omega))))
      all_goals go_wp2_with fail
      all_goals (
        go_roundw
        case rel => exact ⟨k + 1, y, a2, c2, by omega, by go_num, rfl, HY, hly, Lib.hid s2, Lib.hid z2, Lib.hid hB2⟩
        case measure => simp [intOf]; omega)
    · obtain rfl : k = s.size := by omega
      have hx : x = Dc.nv s.data.toList := by have := HX.out; rwa [List.take_of_length_le (by rw [bs_length]; exact Nat.le_refl _)] at this
      subst hx
      go_wp2_with fail
      go_ret
      exact ⟨a, c, rfl, HSl.out, HZ.out, HBe.out⟩
end Go.Proofs.YtiglekomfgfilaaGreatDoor

/- The reference: a right decimal's bits. -/
namespace Go.Proofs.YtiglekomfgfilaaGreatDoor
set_option maxRecDepth 100000
set_option maxHeartbeats 4000000
set_option linter.all false
open Go.RowKit
def DecB (W : World) (b : Nat) (n : Bool) (s : ByteArray) (x : Int) : Prop := W.cell? ⟨b, 0, none⟩ = some (.bool n) ∧ W.cell? ⟨b, 1, none⟩ = some (.string s) ∧ W.cell? ⟨b, 2, none⟩ = some (.int .i64 x) ∧ b < W.heap.size
theorem DecB.new (w : World) (n : Bool) (s : ByteArray) (x : Int) : DecB (w.alloc (Obj.cells #[Value.bool n, Value.string s, Value.int IntKind.i64 x] 27)) w.heap.size n s x :=
  ⟨by simp [go_sem], by simp [go_sem], by simp [go_sem], by simp⟩
theorem DecB.on {W W' : World} {b : Nat} {n : Bool} {s : ByteArray} {x : Int} (h : DecB W b n s x) (hb : Below W.heap.size W W') : DecB W' b n s x := by
  obtain ⟨h0, h1, h2, hl⟩ := h
  exact ⟨(hb.cell (p := ⟨b, 0, none⟩) hl).trans h0, (hb.cell (p := ⟨b, 1, none⟩) hl).trans h1, (hb.cell (p := ⟨b, 2, none⟩) hl).trans h2, Nat.lt_of_lt_of_le hl hb.size⟩
theorem r8_with_any (b : Bool) (v : Nat) (w : World) (hv : v < 9223372036854775808) : Calls Tryz.prog 47 #[.bool b, .int .u64 v] w (Ret0 (.int .u64 ((Fl.wsign b + v : Nat) : Int)) w) := by
  cases b with
  | false =>
    go_enter Tryz.func47, Tryz.ntmps47
    go_wp2
    refine bodyPost_ret (v := .int .u64 (v : Int)) (by simp [results, Tryz.results47, go_sem]) rfl ⟨by simp [Fl.wsign], rfl⟩
  | true =>
    go_enter Tryz.func47, Tryz.ntmps47
    go_wp2
    refine bodyPost_ret (v := .int .u64 ((v : Int) + 9223372036854775808)) (by simp [results, Tryz.results47, go_sem] <;> omega) rfl ⟨by rw [Fl.wsign, if_pos rfl, Int.natCast_add, Int.add_comm]; rfl, rfl⟩
theorem Na.ten_le (j : Nat) : 10 ^ j ≤ 2 ^ (4 * j) := by rw [Nat.pow_mul]; exact Nat.pow_le_pow_left (by decide) j
theorem Na.len_ten_pow (j : Nat) : Na.bitLen (10 ^ j) ≤ 4 * j + 1 :=
  Na.bitLen_le' (Nat.lt_of_le_of_lt (Na.ten_le j) (Nat.pow_lt_pow_right (by decide) (by omega)))
theorem Na.limbs_of_bits {v m : Nat} (h : v < 2 ^ (32 * m)) : (Na.limbs v).length ≤ m :=
  Na.limbs_len_le v m (by rwa [show Na.B ^ m = 2 ^ (32 * m) by rw [Nat.pow_mul]])
theorem Na.ten_lt (v j : Nat) (h : v < 10 ^ j) : v < 2 ^ (4 * j) := Nat.lt_of_lt_of_le h (by rw [Nat.pow_mul]; exact Nat.pow_le_pow_left (by decide) j)
theorem r8_point_facts {s : ByteArray} {x : Int} (hr : Dc.right s.data.toList x = true) : Dc.point s.data.toList x = (s.size : Int) + x ∧ s.size ≤ 1100 ∧ -100000 ≤ x ∧ x ≤ 100000 := by
  have h1 := Dc.right_len hr; have h2 := Dc.right_exp hr
  rw [bs_length] at h1
  exact ⟨by rw [Dc.point_eq, if_pos hr], h1, h2⟩
theorem r8_bits_end (n : Bool) (s : ByteArray) (x : Int) (w : World) (hr : Dc.right s.data.toList x = true) (hend : s.size = 0 ∨ (s.size : Int) + x < -400 ∨ 400 < (s.size : Int) + x) :
    Calls Tryz.prog 21 #[.agg #[.bool n, .string s, .int .i64 x]] w (RetB (.int .u64 ((Fl.wsign n + Fl.bits s.data.toList x : Nat) : Int)) w) := by
  obtain ⟨hp, hs, hx1, hx2⟩ := r8_point_facts hr
  have hP := fun w => r7_point_any n s x w (by omega)
  rw [hp] at hP
  have hb0 : Below w.heap.size w (w.alloc (Obj.cells #[Value.bool n, Value.string s, Value.int IntKind.i64 x] 27)) := (Below.refl _ _).alloc (Nat.le_refl _) _
  have dd0 := DecB.new w n s x
  have hw0 : ∀ w, Calls Tryz.prog 47 #[.bool n, .int .u64 0] w (Ret0 (.int .u64 ((Fl.wsign n + 0 : Nat) : Int)) w) := fun w => r8_with_any n 0 w (by omega)
  have hwi : ∀ w, Calls Tryz.prog 47 #[.bool n, .int .u64 9218868437227405312] w (Ret0 (.int .u64 ((Fl.wsign n + 9218868437227405312 : Nat) : Int)) w) := fun w => r8_with_any n 9218868437227405312 w (by omega)
  obtain ⟨Z, hZ⟩ : ∃ Z, Z = Fl.wsign n + Fl.bits s.data.toList x := ⟨_, rfl⟩
  rw [← hZ]
  have HP := Lib.hid hP
  by_cases h0 : s.size = 0
  · have hl : s.data.toList = [] := List.eq_nil_of_length_eq_zero (by rw [bs_length]; exact h0)
    have hx0 : x = 0 := by rw [hl] at hr; simpa [Dc.right] using hr
    have hb : Fl.bits s.data.toList x = 0 := by rw [hl, hx0]; exact Fl.bits_nil
    rw [hb] at hZ; rw [← hZ] at hw0
    have HW0 := Lib.hid hw0
    have hz : ((s.size : Int) == 0) = true := by simp only [beq_iff_eq]; omega
    clear hl hx0 hb hr hend hP hw0 hwi hp hZ
    go_enter Tryz.func21, Tryz.ntmps21
    go_wp2_with (first
      | (go_at_call 46; (with_reducible refine (HP.out _).mono ?_); rintro e w1 ⟨rfl, hb1⟩; have hB1 : Below w.heap.size w w1 := hb0.trans (hb1.mono (by simp)); obtain ⟨y0, y1, y2, yl⟩ := dd0.on hb1)
      | (go_at_call 47; (with_reducible refine (HW0.out _).mono ?_); rintro e w' ⟨rfl, rfl⟩))
    go_ret
    exact RetB.of rfl hB1
  · have hz : ((s.size : Int) == 0) = false := by simp only [beq_eq_false_iff_ne, ne_eq]; omega
    have hne : s.data.toList ≠ [] := fun e => h0 (by have := congrArg List.length e; rwa [bs_length] at this)
    obtain ⟨P, hPe⟩ : ∃ P, P = (s.size : Int) + x := ⟨_, rfl⟩
    rw [← hPe] at HP hend
    by_cases hm : P < -400
    · have hb : Fl.bits s.data.toList x = 0 := Fl.bits_small hr hne (by rw [bs_length]; omega)
      rw [hb] at hZ; rw [← hZ] at hw0
      have HW0 := Lib.hid hw0
      clear hne hb hr hend hP hw0 hwi hp hZ hPe h0
      go_enter Tryz.func21, Tryz.ntmps21
      go_wp2_with (first
        | (go_at_call 46; (with_reducible refine (HP.out _).mono ?_); rintro e w1 ⟨rfl, hb1⟩; have hB1 : Below w.heap.size w w1 := hb0.trans (hb1.mono (by simp)); obtain ⟨y0, y1, y2, yl⟩ := dd0.on hb1)
        | (go_at_call 47; (with_reducible refine (HW0.out _).mono ?_); rintro e w' ⟨rfl, rfl⟩))
      go_ret
      exact RetB.of rfl hB1
    · have hm2 : 400 < P := by omega
      have hb : Fl.bits s.data.toList x = 9218868437227405312 := Fl.bits_big hr hne (by rw [bs_length]; omega)
      rw [hb] at hZ; rw [← hZ] at hwi
      have HWI := Lib.hid hwi
      clear hne hb hr hend hP hw0 hwi hp hZ hPe h0
      go_enter Tryz.func21, Tryz.ntmps21
      go_wp2_with (first
        | (go_at_call 46; (with_reducible refine (HP.out _).mono ?_); rintro e w1 ⟨rfl, hb1⟩; have hB1 : Below w.heap.size w w1 := hb0.trans (hb1.mono (by simp)); obtain ⟨y0, y1, y2, yl⟩ := dd0.on hb1)
        | (go_at_call 47; (with_reducible refine (HWI.out _).mono ?_); rintro e w' ⟨rfl, rfl⟩))
      go_ret
      exact RetB.of rfl hB1
end Go.Proofs.YtiglekomfgfilaaGreatDoor

/- The reference: a right decimal's bits, the two long ways. -/
namespace Go.Proofs.YtiglekomfgfilaaGreatDoor
set_option maxRecDepth 100000
set_option maxHeartbeats 4000000
set_option linter.all false
open Go.RowKit
theorem DecB.drewn {W : World} {b : Nat} {n : Bool} {s : ByteArray} {x : Int} (h : DecB W b n s x) : DecB W.drew b n s x := h.on ((Below.refl _ _).drew)
theorem r8_bits_whole (n : Bool) (s : ByteArray) (X : Nat) (w : World) (hr : Dc.right s.data.toList X = true) (h0 : s.size ≠ 0) (hend : (s.size : Int) + X ≤ 400) :
    Calls Tryz.prog 21 #[.agg #[.bool n, .string s, .int .i64 X]] w (RetB (.int .u64 ((Fl.wsign n + Fl.bits s.data.toList X : Nat) : Int)) w) := by
  obtain ⟨hp, hs, hx1, hx2⟩ := r8_point_facts hr
  have hP := fun w => r7_point_any n s X w (by omega)
  rw [hp] at hP
  have hb0 : Below w.heap.size w (w.alloc (Obj.cells #[Value.bool n, Value.string s, Value.int IntKind.i64 X] 27)) := (Below.refl _ _).alloc (Nat.le_refl _) _
  have dd0 := DecB.new w n s X
  have hdig := Dc.right_dig hr
  have hD := fun w => r8_digits_any s w (by omega) hdig
  have hN := Dc.nv_lt hdig
  rw [bs_length] at hN
  have hbits := Fl.bits_whole (l := s.data.toList) (x := (X : Int)) (by omega)
  rw [Int.toNat_natCast] at hbits
  obtain ⟨N, hNe⟩ : ∃ N, N = Dc.nv s.data.toList := ⟨_, rfl⟩
  rw [← hNe] at hD hN hbits
  have hl1 : (Na.limbs N).length ≤ 400 := by have := Na.len_tens hN; omega
  have hT := fun w => r8_ten_any X w (by omega)
  obtain ⟨T, hTe⟩ : ∃ T, T = 10 ^ X := ⟨_, rfl⟩
  rw [← hTe] at hT hbits
  have hl2 : (Na.limbs T).length ≤ 401 := by have := Na.len_tens (x := T) (k := X + 1) (by rw [hTe]; exact Nat.pow_lt_pow_right (by decide) (by omega)); omega
  have hM := fun wr a1 c1 a2 c2 (s1 : Sl wr a1 c1 (Na.limbs N)) (s2 : Sl wr a2 c2 (Na.limbs T)) => r1_times_any a1 c1 (Na.limbs N) a2 c2 (Na.limbs T) wr s1 s2 (by omega) (by omega)
  rw [Na.val_limbs, Na.val_limbs] at hM
  have hl3 : (Na.limbs (N * T)).length ≤ 5000 := by
    have h1 := Na.val_lt (Na.limbs N) (Na.ok_limbs N)
    have h2 := Na.val_lt (Na.limbs T) (Na.ok_limbs T)
    rw [Na.val_limbs] at h1 h2
    have h3 := Na.len_prod h1 h2
    omega
  obtain ⟨M, hMe⟩ : ∃ M, M = N * T := ⟨_, rfl⟩
  rw [← hMe] at hM hbits hl3
  have hR := fun wr a c (sl : Sl wr a c (Na.limbs M)) (z : a = none → c = 0) => r3_round_any n a c M 0 false wr sl z hl3 (by omega)
  obtain ⟨Z, hZ⟩ : ∃ Z, Z = Fl.wsign n + Fl.bits s.data.toList X := ⟨_, rfl⟩
  have hR2 : ∀ wr a c, Sl wr a c (Na.limbs M) → (a = none → c = 0) → Calls Tryz.prog 49 #[.bool n, .slice a (Na.limbs M).length c, .int .i64 0, .bool false] wr (RetB (.int .u64 (Z : Int)) wr) := fun wr a c sl z => by
    rw [hZ, ← hbits]; exact hR wr a c sl z
  rw [← hZ]
  obtain ⟨P, hPe⟩ : ∃ P, P = (s.size : Int) + X := ⟨_, rfl⟩
  rw [← hPe] at hP hend
  have hPm : decide (P < -400) = false := decide_eq_false (by omega)
  have hPm2 : decide (400 < P) = false := decide_eq_false (by omega)
  have hz : ((s.size : Int) == 0) = false := by simp only [beq_eq_false_iff_ne, ne_eq]; omega
  have HP := Lib.hid hP; have HDG := Lib.hid hD; have HT := Lib.hid hT; have HM := Lib.hid hM; have HR := Lib.hid hR2
  clear hr h0 hend hP hp hPe hZ hR hR2 hM hMe hl3 hl2 hl1 hT hTe hD hNe hN hbits hdig
  go_enter Tryz.func21, Tryz.ntmps21
  go_upto_region 8 with (first
    | (go_at_call 46; (with_reducible refine (HP.out _).mono ?_); rintro e w1 ⟨rfl, hb1⟩; have hB1 : Below w.heap.size w w1 := hb0.trans (hb1.mono (by simp)); have dd1 := dd0.on hb1; obtain ⟨y0, y1, y2, yl⟩ := id dd1)
    | (go_at_call 48; (with_reducible refine (HDG.out _).mono ?_); rintro e w2 ⟨a2, c2, rfl, s2, z2, hb2⟩; have hB2 : Below w.heap.size w w2 := hB1.trans (hb2.mono hB1.size); have dd2 := dd1.on hb2; obtain ⟨u0, u1, u2, ul⟩ := id dd2))
  go_region_with (first
    | (go_at_call 51; (with_reducible refine (HT.out _).mono ?_); rintro e w3 ⟨a3, c3, rfl, s3, z3, -, hb3⟩; have hB3 : Below w.heap.size w w3 := Below.trans (by (repeat (first | exact Below.refl _ _ | assumption | refine Below.setCell ?_ (by first | omega | (simp <;> omega)) _ | refine Below.alloc ?_ (by first | omega | (simp <;> omega)) _ | refine Below.drew ?_ | refine below_drewN' ?_ _))) (hb3.mono (by have := hB2.size; (try simp only [size_drew', World.size_alloc]); omega)); have dd3 := (dd2.drewn).on hb3; obtain ⟨v0, v1, v2, vl⟩ := id dd3)
    | (go_at_call 50; (with_reducible refine (HM.out _ _ _ _ _ ?_ s3).mono ?_); exact (s2.drewn).on hb3; rintro e w4 ⟨a4, c4, rfl, s4, z4, -, hb4⟩; have hB4 : Below w.heap.size w w4 := hB3.trans (hb4.mono hB3.size); have dd4 := dd3.on hb4; obtain ⟨t0, t1, t2, tl⟩ := id dd4)
    | (go_at_call 49; (with_reducible refine (HR.out _ _ _ s4 z4).mono ?_); rintro e w5 ⟨rfl, hb5⟩; have hB5 : Below w.heap.size w w5 := hB4.trans (hb5.mono hB4.size)))
  all_goals (try go_wp2_with fail)
  all_goals (go_ret; exact RetB.of rfl hB5)
end Go.Proofs.YtiglekomfgfilaaGreatDoor

/- The Reader in the program: the slow road, which is exact. -/
namespace Go.Proofs.YtiglekomfgfilaaGreatDoor
set_option maxRecDepth 100000
set_option maxHeartbeats 8000000
set_option linter.all false
open Go.RowKit
theorem Fl.isD_dig : Na.isD = Dc.isDig := by
  funext c
  show (decide (48 ≤ c.toNat) && decide (c.toNat ≤ 57)) = (decide (48 ≤ (c.toNat : Int)) && decide ((c.toNat : Int) ≤ 57))
  rw [show decide (48 ≤ c.toNat) = decide (48 ≤ (c.toNat : Int)) from decide_eq_decide.2 (by omega), show decide (c.toNat ≤ 57) = decide ((c.toNat : Int) ≤ 57) from decide_eq_decide.2 (by omega)]
theorem Fl.parse_nv {l : Dc.Bs} (hd : Dc.allDig l = true) (hne : l ≠ []) (h : Fl.Mid (Dc.nv l)) : Na.parse l = (Na.limbs (Dc.nv l), 0) := by
  have e : Na.num l = Dc.nv l := rfl
  have hd' : l.all Na.isD = true := by rw [Fl.isD_dig]; exact hd
  rw [Na.parse, if_neg (by rw [hd']; rintro (h | h); exact hne h; cases h), e, Na.fits, if_neg (by unfold Fl.Mid at h; omega)]
theorem fl_round_lim (neg : Bool) (a : Option Addr) (c M : Nat) (e : Int) (more : Bool) (w : World) (h : Sl w a c (Na.limbs M)) (hM : Na.bitLen M ≤ 8192) (he : -10000 ≤ e ∧ e ≤ 0) (hl : e + Na.bitLen M ≤ 1900) :
    Calls Tryz.prog 156 #[.bool neg, .slice a (Na.limbs M).length c, .int .i64 e, .bool more] w (RetB (.int .u64 ((Fl.sgn neg + Fl.rd M e more : Nat) : Int)) w) := by
  have hm := Fl.mid_bl hM
  have h32 : (32 : Int) * (Na.limbs M).length ≤ (Na.bitLen M : Int) + 31 := by
    by_cases h0 : M = 0
    · subst h0; rw [Na.limbs_zero]; simp; omega
    · have h1 := (Fl.bitLen_ge h0).2.1
      have h2 := Na.limbs_len_le M ((Na.bitLen M + 31) / 32) (by
        rw [show Na.B = 2 ^ 32 from rfl, ← Nat.pow_mul]
        exact Nat.lt_of_lt_of_le h1 (Nat.pow_le_pow_right (by decide) (by omega)))
      omega
  have := fl_round_any neg a c (Na.limbs M) e more w h (by unfold Fl.Mid at hm; omega) (by omega) (by rw [Na.val_limbs]; omega)
  rw [Na.val_limbs] at this
  exact this
theorem re_slow_up (n : Bool) (s : ByteArray) (X : Nat) (w : World) (hr : Dc.right s.data.toList X = true) (h0 : s.size ≠ 0) (hend : (s.size : Int) + X ≤ 310) :
    Calls Tryz.prog 126 #[.agg #[.bool n, .string s, .int .i64 X]] w (RetB (.int .u64 ((Fl.bits s.data.toList X : Nat) : Int)) w) := by
  obtain ⟨hp, hs, hx1, hx2⟩ := r8_point_facts hr
  have hb0 : Below w.heap.size w (w.alloc (Obj.cells #[Value.bool n, Value.string s, Value.int IntKind.i64 X] 27)) := (Below.refl _ _).alloc (Nat.le_refl _) _
  have dd0 := DecB.new w n s X
  have hdig := Dc.right_dig hr
  have hne : s.data.toList ≠ [] := fun e => h0 (by have := congrArg List.length e; rwa [bs_length] at this)
  have hN := Dc.nv_lt hdig
  rw [bs_length] at hN
  have hNm : Fl.Mid (Dc.nv s.data.toList) := Fl.mid_le (Nat.le_of_lt hN) (Fl.ten_mid (by omega))
  have hparse := fun w => na_parse_any s w (by omega)
  rw [Fl.parse_nv hdig hne hNm] at hparse
  have hbits := Fl.bits_whole (l := s.data.toList) (x := (X : Int)) (by omega)
  rw [Int.toNat_natCast] at hbits
  obtain ⟨N, hNe⟩ : ∃ N, N = Dc.nv s.data.toList := ⟨_, rfl⟩
  rw [← hNe] at hparse hN hbits hNm
  have hpow := fun w => na_pow_any 10 (X : Int) w (by omega) (by omega)
  rw [Fl.pow_ten (by omega)] at hpow
  have hTm := Fl.ten_mid (show X ≤ 2000 by omega)
  have hNT : N * 10 ^ X < 10 ^ (s.size + X) := by rw [Nat.pow_add]; exact Nat.mul_lt_mul_of_pos_right hN (Nat.pow_pos (by decide))
  have hlen : Na.bitLen (N * 10 ^ X) ≤ 1300 := by
    have h1 : N * 10 ^ X < 2 ^ (4 * (s.size + X)) := Nat.lt_of_lt_of_le hNT (Fl.ten_two _)
    exact Nat.le_trans (Fl.bitLen_lt h1) (by omega)
  obtain ⟨T, hTe⟩ : ∃ T, T = 10 ^ X := ⟨_, rfl⟩
  rw [← hTe] at hpow hbits hTm hlen
  have hM := fun wr a1 c1 a2 c2 (s1 : Sl wr a1 c1 (Na.limbs N)) (s2 : Sl wr a2 c2 (Na.limbs T)) => na_mul_any a1 c1 (Na.limbs N) a2 c2 (Na.limbs T) wr s1 s2 (by unfold Fl.Mid at hNm; omega) (by unfold Fl.Mid at hTm; omega)
  rw [Fl.mul_mid hNm hTm (Fl.mid_bl (by omega))] at hM
  have hR := fun wr a c (sl : Sl wr a c (Na.limbs (N * T))) => fl_round_lim false a c (N * T) 0 false wr sl (by omega) (by omega) (by omega)
  rw [hbits, show Fl.sgn false = 0 from rfl, Nat.zero_add] at hR
  obtain ⟨M, hMe⟩ : ∃ M, M = N * T := ⟨_, rfl⟩
  rw [← hMe] at hM hR
  obtain ⟨Z, hZ⟩ : ∃ Z, Z = Fl.bits s.data.toList X := ⟨_, rfl⟩
  rw [← hZ] at hR ⊢
  have HP := Lib.hid hparse; have HT := Lib.hid hpow; have HM := Lib.hid hM; have HR := Lib.hid hR
  clear hparse hpow hM hR hr hend hp hZ hMe hlen hNT hTm hTe hNm hNe hN hbits hdig hne
  go_enter Tryz.func126, Tryz.ntmps126
  go_wp2_with (first
    | (go_at_call 155; (with_reducible refine (HP.out _).mono ?_); rintro e w1 ⟨a1, c1, rfl, s1, -, hb1⟩; have hB1 : Below w.heap.size w w1 := hb0.trans (hb1.mono (by simp)); have dd1 := dd0.on hb1; obtain ⟨y0, y1, y2, yl⟩ := id dd1)
    | (go_at_call 92; (with_reducible refine (HT.out _).mono ?_); rintro e w2 ⟨a2, c2, rfl, s2, -, hb2⟩; have hB2 : Below w.heap.size w w2 := hB1.trans (hb2.mono hB1.size); have s12 := s1.on hb2)
    | (go_at_call 93; (with_reducible refine (HM.out _ _ _ _ _ s12 s2).mono ?_); rintro e w3 ⟨a3, c3, rfl, s3, -, hb3⟩; have hB3 : Below w.heap.size w w3 := hB2.trans (hb3.mono hB2.size))
    | (go_at_call 156; (with_reducible refine (HR.out _ _ _ s3).mono ?_); rintro e w4 ⟨rfl, hb4⟩; have hB4 : Below w.heap.size w w4 := hB3.trans (hb4.mono hB3.size)))
  go_ret
  exact RetB.of rfl (by (repeat (first | exact Below.refl _ _ | assumption | refine Below.setCell ?_ (by first | omega | (simp <;> omega)) _ | refine Below.alloc ?_ (by first | omega | (simp <;> omega)) _ | refine Below.drew ?_ | refine below_drewN' ?_ _)))
theorem re_slow_down (n : Bool) (s : ByteArray) (x : Int) (X k : Nat) (w : World) (hxX : -x = (X : Int)) (hr : Dc.right s.data.toList x = true) (h0 : s.size ≠ 0) (hend : -330 ≤ (s.size : Int) + x ∧ (s.size : Int) + x ≤ 310) (hX : 0 < X)
    (hk : (k : Int) = max 0 ((Na.bitLen (10 ^ X) : Int) - Na.bitLen (Dc.nv s.data.toList) + 66)) :
    Calls Tryz.prog 126 #[.agg #[.bool n, .string s, .int .i64 x]] w (RetB (.int .u64 ((Fl.bits s.data.toList x : Nat) : Int)) w) := by
  obtain ⟨hp, hs, hx1, hx2⟩ := r8_point_facts hr
  have hb0 : Below w.heap.size w (w.alloc (Obj.cells #[Value.bool n, Value.string s, Value.int IntKind.i64 x] 27)) := (Below.refl _ _).alloc (Nat.le_refl _) _
  have dd0 := DecB.new w n s x
  have hdig := Dc.right_dig hr
  have hne : s.data.toList ≠ [] := fun e => h0 (by have := congrArg List.length e; rwa [bs_length] at this)
  have hN0 := Nat.lt_of_lt_of_le (Nat.pow_pos (by decide)) (Dc.nv_first hdig hne (Dc.right_head hr hne))
  have hN := Dc.nv_lt hdig
  rw [bs_length] at hN
  have hNm : Fl.Mid (Dc.nv s.data.toList) := Fl.mid_le (Nat.le_of_lt hN) (Fl.ten_mid (by omega))
  have hparse := fun w => na_parse_any s w (by omega)
  rw [Fl.parse_nv hdig hne hNm] at hparse
  have hbits := fun hq => Fl.bits_quot (l := s.data.toList) (x := x) (k := k) (by omega) (by omega) hN0 hq
  rw [hxX, Int.toNat_natCast] at hbits
  obtain ⟨N, hNe⟩ : ∃ N, N = Dc.nv s.data.toList := ⟨_, rfl⟩
  rw [← hNe] at hparse hN hbits hNm hk hN0
  have hNl : Na.bitLen N ≤ 4401 := by
    have h1 : N < 2 ^ (4 * s.size) := Nat.lt_of_lt_of_le hN (Fl.ten_two _)
    exact Nat.le_trans (Fl.bitLen_lt h1) (by omega)
  have hpow := fun w => na_pow_any 10 (X : Int) w (by omega) (by omega)
  rw [Fl.pow_ten (by omega)] at hpow
  have hTm := Fl.ten_mid (show X ≤ 2000 by omega)
  have hTl := Fl.ten_len X
  have hT0 := Fl.ten_ne X
  obtain ⟨T, hTe⟩ : ∃ T, T = 10 ^ X := ⟨_, rfl⟩
  rw [← hTe] at hpow hbits hTm hTl hT0 hk
  have hbits := hbits (by omega)
  have hlt := fun wr a1 c1 (s1 : Sl wr a1 c1 (Na.limbs T)) => na_len_any a1 c1 (Na.limbs T) wr s1 (by unfold Fl.Mid at hTm; omega)
  have hln := fun wr a1 c1 (s1 : Sl wr a1 c1 (Na.limbs N)) => na_len_any a1 c1 (Na.limbs N) wr s1 (by unfold Fl.Mid at hNm; omega)
  rw [Na.val_limbs] at hlt hln
  obtain ⟨LT, hLT⟩ : ∃ L, L = Na.bitLen T := ⟨_, rfl⟩
  obtain ⟨LN, hLN⟩ : ∃ L, L = Na.bitLen N := ⟨_, rfl⟩
  rw [← hLT] at hlt hk hTl
  rw [← hLN] at hln hk hNl
  have hsum : Na.bitLen N + k ≤ 8192 := by omega
  have hshl := fun wr a1 c1 (s1 : Sl wr a1 c1 (Na.limbs N)) => na_shl_any a1 c1 (Na.limbs N) (k : Int) wr s1 (by unfold Fl.Mid at hNm; omega) (by omega)
  rw [Fl.shl_mid (by omega) hsum] at hshl
  have hUl : Na.bitLen (N * 2 ^ k) ≤ Na.bitLen N + k := Fl.bitLen_lt (Fl.bitLen_mul_pow (by omega))
  obtain ⟨U, hU⟩ : ∃ U, U = N * 2 ^ k := ⟨_, rfl⟩
  rw [← hU] at hshl hbits hUl
  have hUm : Fl.Mid U := Fl.mid_bl (by omega)
  have hdiv := fun wr a1 c1 a2 c2 (s1 : Sl wr a1 c1 (Na.limbs U)) (s2 : Sl wr a2 c2 (Na.limbs T)) => na_divmod_any a1 c1 (Na.limbs U) a2 c2 (Na.limbs T) wr s1 s2 (by unfold Fl.Mid at hUm; omega) (by unfold Fl.Mid at hTm; omega)
  rw [Fl.div_mid hUm hTm hT0] at hdiv
  have hQl : Na.bitLen (U / T) ≤ Na.bitLen U := by
    by_cases hU0 : U = 0
    · rw [hU0, Nat.zero_div]; exact Nat.le_refl _
    · exact Fl.bitLen_lt (Nat.lt_of_le_of_lt (Nat.div_le_self _ _) (Fl.bitLen_ge hU0).2.1)
  have hQl2 : -(k : Int) + Na.bitLen (U / T) ≤ 1900 := by
    have hlt : U / T < 2 ^ (4 * Fl.n310 + k) := by rw [hU, hTe]; exact Fl.quot_small hN (by unfold Fl.n310; omega)
    have h2 := Fl.bitLen_lt hlt
    have h3 : Fl.n310 = 310 := rfl
    omega
  have hR := fun wr a c (sl : Sl wr a c (Na.limbs (U / T))) => fl_round_lim false a c (U / T) (-(k : Int)) (decide (U % T ≠ 0)) wr sl (by omega) (by omega) (by omega)
  rw [hbits, show Fl.sgn false = 0 from rfl, Nat.zero_add] at hR
  have hlr : decide ((0 : Int) < ((Na.limbs (U % T)).length : Int)) = decide (U % T ≠ 0) := by
    apply decide_eq_decide.2
    by_cases h : U % T = 0
    · rw [h, Na.limbs_zero]; simp
    · have h1 : Na.limbs (U % T) ≠ [] := fun e => h (Na.limbs_nil.1 e)
      have h2 := List.length_pos_iff.2 h1
      omega
  obtain ⟨Q, hQ⟩ : ∃ Q, Q = U / T := ⟨_, rfl⟩
  obtain ⟨R, hRe⟩ : ∃ Q, Q = U % T := ⟨_, rfl⟩
  rw [← hQ, ← hRe] at hdiv
  rw [← hQ, ← hRe] at hR
  rw [← hRe] at hlr
  obtain ⟨rn, hrn⟩ : ∃ r, r = decide (R ≠ 0) := ⟨_, rfl⟩
  rw [← hrn] at hR hlr
  obtain ⟨Z, hZ⟩ : ∃ Z, Z = Fl.bits s.data.toList x := ⟨_, rfl⟩
  rw [← hZ] at hR ⊢
  have HP := Lib.hid hparse; have HT := Lib.hid hpow; have HR := Lib.hid hR; have HLT := Lib.hid hlt; have HLN := Lib.hid hln; have HSH := Lib.hid hshl; have HDV := Lib.hid hdiv
  have hlr2 : decide (0 < (Na.limbs R).length) = rn := by rw [← hlr]; apply decide_eq_decide.2; omega
  have hx0 : x < 0 := by omega
  have hkm : max (0 : Int) ((LT : Int) - (LN : Int) + 66) = (k : Int) := hk.symm
  have hLTb : LT ≤ 8192 := by omega
  have hLNb : LN ≤ 8192 := by omega
  clear hparse hpow hR hlt hln hshl hdiv hr hend hp hZ hQl hQl2 hQ hRe hrn hUm hUl hU hsum hLT hLN hTe hT0 hTl hTm hNm hNe hN hN0 hNl hbits hdig hne hk
  go_enter Tryz.func126, Tryz.ntmps126
  go_wp2_with (first
    | (go_at_call 155; (with_reducible refine (HP.out _).mono ?_); rintro e w1 ⟨a1, c1, rfl, s1, -, hb1⟩; have hB1 : Below w.heap.size w w1 := hb0.trans (hb1.mono (by simp)); have dd1 := dd0.on hb1; obtain ⟨y0, y1, y2, yl⟩ := id dd1)
    | (go_at_call 92; (with_reducible refine (HT.out _).mono ?_); rintro e w2 ⟨a2, c2, rfl, s2, -, hb2⟩; have hB2 : Below w.heap.size w w2 := hB1.trans (hb2.mono hB1.size); have s12 := s1.on hb2)
    | (go_at_call 114; (with_reducible refine (HLT.out _ _ _ s2).mono ?_); rintro e w' ⟨rfl, rfl⟩)
    | (go_at_call 114; (with_reducible refine (HLN.out _ _ _ s12).mono ?_); rintro e w' ⟨rfl, rfl⟩)
    | (go_at_call 90; (with_reducible refine (HSH.out _ _ _ s12).mono ?_); rintro e w3 ⟨a3, c3, rfl, s3, -, hb3⟩; have hB3 : Below w.heap.size w w3 := hB2.trans (hb3.mono hB2.size); have s23 := s2.on hb3)
    | (go_at_call 157; (with_reducible refine (HDV.out _ _ _ _ _ s3 s23).mono ?_); rintro e w4 ⟨a4, c4, a5, c5, rfl, s4, -, -, -, hb4⟩; have hB4 : Below w.heap.size w w4 := hB3.trans (hb4.mono hB3.size))
    | (go_at_call 156; (with_reducible refine (HR.out _ _ _ s4).mono ?_); rintro e w5 ⟨rfl, hb5⟩; have hB5 : Below w.heap.size w w5 := hB4.trans (hb5.mono hB4.size)))
  go_ret
  exact RetB.of rfl (by (repeat (first | exact Below.refl _ _ | assumption | refine Below.setCell ?_ (by first | omega | (simp <;> omega)) _ | refine Below.alloc ?_ (by first | omega | (simp <;> omega)) _ | refine Below.drew ?_ | refine below_drewN' ?_ _)))
end Go.Proofs.YtiglekomfgfilaaGreatDoor

/- A Reader in memory: one block of 801 slots of seven cells; each slot is untouched, or holds its power. -/
namespace Go.Proofs.YtiglekomfgfilaaGreatDoor
set_option linter.all false
open Go.RowKit
theorem Onl.of {g : Nat} {w w' : World} (hg : g < w.heap.size) (hb : Below w.heap.size w w') : Onl g w w' := ⟨hb.mono (Nat.le_of_lt hg), fun _ _ h => hb.block _ h⟩
theorem Onl.size {g : Nat} {w w' : World} (h : Onl g w w') : w.heap.size ≤ w'.heap.size := h.below.size
theorem Onl.cell {g k o : Nat} {w w' : World} (h : Onl g w w') (hk : k ≠ g) (hl : k < w.heap.size) : w'.cell? ⟨k, o, none⟩ = w.cell? ⟨k, o, none⟩ := World.cell?_of_block (h.block k hk hl)
theorem Onl.frozen {g k o : Nat} {w w' : World} (h : Onl g w w') (hk : k ≠ g) (hl : k < w.heap.size) : w'.frozen? ⟨k, o, none⟩ = w.frozen? ⟨k, o, none⟩ := World.frozen?_of_block (h.block k hk hl)
def slotAt (n : Int) : Nat := 7 * (n + 400).toNat
structure Turn (b o : Nat) (w w' : World) : Prop where
  onl : Onl b w w'
  cell : ∀ o', o' < o ∨ o + 7 ≤ o' → w'.cell? ⟨b, o', none⟩ = w.cell? ⟨b, o', none⟩
  frozen : ∀ o', w'.frozen? ⟨b, o', none⟩ = w.frozen? ⟨b, o', none⟩
theorem Turn.refl (b o : Nat) (w : World) : Turn b o w w := ⟨Onl.refl _ _, fun _ _ => rfl, fun _ => rfl⟩
theorem Turn.trans {b o : Nat} {x y z : World} (h : Turn b o x y) (k : Turn b o y z) : Turn b o x z :=
  ⟨h.onl.trans k.onl, fun o' ho => (k.cell o' ho).trans (h.cell o' ho), fun o' => (k.frozen o').trans (h.frozen o')⟩
theorem Turn.of {b o : Nat} {w w' : World} (hl : b < w.heap.size) (hb : Below w.heap.size w w') : Turn b o w w' :=
  ⟨Onl.of hl hb, fun _ _ => hb.cell (p := ⟨b, _, none⟩) hl, fun _ => hb.frozen (p := ⟨b, _, none⟩) hl⟩
theorem Turn.setCell {b o j : Nat} {w w' : World} (h : Turn b o w w') (hj : o ≤ j ∧ j < o + 7) (u : Value) : Turn b o w (w'.setCell ⟨b, j, none⟩ u) :=
  ⟨h.onl.setCell j u, fun o' ho => (World.cell?_setCell_other _ ⟨b, j, none⟩ ⟨b, o', none⟩ _ (by intro e; injection e; omega)).trans (h.cell o' ho), fun o' => (World.frozen?_setCell ..).trans (h.frozen o')⟩
theorem Turn.drew {b o : Nat} {w w' : World} (h : Turn b o w w') : Turn b o w w'.drew := ⟨⟨h.onl.below.drew, h.onl.block⟩, h.cell, h.frozen⟩
structure Slot0 (w : World) (b o : Nat) : Prop where
  done : w.cell? ⟨b, o, none⟩ = some (.int .u32 0)
  lock : w.cell? ⟨b, o + 1, none⟩ = some (.int .i32 0)
  hi : w.cell? ⟨b, o + 3, none⟩ = some (.int .u64 0)
  lo : w.cell? ⟨b, o + 4, none⟩ = some (.int .u64 0)
  e : w.cell? ⟨b, o + 5, none⟩ = some (.int .i64 0)
  all : w.cell? ⟨b, o + 6, none⟩ = some (.bool false)
structure Slot1 (w : World) (b o : Nat) (n : Int) : Prop where
  done : w.cell? ⟨b, o, none⟩ = some (.int .u32 1)
  hi : w.cell? ⟨b, o + 3, none⟩ = some (.int .u64 ((Fl.pwP n / 18446744073709551616 : Nat) : Int))
  lo : w.cell? ⟨b, o + 4, none⟩ = some (.int .u64 ((Fl.pwP n % 18446744073709551616 : Nat) : Int))
  e : w.cell? ⟨b, o + 5, none⟩ = some (.int .i64 (Fl.pwE n))
  all : w.cell? ⟨b, o + 6, none⟩ = some (.bool (Fl.pwA n))
theorem Slot0.far {w w' : World} {b o k : Nat} (h : Slot0 w b o) (t : Turn b k w w') (hk : o + 7 ≤ k ∨ k + 7 ≤ o) : Slot0 w' b o :=
  ⟨(t.cell _ (by omega)).trans h.done, (t.cell _ (by omega)).trans h.lock, (t.cell _ (by omega)).trans h.hi, (t.cell _ (by omega)).trans h.lo, (t.cell _ (by omega)).trans h.e, (t.cell _ (by omega)).trans h.all⟩
theorem Slot1.far {w w' : World} {b o k : Nat} {n : Int} (h : Slot1 w b o n) (t : Turn b k w w') (hk : o + 7 ≤ k ∨ k + 7 ≤ o) : Slot1 w' b o n :=
  ⟨(t.cell _ (by omega)).trans h.done, (t.cell _ (by omega)).trans h.hi, (t.cell _ (by omega)).trans h.lo, (t.cell _ (by omega)).trans h.e, (t.cell _ (by omega)).trans h.all⟩
theorem Slot0.on {w w' : World} {b o : Nat} (h : Slot0 w b o) (hl : b < w.heap.size) (hb : Below w.heap.size w w') : Slot0 w' b o :=
  ⟨(hb.cell (p := ⟨b, _, none⟩) hl).trans h.done, (hb.cell (p := ⟨b, _, none⟩) hl).trans h.lock, (hb.cell (p := ⟨b, _, none⟩) hl).trans h.hi, (hb.cell (p := ⟨b, _, none⟩) hl).trans h.lo, (hb.cell (p := ⟨b, _, none⟩) hl).trans h.e, (hb.cell (p := ⟨b, _, none⟩) hl).trans h.all⟩
theorem Slot1.on {w w' : World} {b o : Nat} {n : Int} (h : Slot1 w b o n) (hl : b < w.heap.size) (hb : Below w.heap.size w w') : Slot1 w' b o n :=
  ⟨(hb.cell (p := ⟨b, _, none⟩) hl).trans h.done, (hb.cell (p := ⟨b, _, none⟩) hl).trans h.hi, (hb.cell (p := ⟨b, _, none⟩) hl).trans h.lo, (hb.cell (p := ⟨b, _, none⟩) hl).trans h.e, (hb.cell (p := ⟨b, _, none⟩) hl).trans h.all⟩
structure Rdr (w : World) (b : Nat) : Prop where
  lt : b < w.heap.size
  free : ∀ o, w.frozen? ⟨b, o, none⟩ = false
  slot : ∀ n : Int, -400 ≤ n → n ≤ 400 → Slot0 w b (slotAt n) ∨ Slot1 w b (slotAt n) n
theorem Rdr.on {w w' : World} {b : Nat} (h : Rdr w b) (hb : Below w.heap.size w w') : Rdr w' b :=
  ⟨Nat.lt_of_lt_of_le h.lt hb.size, fun o => (hb.frozen (p := ⟨b, o, none⟩) h.lt).trans (h.free o), fun n h1 h2 => (h.slot n h1 h2).imp (fun s => s.on h.lt hb) (fun s => s.on h.lt hb)⟩
theorem slot_far {n m : Int} (hn : -400 ≤ n) (hm : -400 ≤ m) (h : n ≠ m) : slotAt m + 7 ≤ slotAt n ∨ slotAt n + 7 ≤ slotAt m := by unfold slotAt; omega
theorem Rdr.turn {w w' : World} {b : Nat} {n : Int} (h : Rdr w b) (hn : -400 ≤ n) (t : Turn b (slotAt n) w w') (hs : Slot1 w' b (slotAt n) n) : Rdr w' b := by
  refine ⟨Nat.lt_of_lt_of_le h.lt t.onl.size, fun o => (t.frozen o).trans (h.free o), fun m h1 h2 => ?_⟩
  by_cases e : n = m
  · subst e; exact Or.inr hs
  · exact (h.slot m h1 h2).imp (fun s => s.far t (slot_far hn h1 e)) (fun s => s.far t (slot_far hn h1 e))
def RetR (b : Nat) (v : Value) (w : World) (e : Ending) (w' : World) : Prop := e = .returned v ∧ Onl b w w' ∧ Rdr w' b
theorem Rdr.onl {w w' : World} {b : Nat} (hb : Below w.heap.size w w') (hr : Rdr w b) : Onl b w w' := Onl.of hr.lt hb
end Go.Proofs.YtiglekomfgfilaaGreatDoor

/- sync.Once in one goroutine: the lock free, nobody waiting: the parts. -/
namespace Go.Proofs.YtiglekomfgfilaaGreatDoor
set_option maxRecDepth 100000
set_option maxHeartbeats 1600000
set_option linter.all false
open Go.RowKit
theorem on_disable (w : World) : (callFunc 227 #[]).run Tryz.prog w = .ok (.value (.tuple #[])) w := run_call_mark0 Tryz.func227 (by kernel_rfl) (by kernel_rfl) (by kernel_rfl) .disable (by kernel_rfl) w
theorem on_enable (w : World) : (callFunc 229 #[]).run Tryz.prog w = .ok (.value (.tuple #[])) w := run_call_mark0 Tryz.func229 (by kernel_rfl) (by kernel_rfl) (by kernel_rfl) .enable (by kernel_rfl) w
theorem on_acquire (a : Addr) (w : World) : (callFunc 230 #[.pointer (some a)]).run Tryz.prog w = .ok (.value (.tuple #[])) w := run_call_marked Tryz.func230 (by kernel_rfl) (by kernel_rfl) (by kernel_rfl) .acquire (by kernel_rfl) a w
theorem on_releaseMerge (a : Addr) (w : World) : (callFunc 232 #[.pointer (some a)]).run Tryz.prog w = .ok (.value (.tuple #[])) w := run_call_marked Tryz.func232 (by kernel_rfl) (by kernel_rfl) (by kernel_rfl) .releaseMerge (by kernel_rfl) a w
theorem on_store (a : Addr) (x : Value) (u : FrameMode) (w : World) (hc : w.cell? a = some x) (hz : w.frozen? a = false) :
    CallsD Tryz.prog 220 #[.pointer (some a), .bool true] u w fun e u' w' => u' = u ∧ (e = .returned (.tuple #[]) ∧ w' = w.drew.setCell a (.int .u32 1)) := by
  have hc' : w.drew.cell? a = some x := by go_simp
  have hz' : w.drew.frozen? a = false := by go_simp
  have hst := run_call_store (P := Tryz.prog) Tryz.func224 (by kernel_rfl) (by kernel_rfl) (by kernel_rfl) (by kernel_rfl) (k := .u32) (y := 1) hc' hz'
  go_enter_d Tryz.func220, Tryz.ntmps220
  go_wp2
  go_region_calls
  all_goals (go_end0; exact ⟨rfl, rfl⟩)
theorem on_unlock (a : Addr) (u : FrameMode) (w : World) (hc : w.cell? a = some (.int .i32 1)) (hz : w.frozen? a = false) :
    CallsD Tryz.prog 219 #[.pointer (some a)] u w fun e u' w' => u' = u ∧ (e = .returned (.tuple #[]) ∧ w' = w.setCell a (.int .i32 0)) := by
  have hd := on_disable
  have he := on_enable
  have hr := on_releaseMerge
  have hadd := run_call_add (P := Tryz.prog) Tryz.func233 (by kernel_rfl) (by kernel_rfl) (by kernel_rfl) .i32 (by kernel_rfl) (y := -1) (s := 0) hc hz (by simp [go_sem]; rfl)
  have hcv := run_convert_to_unsafe (P := Tryz.prog) (src := 256) (dst := 192) Tryz.underlying256 Tryz.underlying192 (by kernel_rfl) hc
  go_enter_d Tryz.func219, Tryz.ntmps219
  go_wp2
  go_end0
  go_wp2
  go_end0
  exact ⟨rfl, rfl⟩
theorem on_lock (a : Addr) (w : World) (hc : w.cell? a = some (.int .i32 0)) (hz : w.frozen? a = false) :
    Calls Tryz.prog 218 #[.pointer (some a)] w fun e w' => e = .returned (.tuple #[]) ∧ w' = w.setCell a (.int .i32 1) := by
  have hd := on_disable
  have he := on_enable
  have ha := on_acquire
  have hcas := run_call_cas_hit (P := Tryz.prog) Tryz.func228 (by kernel_rfl) (by kernel_rfl) (by kernel_rfl) .i32 (by kernel_rfl) (y := 1) hc hz
  have hc' : (w.setCell a (.int .i32 1)).cell? a = some (.int .i32 1) := World.cell?_setCell_same w a _ hc
  have hcv := run_convert_to_unsafe (P := Tryz.prog) (src := 256) (dst := 192) Tryz.underlying256 Tryz.underlying192 (by kernel_rfl) hc'
  go_enter Tryz.func218, Tryz.ntmps218
  go_wp2
  first | go_end0 | (simp only [Exit.inBlock, Exit.then]; refine bodyPost_ret (results_none rfl _ _ _) rfl ?_) | refine bodyPost_ret (results_none rfl _ _ _) rfl ?_
  go_wp2
  go_end0
  exact ⟨rfl, rfl⟩
theorem on_load (a : Addr) (x : Nat) (b : Bool) (w : World) (hc : w.cell? a = some (.int .u32 x)) (hb : ((x : Int) != 0) = b) :
    Calls Tryz.prog 204 #[.pointer (some a)] w (Ret0 (.bool b) w) := by
  have hl := run_call_load (P := Tryz.prog) Tryz.func217 (by kernel_rfl) (by kernel_rfl) (by kernel_rfl) .u32 (by kernel_rfl) (w := w) (a := a) (x := x) hc
  go_enter Tryz.func204, Tryz.ntmps204
  go_wp2
  go_ret
  exact Ret0.of rfl
theorem on_slow (b o F : Nat) (caps : Array Value) (w : World) (Q : World → Prop) (h0 : w.cell? ⟨b, o, none⟩ = some (.int .u32 0)) (h1 : w.cell? ⟨b, o + 1, none⟩ = some (.int .i32 0)) (hf : ∀ o, w.frozen? ⟨b, o, none⟩ = false)
    (hF : F = 183)
    (HF : Calls Tryz.prog 183 caps (w.setCell ⟨b, o + 1, none⟩ (.int .i32 1)) fun e w' => e = .returned (.tuple #[]) ∧ Q w' ∧ w'.cell? ⟨b, o, none⟩ = some (.int .u32 0) ∧ w'.cell? ⟨b, o + 1, none⟩ = some (.int .i32 1) ∧ ∀ o, w'.frozen? ⟨b, o, none⟩ = false) :
    Calls Tryz.prog 205 #[.pointer (some ⟨b, o, none⟩), .func (.func 183) #[] caps] w fun e w' => e = .returned (.tuple #[]) ∧ ∃ w2, Q w2 ∧ w' = (w2.drew.setCell ⟨b, o, none⟩ (.int .u32 1)).setCell ⟨b, o + 1, none⟩ (.int .i32 0) := by
  have hld := on_load ⟨b, o, none⟩ 0 false (w.setCell ⟨b, o + 1, none⟩ (.int .i32 1)) ((World.cell?_setCell_other _ ⟨b, o + 1, none⟩ ⟨b, o, none⟩ _ (by simp)).trans h0) rfl
  have HLD := Lib.hid hld
  clear hld
  have f1 := hf (o + 1)
  have HFF := Lib.hid HF
  clear HF
  go_enter_defers Tryz.func205, Tryz.ntmps205
  go_wp2_with (go_at_call 218; refine (on_lock ⟨b, o + 1, none⟩ _ (by go_simp) (by go_simp)).mono ?_; rintro e w' ⟨rfl, rfl⟩)
  go_wp2_with (first | (go_at_call 204; refine (HLD.out).mono ?_; rintro e w' ⟨rfl, rfl⟩) | (go_at_call 183; refine (HFF.out).mono ?_; rintro e w2 ⟨rfl, hq, d0, d1, df⟩))
  trace_state
  -- the two deferred calls, the last laid first
  refine leaves_cons (f := 220) (args := #[.pointer (some ⟨b, o, none⟩), .bool true]) (by simp) (by simp [go_sem]) ?_
  refine (on_store ⟨b, o, none⟩ (.int .u32 0) .returning _ d0 (df _)).mono ?_
  rintro e u' w'' ⟨rfl, rfl, rfl⟩
  refine leaves_cons (f := 219) (args := #[.pointer (some ⟨b, o + 1, none⟩)]) (by simp [settle]) (by simp [go_sem]) ?_
  refine (on_unlock ⟨b, o + 1, none⟩ _ _ ?_ ?_).mono ?_
  · refine (World.cell?_setCell_other _ ⟨b, o, none⟩ ⟨b, o + 1, none⟩ _ (by simp)).trans ?_
    rw [World.cell?_drew]; exact d1
  · rw [World.frozen?_setCell]; exact df _
  rintro e u' w'' ⟨rfl, rfl, rfl⟩
  simp [Leaves, settle, results, Tryz.results205]
  exact ⟨w2, hq, rfl⟩
end Go.Proofs.YtiglekomfgfilaaGreatDoor
