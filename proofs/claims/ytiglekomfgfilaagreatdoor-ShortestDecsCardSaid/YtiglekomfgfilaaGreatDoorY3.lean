/- Plain Lean: bits of numbers, as the walks meet them. -/
import Derived.Test.YtiglekomfgfilaaGreatDoorY1
import Derived.Laws.Bits64b
import Derived.Lib.BitFns
import Derived.Test.YtiglekomfgfilaaGreatDoorY2
import Derived.Deep.QuietTactic
import Derived.BigQuiet
namespace Go.Proofs.YtiglekomfgfilaaGreatDoor.Na
set_option linter.all false
open Go
theorem wrap_u64 (n : Nat) (h : n < 18446744073709551616) : IntKind.u64.wrap (n : Int) = (n : Int) := by
  rw [IntKind.wrap_u64]; omega
theorem or_shift (V x m : Nat) (h1 : V < 2 ^ m) (h2 : V + x * 2 ^ m < 18446744073709551616) : bits BinOp.or IntKind.u64 (V : Int) (IntKind.u64.wrap ((x : Int) * 2 ^ m)) = ((V + x * 2 ^ m : Nat) : Int) := by
  have e : ((x : Int) * 2 ^ m) = ((x * 2 ^ m : Nat) : Int) := by simp
  rw [e, wrap_u64 _ (by omega), bits_or_u64_nat _ _ (by omega) (by omega)]
  congr 1
  have := Nat.two_pow_add_eq_or_of_lt h1 x
  rw [Nat.or_comm, Nat.mul_comm x, ← this]; omega
theorem log2_add (r m x : Nat) (hr : r < 2 ^ m) (hx : x ≠ 0) : Nat.log2 (r + 2 ^ m * x) = m + Nat.log2 x := by
  have h0 : 0 < 2 ^ m := Nat.pow_pos (by omega)
  have hp : 0 < 2 ^ m * x := Nat.mul_pos h0 (by omega)
  rw [Nat.log2_eq_iff (by omega)]
  constructor
  · have := Nat.mul_le_mul_left (2 ^ m) (Nat.log2_self_le hx)
    rw [Nat.pow_add]; omega
  · have h1 : x + 1 ≤ 2 ^ (Nat.log2 x + 1) := Nat.lt_log2_self
    have h2 := Nat.mul_le_mul_left (2 ^ m) h1
    rw [Nat.mul_add, Nat.mul_one] at h2
    rw [show m + Nat.log2 x + 1 = m + (Nat.log2 x + 1) by omega, Nat.pow_add]; omega
theorem libBitLen (x : Nat) : x ≠ 0 → x < 2 ^ 64 → Lib.bitLen x = Nat.log2 x + 1 := by
  induction x using Nat.strongRecOn with
  | _ x ih =>
    intro h0 h
    rw [Lib.bitLen_half x h0 h]
    by_cases h1 : x / 2 = 0
    · have : x = 1 := by omega
      subst this; rfl
    · rw [ih (x / 2) (by omega) h1 (by omega), Nat.log2_def x, if_pos (by omega)]; omega
theorem bitLen_at (l q : List Nat) (hq : q = cut l) (n : Nat) (hn : q.length = n + 1) : bitLen (val l) = 32 * n + Lib.bitLen (q[n]'(by omega)) := by
  have hne : q ≠ [] := by intro e; rw [e] at hn; simp at hn
  have hv : val q = val l := by rw [hq, val_cut]
  have hok : OK q := by rw [hq]; exact ok_cut l
  have hl : q[n]'(by omega) ≠ 0 := by
    have := limbs_last (val l) (by show cut l ≠ []; rw [← hq]; exact hne)
    rw [List.getLast_eq_getElem] at this
    have e : limbs (val l) = q := hq.symm
    simp only [e] at this
    simpa [hn] using this
  have h1 := val_take_succ q n (by omega)
  rw [List.take_of_length_le (by omega), hv] at h1
  have h2 := val_lt (q.take n) (ok_take hok n)
  rw [List.length_take, show min n q.length = n by omega, show B ^ n = 2 ^ (32 * n) by rw [Nat.pow_mul]] at h2
  have hx := hok _ (List.getElem_mem (show n < q.length by omega))
  rw [show B ^ n = 2 ^ (32 * n) by rw [Nat.pow_mul]] at h1
  have hpos : val l ≠ 0 := fun e => hne (by rw [hq]; exact (cut_nil_iff l).2 e)
  rw [bitLen, if_neg hpos, h1, log2_add _ _ _ h2 hl, libBitLen _ hl (Nat.lt_trans hx (by decide))]
  omega
theorem bits_and_u32 (a b : Nat) (ha : a < 4294967296) (hb : b < 4294967296) : bits .and .u32 (a : Int) (b : Int) = ((a &&& b : Nat) : Int) ∧ a &&& b < 4294967296 := by
  have hx : a &&& b < 2 ^ 32 := Nat.and_lt_two_pow _ (by omega)
  have h1 : (BitVec.ofInt 32 (a : Int)).toNat = a := by
    rw [BitVec.ofInt_natCast, BitVec.toNat_ofNat]; exact Nat.mod_eq_of_lt (by omega)
  have h2 : (BitVec.ofInt 32 (b : Int)).toNat = b := by
    rw [BitVec.ofInt_natCast, BitVec.toNat_ofNat]; exact Nat.mod_eq_of_lt (by omega)
  refine ⟨?_, by omega⟩
  show IntKind.u32.wrap ((BitVec.ofInt 32 (a : Int) &&& BitVec.ofInt 32 (b : Int)).toNat : Int) = _
  rw [BitVec.toNat_and, h1, h2, IntKind.wrap_u32]
  omega
theorem bits_or_u32 (a b : Nat) (ha : a < 4294967296) (hb : b < 4294967296) : bits .or .u32 (a : Int) (b : Int) = ((a ||| b : Nat) : Int) ∧ a ||| b < 4294967296 := by
  have hx : a ||| b < 2 ^ 32 := Nat.or_lt_two_pow (by omega) (by omega)
  have h1 : (BitVec.ofInt 32 (a : Int)).toNat = a := by
    rw [BitVec.ofInt_natCast, BitVec.toNat_ofNat]; exact Nat.mod_eq_of_lt (by omega)
  have h2 : (BitVec.ofInt 32 (b : Int)).toNat = b := by
    rw [BitVec.ofInt_natCast, BitVec.toNat_ofNat]; exact Nat.mod_eq_of_lt (by omega)
  refine ⟨?_, by omega⟩
  show IntKind.u32.wrap ((BitVec.ofInt 32 (a : Int) ||| BitVec.ofInt 32 (b : Int)).toNat : Int) = _
  rw [BitVec.toNat_or, h1, h2, IntKind.wrap_u32]
  omega
theorem set_take (o : List Nat) (k v : Nat) (hk : k < o.length) : (o.set k v).take (k + 1) = o.take k ++ [v] := by
  rw [List.take_succ_eq_append_getElem (by rw [List.length_set]; exact hk), List.getElem_set_self, List.take_set_of_le (Nat.le_refl _)]
theorem val_set_take (o : List Nat) (k v : Nat) (hk : k < o.length) : val ((o.set k v).take (k + 1)) = val (o.take k) + B ^ k * v := by
  rw [set_take o k v hk, val_app, List.length_take, show min k o.length = k by omega]; simp [val]
theorem take_more (Q : List Nat) (k : Nat) (h : Q.length ≤ k) : val (Q.take (k + 1)) = val (Q.take k) + B ^ k * 0 := by
  rw [List.take_of_length_le h, List.take_of_length_le (by omega)]; simp
theorem split_digit (b s : Nat) : b * (s % B) + b * B * (s / B) = b * s := by
  rw [Nat.mul_assoc, ← Nat.mul_add, Nat.mod_add_div]
theorem add_step (o P Q : List Nat) (k x y cc : Nat) (hk : k < o.length) (inv : val (o.take k) + B ^ k * cc = val (P.take k) + val (Q.take k)) (hP : val (P.take (k + 1)) = val (P.take k) + B ^ k * x)
    (hQ : val (Q.take (k + 1)) = val (Q.take k) + B ^ k * y) : val ((o.set k ((x + y + cc) % 4294967296)).take (k + 1)) + B ^ (k + 1) * ((x + y + cc) / 4294967296) = val (P.take (k + 1)) + val (Q.take (k + 1)) := by
  have h1 := split_digit (B ^ k) (x + y + cc)
  rw [val_set_take o k _ hk, hP, hQ, Nat.pow_succ]
  rw [Nat.mul_add, Nat.mul_add] at h1
  simp only [B] at h1 inv ⊢
  omega
theorem ok_set_take (o : List Nat) (k v : Nat) (hk : k < o.length) (h : OK (o.take k)) (hv : v < 4294967296) : OK ((o.set k v).take (k + 1)) := by
  rw [set_take o k v hk]
  intro x hx
  rcases List.mem_append.1 hx with hx | hx
  · exact h x hx
  · rw [List.mem_singleton.1 hx]; exact hv
end Go.Proofs.YtiglekomfgfilaaGreatDoor.Na

/- Of, Value, Len. -/
namespace Go.Proofs.YtiglekomfgfilaaGreatDoor
set_option maxRecDepth 100000
set_option maxHeartbeats 400000
set_option linter.all false
open Go.RowKit
theorem GivesB.up {l : List Nat} {w w1 w' : World} {e : Ending} (h : GivesB l w1 e w') (hb : Below w.heap.size w w1) : GivesB l w e w' := by
  obtain ⟨g, rfl, hg, hk, hb'⟩ := h
  have := hb.size
  exact ⟨g, rfl, by omega, hk, hb.trans (hb'.mono (by omega))⟩
theorem na_of_any (v : Nat) (hv : v < 18446744073709551616) (w : World) :
    Calls Tryz.prog 65 #[.int .u64 v] w (GivesB (Na.limbs v) w) := by
  have hok : Na.OK [v % 4294967296, v / 4294967296] := fun x hx => by
    simp only [List.mem_cons, List.not_mem_nil, or_false] at hx
    show x < 4294967296
    omega
  have hval : Na.cut [v % 4294967296, v / 4294967296] = Na.limbs v := by
    rw [Na.cut]; congr 1
    simp only [Na.val, Na.B]; omega
  have h0 : Blk (w.alloc (Obj.cells #[Value.int IntKind.u32 ((v : Int) % 4294967296), Value.int IntKind.u32 ((v : Int) / 4294967296)] 81)) w.heap.size [v % 4294967296, v / 4294967296] := by
    show (w.heap.push _)[w.heap.size]? = _; simp [u32s]
  have H1 := Lib.hid (show Calls Tryz.prog 96 #[.slice (some ⟨w.heap.size, 0, none⟩) 2 2] (w.alloc (Obj.cells #[Value.int IntKind.u32 ((v : Int) % 4294967296), Value.int IntKind.u32 ((v : Int) / 4294967296)] 81)) (GivesB (Na.limbs v) (w.alloc (Obj.cells #[Value.int IntKind.u32 ((v : Int) % 4294967296), Value.int IntKind.u32 ((v : Int) / 4294967296)] 81))) from hval ▸ na_trim_any _ _ _ _ (h0.sl hok (Nat.le_refl _)) (by simp))
  have hB : Below w.heap.size w (w.alloc (Obj.cells #[Value.int IntKind.u32 ((v : Int) % 4294967296), Value.int IntKind.u32 ((v : Int) / 4294967296)] 81)) := (Below.refl _ _).alloc (Nat.le_refl _) _
  clear h0 hok hval
  go_enter Tryz.func65, Tryz.ntmps65
  go_wp2_with (first | (go_at_call 96; (with_reducible refine (H1.out).mono ?_); intro e w1 hg; obtain ⟨g, rfl, hg1, hk1, hb1⟩ := GivesB.up hg hB))
  go_ret
  exact ⟨g, rfl, hg1, hk1, hb1⟩
theorem na_len_any (a : Option Addr) (c : Nat) (l : List Nat) (w : World) (h : Sl w a c l) (hn : l.length ≤ 1000000) :
    Calls Tryz.prog 114 #[.slice a l.length c] w (Ret0 (.int .i64 (Na.bitLen (Na.val l) : Nat)) w) := by
  have H1 := Lib.hid (na_cut_any a c l w h hn)
  have hle := (Na.rt_le h.ok).1
  have hc := h.cut
  obtain ⟨q, hq⟩ : ∃ q, q = Na.cut l := ⟨_, rfl⟩
  have hnil := Na.cut_nil_iff l
  replace hle : q.length ≤ l.length := by rw [hq]; exact hle
  rw [← hq] at hc H1 hnil
  have HQ := Lib.hid hq; clear hq
  obtain ⟨n, hqn⟩ : ∃ n, n = q.length := ⟨_, rfl⟩
  rw [← hqn] at H1
  cases n with
  | zero =>
    have hz : Na.val l = 0 := hnil.1 (List.eq_nil_of_length_eq_zero hqn.symm)
    have e1 := Lib.hid (show Na.bitLen (Na.val l) = 0 by rw [hz]; rfl)
    clear hqn hz hle hc
    go_enter Tryz.func114, Tryz.ntmps114
    go_wp2_with (first | (go_at_call 115; (with_reducible refine (H1.out).mono ?_); rintro e w' ⟨rfl, rfl⟩))
    go_ret
    exact Ret0.of (by rw [e1.out]; rfl)
  | succ n =>
    have e1 := Lib.hid (Na.bitLen_at l q HQ.out n hqn.symm)
    obtain ⟨b, o, rfl, hb, hcell⟩ := hc.plain (by omega)
    have c1 := hcell n (by omega)
    have hx := hc.lt n (by omega)
    obtain ⟨x, hxx⟩ : ∃ x, q[n]'(by omega) = x := ⟨_, rfl⟩
    rw [hxx] at c1 hx e1
    have hk : Lib.bitLen x ≤ 32 := Lib.bitLen_le x 32 (by omega) hx
    have H2 := Lib.hid (Tryz.bits_Len32 (x : Int) w (by omega) (by omega))
    have hs : n ≤ 1000000 := by omega
    clear hcell hxx hqn hc
    go_enter Tryz.func114, Tryz.ntmps114
    go_wp2_with (first | (go_at_call 115; (with_reducible refine (H1.out).mono ?_); rintro e w' ⟨rfl, rfl⟩) | (go_at_call 136; (with_reducible refine (H2.out).mono ?_); rintro e w' ⟨rfl, rfl⟩))
    go_ret
    exact Ret0.of (by rw [e1.out]; simp)
end Go.Proofs.YtiglekomfgfilaaGreatDoor

/- Cmp. -/
namespace Go.Proofs.YtiglekomfgfilaaGreatDoor
set_option maxRecDepth 100000
set_option maxHeartbeats 1000000
set_option linter.all false
open Go.RowKit
theorem Na.cmp_lt {a b : List Nat} (h : Na.val a < Na.val b) : Na.cmp a b = -1 := if_pos h
theorem Na.cmp_gt {a b : List Nat} (h : Na.val b < Na.val a) : Na.cmp a b = 1 := by rw [Na.cmp, if_neg (by omega), if_pos h]
theorem Na.cmp_eq {a b : List Nat} (h : Na.val a = Na.val b) : Na.cmp a b = 0 := by rw [Na.cmp, if_neg (by omega), if_neg (by omega)]
theorem na_cmp_any (a : Option Addr) (c : Nat) (l : List Nat) (b : Option Addr) (d : Nat) (m : List Nat) (w : World) (h : Sl w a c l) (h' : Sl w b d m) (hn : l.length ≤ 1000000) (hm : m.length ≤ 1000000) :
    Calls Tryz.prog 188 #[.slice a l.length c, .slice b m.length d] w (RetB (.int .i64 (Na.cmp l m)) w) := by
  have H1 := Lib.hid (na_cut_any a c l w h hn)
  have H2 := Lib.hid (na_cut_any b d m w h' hm)
  have hl1 : (Na.cut l).length ≤ 1000000 := Nat.le_trans (Na.rt_le h.ok).1 hn
  have hl2 : (Na.cut m).length ≤ 1000000 := Nat.le_trans (Na.rt_le h'.ok).1 hm
  have S1 := h.cut
  have S2 := h'.cut
  have hlt : (Na.cut l).length < (Na.cut m).length → Na.val l < Na.val m := Na.lt_of_rt h.ok h'.ok
  have hgt : (Na.cut m).length < (Na.cut l).length → Na.val m < Na.val l := Na.lt_of_rt h'.ok h.ok
  have v1 := Na.val_cut (a := l)
  have v2 := Na.val_cut (a := m)
  obtain ⟨q, hq⟩ : ∃ q, q = Na.cut l := ⟨_, rfl⟩
  obtain ⟨r, hr⟩ : ∃ r, r = Na.cut m := ⟨_, rfl⟩
  rw [← hq] at H1 hl1 S1 hlt hgt v1
  rw [← hr] at H2 hl2 S2 hlt hgt v2
  clear hq hr
  obtain ⟨n, hqn⟩ : ∃ n, q.length = n := ⟨_, rfl⟩
  obtain ⟨k, hrk⟩ : ∃ k, r.length = k := ⟨_, rfl⟩
  rw [hqn] at H1 hl1 hlt hgt
  rw [hrk] at H2 hl2 hlt hgt
  by_cases hnk : n = k
  · subst hnk
    clear hlt hgt
    have b0 : ((n : Int) != n) = false := by simp
    have HQ := Lib.hid hqn; have HR := Lib.hid hrk; have V1 := Lib.hid v1; have V2 := Lib.hid v2
    clear hqn hrk v1 v2
    go_enter Tryz.func188, Tryz.ntmps188
    go_wp2_with (first | (go_at_call 115; (with_reducible refine (H1.out).mono ?_); rintro e w' ⟨rfl, rfl⟩) | (go_at_call 115; (with_reducible refine (H2.out).mono ?_); rintro e w' ⟨rfl, rfl⟩))
    go_loopw [23] (fun i wr => ∃ j : Nat, j ≤ n ∧ i = .int .i64 j ∧ q.drop (n - j) = r.drop (n - j) ∧ Below w.heap.size w wr) (fun i _ => n - (intOf i).toNat)
    case atStart => exact ⟨0, Nat.zero_le _, rfl, by rw [Nat.sub_zero, List.drop_of_length_le (by have := HQ.out; omega), List.drop_of_length_le (by have := HR.out; omega)], Below.refl _ _⟩
    case round =>
      obtain ⟨j, hj, rfl, hd, hbw⟩ := hrel
      have HD := Lib.hid hd; have HB := Lib.hid hbw; clear hd hbw
      by_cases hlt : j < n
      · obtain ⟨t, rfl⟩ : ∃ t, n = j + 1 + t := ⟨n - (j + 1), by omega⟩
        have e1 : j + 1 + t - j = t + 1 := by omega
        have e2 : j + 1 + t - (j + 1) = t := by omega
        obtain ⟨b1, o1, rfl, hb1, hc1⟩ := (S1.on HB.out).plain (by have := HQ.out; omega)
        obtain ⟨b2, o2, rfl, hb2, hc2⟩ := (S2.on HB.out).plain (by have := HR.out; omega)
        have hq1 : t < q.length := by have := HQ.out; omega
        have hr1 : t < r.length := by have := HR.out; omega
        have c1 := hc1 t hq1
        have c2 := hc2 t hr1
        have HE := Lib.hid (show q.drop (t + 1) = r.drop (t + 1) by rw [← e1]; exact HD.out)
        have G1 := Lib.hid (Na.cmp_at S1.ok S2.ok (by have := HQ.out; have := HR.out; omega) t hq1 hr1 HE.out)
        have G2 := Lib.hid (Na.cmp_at S2.ok S1.ok (by have := HQ.out; have := HR.out; omega) t hr1 hq1 HE.out.symm)
        have E2 := Lib.hid e2
        clear e1 e2
        obtain ⟨x, hx⟩ : ∃ x, q[t]'hq1 = x := ⟨_, rfl⟩
        obtain ⟨y, hy⟩ : ∃ y, r[t]'hr1 = y := ⟨_, rfl⟩
        have EQ := Lib.hid (show x = y → q.drop (j + 1 + t - (j + 1)) = r.drop (j + 1 + t - (j + 1)) from fun e => by rw [E2.out, List.drop_eq_getElem_cons hq1, List.drop_eq_getElem_cons hr1, hx, hy, e, HE.out])
        rw [hx] at c1 G1 G2; rw [hy] at c2 G1 G2
        clear hx hy hc1 hc2 HD
        by_cases hxy : x < y
        · have e := Lib.hid (Na.cmp_lt (a := l) (b := m) (by rw [← V1.out, ← V2.out]; exact G1.out hxy))
          go_wp2_with fail
          go_quiet (fail)
          go_wp2_with fail
          go_ret
          exact RetB.of (by rw [e.out]; rfl) (below_drewN' HB.out _)
        · by_cases hyx : y < x
          · have e := Lib.hid (Na.cmp_gt (a := l) (b := m) (by rw [← V1.out, ← V2.out]; exact G2.out hyx))
            go_wp2_with fail
            go_quiet (fail)
            go_wp2_with fail
            go_quiet (fail)
            go_wp2_with fail
            go_ret
            exact RetB.of (by rw [e.out]; rfl) (below_drewN' (below_drewN' HB.out _) _)
          · obtain rfl : x = y := by omega
            have EQ2 := Lib.hid (EQ.out rfl)
            clear EQ
            go_wp2_with fail
            go_quiet (fail)
            go_wp2_with fail
            go_quiet (fail)
            go_wp2_with fail
            go_roundw
            case rel => exact ⟨j + 1, by omega, by go_num, EQ2.out, below_drewN' HB.out _⟩
            case measure => simp [intOf]; omega
      · obtain rfl : j = n := by omega
        have e := Lib.hid (Na.cmp_eq (a := l) (b := m) (by rw [← V1.out, ← V2.out]; have := HD.out; rw [Nat.sub_self, List.drop_zero, List.drop_zero] at this; rw [this]))
        go_wp2_with fail
        go_ret
        exact RetB.of (by rw [e.out]; rfl) HB.out
  · by_cases hlk : n < k
    · have e := Lib.hid (Na.cmp_lt (hlt hlk))
      have b0 : ((n : Int) != k) = true := by simp; omega
      clear hlt hgt hqn hrk v1 v2
      go_enter Tryz.func188, Tryz.ntmps188
      go_wp2_with (first | (go_at_call 115; (with_reducible refine (H1.out).mono ?_); rintro e w' ⟨rfl, rfl⟩) | (go_at_call 115; (with_reducible refine (H2.out).mono ?_); rintro e w' ⟨rfl, rfl⟩))
      go_ret
      exact RetB.of (by rw [e.out]; rfl) (Below.refl _ _)
    · have e := Lib.hid (Na.cmp_gt (hgt (by omega)))
      have b0 : ((n : Int) != k) = true := by simp; omega
      clear hlt hgt hqn hrk v1 v2
      go_enter Tryz.func188, Tryz.ntmps188
      go_wp2_with (first | (go_at_call 115; (with_reducible refine (H1.out).mono ?_); rintro e w' ⟨rfl, rfl⟩) | (go_at_call 115; (with_reducible refine (H2.out).mono ?_); rintro e w' ⟨rfl, rfl⟩))
      go_ret
      exact RetB.of (by rw [e.out]; rfl) (Below.refl _ _)
end Go.Proofs.YtiglekomfgfilaaGreatDoor

/- over, fits, Add32, Sub32. -/
namespace Go.Proofs.YtiglekomfgfilaaGreatDoor
set_option maxRecDepth 100000
set_option maxHeartbeats 400000
set_option linter.all false
open Go.RowKit
structure Arg where
  a : Option Addr
  c : Nat
  l : List Nat
def Args (w : World) (g : Nat) (L : List Arg) : Prop := ∀ k (h : k < L.length), w.cell? ⟨g, k, none⟩ = some (.slice L[k].a L[k].l.length L[k].c) ∧ Sl w L[k].a L[k].c L[k].l ∧ L[k].l.length ≤ 1000000
theorem na_over_any (L : List Arg) (g : Nat) (w : World) (h : Args w g L) (hl : L.length ≤ 2) :
    Calls Tryz.prog 112 #[.slice (some ⟨g, 0, none⟩) L.length L.length] w (Ret0 (.bool (L.any fun x => Na.big x.l)) w) := by
  have HA := Lib.hid h; clear h
  go_enter Tryz.func112, Tryz.ntmps112
  go_wp2_with fail
  go_loop [7] (fun i => ∃ k : Nat, k ≤ L.length ∧ i = .int .i64 k ∧ ((L.take k).any fun x => Na.big x.l) = false) (fun i => L.length - (intOf i).toNat)
  case atStart => exact ⟨0, Nat.zero_le _, rfl, rfl⟩
  case round =>
    obtain ⟨k, hk, rfl, hb⟩ := hrel
    have HB := Lib.hid hb; clear hb
    by_cases hlt : k < L.length
    · obtain ⟨c1, s1, n1⟩ := HA.out k hlt
      have HT := Lib.hid (show ((L.take (k + 1)).any fun x => Na.big x.l) = Na.big L[k].l by rw [List.take_succ_eq_append_getElem hlt, List.any_append, HB.out]; simp)
      have HX := Lib.hid (show Na.big L[k].l = true → (L.any fun x => Na.big x.l) = true from fun e => List.any_eq_true.2 ⟨L[k], List.getElem_mem hlt, e⟩)
      obtain ⟨x, hx⟩ : ∃ x, L[k] = x := ⟨_, rfl⟩
      rw [hx] at c1 s1 n1 HT HX
      clear hx
      have H1 := Lib.hid (na_right_any x.a x.c x.l w s1 n1)
      by_cases hbig : 256 < Na.rt x.l
      · have e := Lib.hid (HX.out (decide_eq_true hbig))
        clear HX HT
        go_wp2_with (first | (go_at_call 113; (with_reducible refine (H1.out).mono ?_); rintro e w' ⟨rfl, rfl⟩))
        go_ret
        exact Ret0.of (by rw [e.out]; rfl)
      · have e := Lib.hid (HT.out.trans (decide_eq_false hbig))
        clear HX HT
        replace hbig : Na.rt x.l ≤ 256 := by omega
        go_wp2_with (first | (go_at_call 113; (with_reducible refine (H1.out).mono ?_); rintro e w' ⟨rfl, rfl⟩))
        go_round
        case rel => exact ⟨k + 1, by omega, by go_num, e.out⟩
        case measure => simp [intOf]; omega
    · have e := Lib.hid (show (L.any fun x => Na.big x.l) = false by have := HB.out; rwa [List.take_of_length_le (by omega)] at this)
      go_wp2_with fail
      go_ret
      exact Ret0.of (by rw [e.out]; rfl)
def FitsR (a : Option Addr) (l : List Nat) (w : World) (e : Ending) (w' : World) : Prop := w = w' ∧ ∃ a' c', e = .returned (.tuple #[.slice a' (Na.fits (Na.val l)).1.length c', .int .i64 (Na.fits (Na.val l)).2]) ∧ Sl w a' c' (Na.fits (Na.val l)).1 ∧ (a' = a ∨ (Na.fits (Na.val l)).1 = [])
theorem na_fits_any (a : Option Addr) (c : Nat) (l : List Nat) (w : World) (h : Sl w a c l) (hn : l.length ≤ 1000000) :
    Calls Tryz.prog 117 #[.slice a l.length c] w (FitsR a l w) := by
  have H1 := Lib.hid (na_cut_any a c l w h hn)
  have hc := Lib.hid h.cut
  by_cases h2 : 256 < (Na.cut l).length
  · have e1 := Lib.hid (show Na.fits (Na.val l) = ([], 2) from if_pos h2)
    go_enter Tryz.func117, Tryz.ntmps117
    go_wp2_with (first | (go_at_call 115; (with_reducible refine (H1.out).mono ?_); rintro e w' ⟨rfl, rfl⟩))
    refine bodyPost_ret (v := .tuple #[.slice none 0 0, .int .i64 2]) (by simp [results, Tryz.results117, go_sem]) rfl ⟨rfl, none, 0, ?_, ?_, Or.inr ?_⟩ <;> rw [e1.out]
    · rfl
    · exact Sl.nil _ _ _
  · have e1 := Lib.hid (show Na.fits (Na.val l) = (Na.cut l, 0) from if_neg h2)
    replace h2 : (Na.cut l).length ≤ 256 := by omega
    go_enter Tryz.func117, Tryz.ntmps117
    go_wp2_with (first | (go_at_call 115; (with_reducible refine (H1.out).mono ?_); rintro e w' ⟨rfl, rfl⟩))
    refine bodyPost_ret (v := .tuple #[.slice a (Na.cut l).length c, .int .i64 0]) (by simp [results, Tryz.results117, go_sem]) rfl ⟨rfl, a, c, ?_, ?_, Or.inl rfl⟩ <;> rw [e1.out]
    exact hc.out
theorem add32_any (x y c : Nat) (hx : x < 4294967296) (hy : y < 4294967296) (hc : c < 4294967296) (w : World) :
    Calls Tryz.prog 207 #[.int .u32 x, .int .u32 y, .int .u32 c] w (Ret0 (.tuple #[.int .u32 ((x + y + c) % 4294967296 : Nat), .int .u32 ((x + y + c) / 4294967296 : Nat)]) w) := by
  go_enter Tryz.func207, Tryz.ntmps207
  go_wp2
  refine bodyPost_ret (v := .tuple #[.int .u32 ((x + y + c) % 4294967296 : Nat), .int .u32 ((x + y + c) / 4294967296 : Nat)]) (by simp [results, Tryz.results207, go_sem]) rfl ⟨rfl, rfl⟩
end Go.Proofs.YtiglekomfgfilaaGreatDoor

/- Add. -/
namespace Go.Proofs.YtiglekomfgfilaaGreatDoor
set_option maxRecDepth 100000
set_option maxHeartbeats 2000000
set_option linter.all false
open Go.RowKit
theorem Na.not_big {l m : List Nat} (h : (Na.big l || Na.big m) = false) : (Na.cut l).length ≤ 256 ∧ (Na.cut m).length ≤ 256 := by
  obtain ⟨h1, h2⟩ := Bool.or_eq_false_iff.1 h
  exact ⟨Nat.le_of_not_lt (of_decide_eq_false h1), Nat.le_of_not_lt (of_decide_eq_false h2)⟩
theorem args2 {w : World} {a b : Option Addr} {c d : Nat} {l m : List Nat} (h : Sl w a c l) (h' : Sl w b d m) (hn : l.length ≤ 1000000) (hm : m.length ≤ 1000000) (t : TypeId) :
    Args (w.alloc (Obj.cells #[Value.slice a l.length c, Value.slice b m.length d] t)) w.heap.size [⟨a, c, l⟩, ⟨b, d, m⟩] := by
  have hB : Below w.heap.size w (w.alloc (Obj.cells #[Value.slice a l.length c, Value.slice b m.length d] t)) := (Below.refl _ _).alloc (Nat.le_refl _) _
  have hc : ∀ k v, #[Value.slice a l.length c, Value.slice b m.length d][k]? = some v → (w.alloc (Obj.cells #[Value.slice a l.length c, Value.slice b m.length d] t)).cell? ⟨w.heap.size, k, none⟩ = some v := fun k v hv => by
    show (match (w.heap.push _)[w.heap.size]? with | some (.cells c _ _) => if (none : Option Nat).isSome then none else c[k]? | _ => none) = some v
    simp [hv]
  intro k hk
  match k, hk with
  | 0, _ => exact ⟨hc 0 _ rfl, h.on hB, hn⟩
  | 1, _ => exact ⟨hc 1 _ rfl, h'.on hB, hm⟩
theorem na_over2_any {w : World} {a b : Option Addr} {c d : Nat} {l m : List Nat} (h : Sl w a c l) (h' : Sl w b d m) (hn : l.length ≤ 1000000) (hm : m.length ≤ 1000000) (r : Bool) (hr : (Na.big l || Na.big m) = r) :
    Calls Tryz.prog 112 #[.slice (some ⟨w.heap.size, 0, none⟩) 2 2] (w.alloc (Obj.cells #[Value.slice a l.length c, Value.slice b m.length d] 100)) (Ret0 (.bool r) (w.alloc (Obj.cells #[Value.slice a l.length c, Value.slice b m.length d] 100))) := by
  have := na_over_any [⟨a, c, l⟩, ⟨b, d, m⟩] w.heap.size _ (args2 h h' hn hm 100) (Nat.le_refl _)
  have e : ([⟨a, c, l⟩, ⟨b, d, m⟩] : List Arg).any (fun x => Na.big x.l) = r := by rw [← hr]; simp
  rw [e] at this; exact this
theorem FitsR.gives {g : Nat} {l : List Nat} {w w1 w' : World} {e : Ending} (h : FitsR (some ⟨g, 0, none⟩) l w1 e w') (hb : Below w.heap.size w w1) (hg : w.heap.size ≤ g) (hk : Blk w1 g l) : GivesE (Na.fits (Na.val l)) w e w' := by
  obtain ⟨rfl, a', c', rfl, hs, ho⟩ := h
  refine ⟨a', c', rfl, hs, ?_, hb⟩
  rcases ho with rfl | ho
  · exact hk.own hg
  · rw [ho]; exact Own.nil _ _ _
def addLoop (n g : Nat) (P Q : List Nat) (w : World) (cv i : Value) (wr : World) : Prop := ∃ (k cc : Nat) (o : List Nat), k ≤ n ∧ i = .int .i64 k ∧ cv = .int .u32 cc ∧ cc ≤ 1 ∧ Hid (Blk wr g o) ∧ Hid (o.length = n + 1) ∧ Hid (Na.OK (o.take k)) ∧
  Hid (Na.val (o.take k) + Na.B ^ k * cc = Na.val (P.take k) + Na.val (Q.take k)) ∧ Hid (Below w.heap.size w wr)
theorem na_add_big (a : Option Addr) (c : Nat) (l : List Nat) (b : Option Addr) (d : Nat) (m : List Nat) (w : World) (h : Sl w a c l) (h' : Sl w b d m) (hn : l.length ≤ 1000000) (hm : m.length ≤ 1000000) (hbig : (Na.big l || Na.big m) = true) :
    Calls Tryz.prog 187 #[.slice a l.length c, .slice b m.length d] w (GivesE (Na.add l m) w) := by
  have H1 := Lib.hid (na_over2_any h h' hn hm true hbig)
  have e2 := Lib.hid (show Na.add l m = ([], 2) from if_pos hbig)
  have hB : Below w.heap.size w (w.alloc (Obj.cells #[Value.slice a l.length c, Value.slice b m.length d] 100)) := (Below.refl _ _).alloc (Nat.le_refl _) _
  clear hbig
  go_enter Tryz.func187, Tryz.ntmps187
  go_wp2_with (first | (go_at_call 112; (with_reducible refine (H1.out).mono ?_); rintro e w' ⟨rfl, rfl⟩))
  refine bodyPost_ret (v := .tuple #[.slice none 0 0, .int .i64 2]) (by simp [results, Tryz.results187, go_sem]) rfl ⟨none, 0, ?_, ?_, ?_, hB⟩ <;> rw [e2.out]
  · rfl
  · exact Sl.nil _ _ _
  · exact Own.nil _ _ _
theorem na_add_ok (a : Option Addr) (c : Nat) (l : List Nat) (b : Option Addr) (d : Nat) (m : List Nat) (w : World) (h : Sl w a c l) (h' : Sl w b d m) (hn : l.length ≤ 1000000) (hm : m.length ≤ 1000000) (hbig : (Na.big l || Na.big m) = false) :
    Calls Tryz.prog 187 #[.slice a l.length c, .slice b m.length d] w (GivesE (Na.add l m) w) := by
  have H1 := Lib.hid (na_over2_any h h' hn hm false hbig)
  have E2 := Lib.hid (show Na.add l m = Na.fits (Na.val l + Na.val m) from if_neg (by simp [hbig]))
  have hB : Below w.heap.size w (w.alloc (Obj.cells #[Value.slice a l.length c, Value.slice b m.length d] 100)) := (Below.refl _ _).alloc (Nat.le_refl _) _
  have H2 := Lib.hid (na_cut_any a c l _ (h.on hB) hn)
  have H3 := Lib.hid (na_cut_any b d m _ (h'.on hB) hm)
  obtain ⟨hl1, hl2⟩ := Na.not_big hbig
  have S1 := h.cut
  have S2 := h'.cut
  have V1 := Lib.hid (Na.val_cut (a := l))
  have V2 := Lib.hid (Na.val_cut (a := m))
  obtain ⟨q, hq⟩ : ∃ q, q = Na.cut l := ⟨_, rfl⟩
  obtain ⟨r, hr⟩ : ∃ r, r = Na.cut m := ⟨_, rfl⟩
  rw [← hq] at H2 hl1 S1 V1
  rw [← hr] at H3 hl2 S2 V2
  clear hq hr hbig
  obtain ⟨n, hqn⟩ : ∃ n, q.length = n := ⟨_, rfl⟩
  obtain ⟨k', hrk⟩ : ∃ k, r.length = k := ⟨_, rfl⟩
  rw [hqn] at H2 hl1
  rw [hrk] at H3 hl2
  have HQ := Lib.hid hqn; have HR := Lib.hid hrk
  clear hqn hrk
  obtain ⟨ti, hi, hz0, hz1, hz2⟩ := info_parts infoU32
  by_cases hlt : n < k'
  · go_enter Tryz.func187, Tryz.ntmps187
    go_wp2_with (first | (go_at_call 112; (with_reducible refine (H1.out).mono ?_); rintro e w' ⟨rfl, rfl⟩) | (go_at_call 115; (with_reducible refine (H2.out).mono ?_); rintro e w' ⟨rfl, rfl⟩) | (go_at_call 115; (with_reducible refine (H3.out).mono ?_); rintro e w' ⟨rfl, rfl⟩) | (at_make; refine wpList_make_full _ rfl _ _ 100 rfl w.heap.size 81 ti (.int .u32 0) 1 Tryz.underlying100 hi hz0 hz1 .i64 .i64 _ _ (k' + 1) rfl rfl rfl rfl (by rw [hz2]; omega) (by unfold maxLen; omega) (by simp [World.size_alloc]) ?_))
    intro w1 hown hgrow
    have hB1 : Below w.heap.size w w1 := hB.grown hgrow (by simp [World.size_alloc]) (fun k e => by cases e)
    have hK := Lib.hid (Blk.made hown)
    have hHB := Lib.hid hB1
    have hgw : w.heap.size + 1 < w1.heap.size := by
      have := hK.out.lt; simpa [World.size_alloc] using this
    clear hown hgrow hz2 hz1 hz0 hi ti hB hB1
    go_wp2_with fail
    go_loopw [7, 31] (addLoop k' (w.heap.size + 1) r q w) (fun _ i _ => k' - (intOf i).toNat)
    case atStart => exact ⟨0, 0, _, Nat.zero_le _, rfl, rfl, by omega, hK, Lib.hid (by simp), Lib.hid (by intro x hx; cases hx), Lib.hid (by simp [Na.val]), hHB⟩
    case round =>
      obtain ⟨k, cc, o, hk, rfl, rfl, hcc, HBl, HOl, HOk, HInv, HBe⟩ := hrel
      by_cases hlt2 : k < k'
      · have hq1 : k < r.length := by have := HR.out; omega
        obtain ⟨b1, o1, rfl, hb1, hc1⟩ := (S2.on HBe.out).plain (by omega)
        have c1 := hc1 k hq1
        have hx := S2.lt k hq1
        have VP := Lib.hid (Na.val_take_succ r k hq1)
        obtain ⟨x, hxe⟩ : ∃ x, r[k]'hq1 = x := ⟨_, rfl⟩
        rw [hxe] at c1 hx VP
        clear hc1 hxe
        have ho1 : k < o.length := by have := HOl.out; omega
        have co := HBl.out.cell k ho1
        have fo := HBl.out.frozen k
        by_cases hy : k < n
        · have hr1 : k < q.length := by have := HQ.out; omega
          obtain ⟨b2, o2, rfl, hb2, hc2⟩ := (S1.on HBe.out).plain (by omega)
          have c2 := hc2 k hr1
          have hyl := S1.lt k hr1
          have VQ := Lib.hid (Na.val_take_succ q k hr1)
          obtain ⟨y, hye⟩ : ∃ x, q[k]'hr1 = x := ⟨_, rfl⟩
          rw [hye] at c2 hyl VQ
          clear hc2 hye
          have HA32 := Lib.hid (add32_any x y cc hx hyl (by omega) wr)
          have HS := Lib.hid (Na.add_step o r q k x y cc ho1 HInv.out VP.out VQ.out)
          have HO2 := Lib.hid (Na.ok_set_take o k ((x + y + cc) % 4294967296) ho1 HOk.out (by omega))
          have hcc2 : (x + y + cc) / 4294967296 ≤ 1 := by omega
          obtain ⟨v, hv⟩ : ∃ v, v = (x + y + cc) % 4294967296 := ⟨_, rfl⟩
          obtain ⟨cn, hcn⟩ : ∃ v, v = (x + y + cc) / 4294967296 := ⟨_, rfl⟩
          rw [← hv, ← hcn] at HS HA32
          rw [← hv] at HO2
          rw [← hcn] at hcc2
          clear hv hcn
          go_wp2_with (first | (go_at_call 207; (with_reducible refine (HA32.out).mono ?_); rintro e w' ⟨rfl, rfl⟩))
          go_roundw
          case rel => exact ⟨k + 1, cn, o.set k v, by omega, by go_num, rfl, hcc2, Lib.hid (HBl.out.set k v), Lib.hid (by rw [List.length_set]; exact HOl.out), HO2, HS, Lib.hid (by have hbe := HBe.out; (repeat (first | exact Below.refl _ _ | assumption | refine Below.setCell ?_ (by first | omega | (simp <;> omega)) _ | refine Below.alloc ?_ (by first | omega | (simp <;> omega)) _ | refine Below.drew ?_ | refine below_drewN' ?_ _)))⟩
          case measure => simp [intOf]; omega
        · have VQ := Lib.hid (Na.take_more q k (by have := HQ.out; omega))
          have HA32 := Lib.hid (show Calls Tryz.prog 207 #[.int .u32 x, .int .u32 0, .int .u32 cc] wr _ from add32_any x 0 cc hx (by omega) (by omega) wr)
          have HS := Lib.hid (Na.add_step o r q k x 0 cc ho1 HInv.out VP.out VQ.out)
          have HO2 := Lib.hid (Na.ok_set_take o k ((x + 0 + cc) % 4294967296) ho1 HOk.out (by omega))
          have hcc2 : (x + 0 + cc) / 4294967296 ≤ 1 := by omega
          obtain ⟨v, hv⟩ : ∃ v, v = (x + 0 + cc) % 4294967296 := ⟨_, rfl⟩
          obtain ⟨cn, hcn⟩ : ∃ v, v = (x + 0 + cc) / 4294967296 := ⟨_, rfl⟩
          rw [← hv, ← hcn] at HS HA32
          rw [← hv] at HO2
          rw [← hcn] at hcc2
          clear hv hcn
          go_wp2_with (first | (go_at_call 207; (with_reducible refine (HA32.out).mono ?_); rintro e w' ⟨rfl, rfl⟩))
          go_roundw
          case rel => exact ⟨k + 1, cn, o.set k v, by omega, by go_num, rfl, hcc2, Lib.hid (HBl.out.set k v), Lib.hid (by rw [List.length_set]; exact HOl.out), HO2, HS, Lib.hid (by have hbe := HBe.out; (repeat (first | exact Below.refl _ _ | assumption | refine Below.setCell ?_ (by first | omega | (simp <;> omega)) _ | refine Below.alloc ?_ (by first | omega | (simp <;> omega)) _ | refine Below.drew ?_ | refine below_drewN' ?_ _)))⟩
          case measure => simp [intOf]; omega
      · obtain rfl : k = k' := by omega
        have ho1 : k < o.length := by have := HOl.out; omega
        have co := HBl.out.cell k ho1
        have fo := HBl.out.frozen k
        have hlen : (o.set k cc).length = k + 1 := by rw [List.length_set, HOl.out]
        have hv : Na.val (o.set k cc) = Na.val l + Na.val m := by
          have e1 := Na.val_set_take o k cc ho1
          rw [List.take_of_length_le (l := o.set k cc) (by omega), HInv.out, List.take_of_length_le (l := r) (by rw [HR.out]; exact Nat.le_refl _), List.take_of_length_le (l := q) (by have := HQ.out; omega), V1.out, V2.out] at e1
          rw [e1]; exact Nat.add_comm _ _
        have hok : Na.OK (o.set k cc) := by
          have := Na.ok_set_take o k cc ho1 HOk.out (by omega); rwa [List.take_of_length_le (by omega)] at this
        have HS := HBl.out.set k cc
        have HF := na_fits_any (some ⟨w.heap.size + 1, 0, none⟩) (k + 1) (o.set k cc) _ (HS.sl hok (by omega)) (by omega)
        rw [hlen] at HF
        have hbf : Below w.heap.size w (wr.setCell ⟨w.heap.size + 1, k, none⟩ (.int .u32 (cc : Int))) := (by have hbe := HBe.out; (repeat (first | exact Below.refl _ _ | assumption | refine Below.setCell ?_ (by first | omega | (simp <;> omega)) _ | refine Below.alloc ?_ (by first | omega | (simp <;> omega)) _ | refine Below.drew ?_ | refine below_drewN' ?_ _)))
        have HG := Lib.hid (fun e w' (hg : FitsR (some ⟨w.heap.size + 1, 0, none⟩) (o.set k cc) (wr.setCell ⟨w.heap.size + 1, k, none⟩ (.int .u32 (cc : Int))) e w') => (by have := hg.gives hbf (by omega) HS; rwa [hv, ← E2.out] at this : GivesE (Na.add l m) w e w'))
        have HF' := Lib.hid HF
        clear hv hok hlen HS HF hbf
        go_wp2_with (first | (go_at_call 117; (with_reducible refine (HF'.out).mono ?_); intro e w' hg; obtain ⟨a', c', rfl, hs, ho, hb⟩ := HG.out e w' hg))
        refine bodyPost_ret (v := .tuple #[.slice a' (Na.add l m).1.length c', .int .i64 (Na.add l m).2]) (by simp [results, Tryz.results187, go_sem]) rfl ⟨a', c', rfl, hs, ho, hb⟩
  · go_enter Tryz.func187, Tryz.ntmps187
    go_wp2_with (first | (go_at_call 112; (with_reducible refine (H1.out).mono ?_); rintro e w' ⟨rfl, rfl⟩) | (go_at_call 115; (with_reducible refine (H2.out).mono ?_); rintro e w' ⟨rfl, rfl⟩) | (go_at_call 115; (with_reducible refine (H3.out).mono ?_); rintro e w' ⟨rfl, rfl⟩) | (at_make; refine wpList_make_full _ rfl _ _ 100 rfl w.heap.size 81 ti (.int .u32 0) 1 Tryz.underlying100 hi hz0 hz1 .i64 .i64 _ _ (n + 1) rfl rfl rfl rfl (by rw [hz2]; omega) (by unfold maxLen; omega) (by simp [World.size_alloc]) ?_))
    intro w1 hown hgrow
    have hB1 : Below w.heap.size w w1 := hB.grown hgrow (by simp [World.size_alloc]) (fun k e => by cases e)
    have hK := Lib.hid (Blk.made hown)
    have hHB := Lib.hid hB1
    have hgw : w.heap.size + 1 < w1.heap.size := by
      have := hK.out.lt; simpa [World.size_alloc] using this
    clear hown hgrow hz2 hz1 hz0 hi ti hB hB1
    go_wp2_with fail
    go_loopw [7, 31] (addLoop n (w.heap.size + 1) q r w) (fun _ i _ => n - (intOf i).toNat)
    case atStart => exact ⟨0, 0, _, Nat.zero_le _, rfl, rfl, by omega, hK, Lib.hid (by simp), Lib.hid (by intro x hx; cases hx), Lib.hid (by simp [Na.val]), hHB⟩
    case round =>
      obtain ⟨k, cc, o, hk, rfl, rfl, hcc, HBl, HOl, HOk, HInv, HBe⟩ := hrel
      by_cases hlt2 : k < n
      · have hq1 : k < q.length := by have := HQ.out; omega
        obtain ⟨b1, o1, rfl, hb1, hc1⟩ := (S1.on HBe.out).plain (by omega)
        have c1 := hc1 k hq1
        have hx := S1.lt k hq1
        have VP := Lib.hid (Na.val_take_succ q k hq1)
        obtain ⟨x, hxe⟩ : ∃ x, q[k]'hq1 = x := ⟨_, rfl⟩
        rw [hxe] at c1 hx VP
        clear hc1 hxe
        have ho1 : k < o.length := by have := HOl.out; omega
        have co := HBl.out.cell k ho1
        have fo := HBl.out.frozen k
        by_cases hy : k < k'
        · have hr1 : k < r.length := by have := HR.out; omega
          obtain ⟨b2, o2, rfl, hb2, hc2⟩ := (S2.on HBe.out).plain (by omega)
          have c2 := hc2 k hr1
          have hyl := S2.lt k hr1
          have VQ := Lib.hid (Na.val_take_succ r k hr1)
          obtain ⟨y, hye⟩ : ∃ x, r[k]'hr1 = x := ⟨_, rfl⟩
          rw [hye] at c2 hyl VQ
          clear hc2 hye
          have HA32 := Lib.hid (add32_any x y cc hx hyl (by omega) wr)
          have HS := Lib.hid (Na.add_step o q r k x y cc ho1 HInv.out VP.out VQ.out)
          have HO2 := Lib.hid (Na.ok_set_take o k ((x + y + cc) % 4294967296) ho1 HOk.out (by omega))
          have hcc2 : (x + y + cc) / 4294967296 ≤ 1 := by omega
          obtain ⟨v, hv⟩ : ∃ v, v = (x + y + cc) % 4294967296 := ⟨_, rfl⟩
          obtain ⟨cn, hcn⟩ : ∃ v, v = (x + y + cc) / 4294967296 := ⟨_, rfl⟩
          rw [← hv, ← hcn] at HS HA32
          rw [← hv] at HO2
          rw [← hcn] at hcc2
          clear hv hcn
          go_wp2_with (first | (go_at_call 207; (with_reducible refine (HA32.out).mono ?_); rintro e w' ⟨rfl, rfl⟩))
          go_roundw
          case rel => exact ⟨k + 1, cn, o.set k v, by omega, by go_num, rfl, hcc2, Lib.hid (HBl.out.set k v), Lib.hid (by rw [List.length_set]; exact HOl.out), HO2, HS, Lib.hid (by have hbe := HBe.out; (repeat (first | exact Below.refl _ _ | assumption | refine Below.setCell ?_ (by first | omega | (simp <;> omega)) _ | refine Below.alloc ?_ (by first | omega | (simp <;> omega)) _ | refine Below.drew ?_ | refine below_drewN' ?_ _)))⟩
          case measure => simp [intOf]; omega
        · have VQ := Lib.hid (Na.take_more r k (by have := HR.out; omega))
          have HA32 := Lib.hid (show Calls Tryz.prog 207 #[.int .u32 x, .int .u32 0, .int .u32 cc] wr _ from add32_any x 0 cc hx (by omega) (by omega) wr)
          have HS := Lib.hid (Na.add_step o q r k x 0 cc ho1 HInv.out VP.out VQ.out)
          have HO2 := Lib.hid (Na.ok_set_take o k ((x + 0 + cc) % 4294967296) ho1 HOk.out (by omega))
          have hcc2 : (x + 0 + cc) / 4294967296 ≤ 1 := by omega
          obtain ⟨v, hv⟩ : ∃ v, v = (x + 0 + cc) % 4294967296 := ⟨_, rfl⟩
          obtain ⟨cn, hcn⟩ : ∃ v, v = (x + 0 + cc) / 4294967296 := ⟨_, rfl⟩
          rw [← hv, ← hcn] at HS HA32
          rw [← hv] at HO2
          rw [← hcn] at hcc2
          clear hv hcn
          go_wp2_with (first | (go_at_call 207; (with_reducible refine (HA32.out).mono ?_); rintro e w' ⟨rfl, rfl⟩))
          go_roundw
          case rel => exact ⟨k + 1, cn, o.set k v, by omega, by go_num, rfl, hcc2, Lib.hid (HBl.out.set k v), Lib.hid (by rw [List.length_set]; exact HOl.out), HO2, HS, Lib.hid (by have hbe := HBe.out; (repeat (first | exact Below.refl _ _ | assumption | refine Below.setCell ?_ (by first | omega | (simp <;> omega)) _ | refine Below.alloc ?_ (by first | omega | (simp <;> omega)) _ | refine Below.drew ?_ | refine below_drewN' ?_ _)))⟩
          case measure => simp [intOf]; omega
      · obtain rfl : k = n := by omega
        have ho1 : k < o.length := by have := HOl.out; omega
        have co := HBl.out.cell k ho1
        have fo := HBl.out.frozen k
        have hlen : (o.set k cc).length = k + 1 := by rw [List.length_set, HOl.out]
        have hv : Na.val (o.set k cc) = Na.val l + Na.val m := by
          have e1 := Na.val_set_take o k cc ho1
          rw [List.take_of_length_le (l := o.set k cc) (by omega), HInv.out, List.take_of_length_le (l := q) (by rw [HQ.out]; exact Nat.le_refl _), List.take_of_length_le (l := r) (by have := HR.out; omega), V1.out, V2.out] at e1
          rw [e1]
        have hok : Na.OK (o.set k cc) := by
          have := Na.ok_set_take o k cc ho1 HOk.out (by omega); rwa [List.take_of_length_le (by omega)] at this
        have HS := HBl.out.set k cc
        have HF := na_fits_any (some ⟨w.heap.size + 1, 0, none⟩) (k + 1) (o.set k cc) _ (HS.sl hok (by omega)) (by omega)
        rw [hlen] at HF
        have hbf : Below w.heap.size w (wr.setCell ⟨w.heap.size + 1, k, none⟩ (.int .u32 (cc : Int))) := (by have hbe := HBe.out; (repeat (first | exact Below.refl _ _ | assumption | refine Below.setCell ?_ (by first | omega | (simp <;> omega)) _ | refine Below.alloc ?_ (by first | omega | (simp <;> omega)) _ | refine Below.drew ?_ | refine below_drewN' ?_ _)))
        have HG := Lib.hid (fun e w' (hg : FitsR (some ⟨w.heap.size + 1, 0, none⟩) (o.set k cc) (wr.setCell ⟨w.heap.size + 1, k, none⟩ (.int .u32 (cc : Int))) e w') => (by have := hg.gives hbf (by omega) HS; rwa [hv, ← E2.out] at this : GivesE (Na.add l m) w e w'))
        have HF' := Lib.hid HF
        clear hv hok hlen HS HF hbf
        go_wp2_with (first | (go_at_call 117; (with_reducible refine (HF'.out).mono ?_); intro e w' hg; obtain ⟨a', c', rfl, hs, ho, hb⟩ := HG.out e w' hg))
        refine bodyPost_ret (v := .tuple #[.slice a' (Na.add l m).1.length c', .int .i64 (Na.add l m).2]) (by simp [results, Tryz.results187, go_sem]) rfl ⟨a', c', rfl, hs, ho, hb⟩
theorem na_add_any (a : Option Addr) (c : Nat) (l : List Nat) (b : Option Addr) (d : Nat) (m : List Nat) (w : World) (h : Sl w a c l) (h' : Sl w b d m) (hn : l.length ≤ 1000000) (hm : m.length ≤ 1000000) :
    Calls Tryz.prog 187 #[.slice a l.length c, .slice b m.length d] w (GivesE (Na.add l m) w) := by
  cases e : (Na.big l || Na.big m) with
  | true => exact na_add_big a c l b d m w h h' hn hm e
  | false => exact na_add_ok a c l b d m w h h' hn hm e
end Go.Proofs.YtiglekomfgfilaaGreatDoor

/- Sub. -/
namespace Go.Proofs.YtiglekomfgfilaaGreatDoor
set_option linter.all false
open Go.RowKit
end Go.Proofs.YtiglekomfgfilaaGreatDoor

/- Plain Lean: the product, limb by limb. -/
namespace Go.Proofs.YtiglekomfgfilaaGreatDoor.Na
set_option linter.all false
open Go
theorem val_set (o : List Nat) (j v : Nat) : ∀ h : j < o.length, val (o.set j v) + B ^ j * o[j] = val o + B ^ j * v := by
  induction o generalizing j with
  | nil => intro h; simp at h
  | cons x o ih =>
    intro h
    cases j with
    | zero => simp [val]; omega
    | succ j =>
      have hj : j < o.length := by simpa using h
      have := congrArg (B * ·) (ih j hj)
      simp only [Nat.mul_add, ← Nat.mul_assoc] at this
      simp only [List.set_cons_succ, val, List.getElem_cons_succ, Nat.pow_succ, Nat.mul_comm (B ^ j) B]
      omega
theorem ok_set {o : List Nat} (h : OK o) (j v : Nat) (hv : v < 4294967296) : OK (o.set j v) := by
  intro x hx
  rcases List.mem_or_eq_of_mem_set hx with hx | rfl
  · exact h x hx
  · exact hv
theorem val_set_in (o : List Nat) (N j v : Nat) (hj : j < N) (h : j < o.length) : val ((o.set j v).take N) + B ^ j * o[j] = val (o.take N) + B ^ j * v := by
  rw [List.take_set]
  have h2 : j < (o.take N).length := by rw [List.length_take]; omega
  have := val_set (o.take N) j v h2
  rw [List.getElem_take] at this; exact this
theorem prod_le (x y z c : Nat) (hx : x < 4294967296) (hy : y < 4294967296) (hz : z < 4294967296) (hc : c < 4294967296) : x * y ≤ 18446744065119617025 ∧ x * y + z + c < 18446744073709551616 := by
  have := Nat.mul_le_mul (show x ≤ 4294967295 by omega) (show y ≤ 4294967295 by omega)
  omega
theorem mul_step (o : List Nat) (N i j x y z c M rk rk1 : Nat) (hj : i + j < N) (h : i + j < o.length) (hz : o[i + j] = z) (inv : val (o.take N) + B ^ (i + j) * c = M + B ^ i * x * rk) (hr : rk1 = rk + B ^ j * y) :
    val ((o.set (i + j) ((x * y + z + c) % 4294967296)).take N) + B ^ (i + j + 1) * ((x * y + z + c) / 4294967296) = M + B ^ i * x * rk1 := by
  have h1 := val_set_in o N (i + j) ((x * y + z + c) % 4294967296) hj h
  have h2 := split_digit (B ^ (i + j)) (x * y + z + c)
  rw [hz] at h1
  have h3 : B ^ i * x * (B ^ j * y) = B ^ (i + j) * (x * y) := by
    rw [Nat.pow_add, Nat.mul_assoc, Nat.mul_assoc, Nat.mul_left_comm x]
  rw [hr, Nat.mul_add (B ^ i * x), h3, Nat.pow_succ]
  rw [Nat.mul_add, Nat.mul_add] at h2
  simp only [B] at h1 h2 inv ⊢
  omega
theorem mul_row (q r : List Nat) (i x : Nat) (h : val (q.take (i + 1)) = val (q.take i) + B ^ i * x) : val (q.take i) * val r + B ^ i * x * val r = val (q.take (i + 1)) * val r := by
  rw [h, Nat.add_mul]
end Go.Proofs.YtiglekomfgfilaaGreatDoor.Na
