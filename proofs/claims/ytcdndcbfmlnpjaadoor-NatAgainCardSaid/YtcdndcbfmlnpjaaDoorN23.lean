/- takes. -/
import Derived.Test.YtcdndcbfmlnpjaaDoorN21
import Derived.Test.YtcdndcbfmlnpjaaDoorNk
import Derived.Outline
namespace Go.Proofs.YtcdndcbfmlnpjaaDoor
set_option linter.all false
open Go.RowKit

/-- Of the blocks that were there only one may have turned. -/
structure Onl (g : Nat) (w wr : World) : Prop where
  below : Below g w wr
  block : ∀ k, k ≠ g → k < w.heap.size → wr.heap[k]? = w.heap[k]?
theorem Onl.refl (g : Nat) (w : World) : Onl g w w := ⟨Below.refl _ _, fun _ _ _ => rfl⟩
theorem Onl.trans {g : Nat} {a b c : World} (h : Onl g a b) (k : Onl g b c) : Onl g a c := ⟨h.below.trans k.below, fun i hi hl => (k.block i hi (Nat.lt_of_lt_of_le hl h.below.size)).trans (h.block i hi hl)⟩
theorem Onl.setCell {g : Nat} {a b : World} (h : Onl g a b) (i : Nat) (u : Value) : Onl g a (b.setCell ⟨g, i, none⟩ u) :=
  ⟨h.below.setCell (Nat.le_refl _) u, fun k hk hl => (Below.heap_setCell _ _ _ _ hk).trans (h.block k hk hl)⟩
theorem Onl.drew {g : Nat} {a b : World} (h : Onl g a b) (n : Nat) : Onl g a (b.drewN n) := ⟨below_drewN' h.below n, h.block⟩
theorem Blk.onl {w w' : World} {g k : Nat} {o : List Nat} (h : Blk w k o) (hb : Onl g w w') (hk : k ≠ g) : Blk w' k o := (hb.block k hk h.lt).trans h
theorem Onl.up {g B : Nat} {a b : World} (h : Onl g a b) (hB : B ≤ g) : Below B a b := h.below.mono hB

theorem Na.takes_limb2 (x lo hi cc b l2 : Nat) (hx : x < 4294967296) (hlo : lo < 4294967296) (hhi : hi ≤ 4294967294) (hc : cc < 4294967296) (hb : b ≤ 1) (hl2 : l2 = (lo + cc) % 4294967296) :
    ∃ o b2 c2 : Nat, o < 4294967296 ∧ b2 ≤ 1 ∧ c2 < 4294967296 ∧ (hi : Int) + ((lo : Int) + cc) / 4294967296 = (c2 : Int) ∧ (((x : Int) - l2) % 18446744073709551616 - b) % 18446744073709551616 % 4294967296 = (o : Int) ∧ (((x : Int) - l2) % 18446744073709551616 - b) % 18446744073709551616 / 9223372036854775808 = (b2 : Int) ∧
    x + Na.B * (c2 + b2) = o + (hi * 4294967296 + lo + cc + b) ∧ (hi = 0 → lo = 0 → c2 = 0) := by
  show ∃ o b2 c2 : Nat, o < 4294967296 ∧ b2 ≤ 1 ∧ c2 < 4294967296 ∧ (hi : Int) + ((lo : Int) + cc) / 4294967296 = (c2 : Int) ∧ (((x : Int) - l2) % 18446744073709551616 - b) % 18446744073709551616 % 4294967296 = (o : Int) ∧ (((x : Int) - l2) % 18446744073709551616 - b) % 18446744073709551616 / 9223372036854775808 = (b2 : Int) ∧
    x + 4294967296 * (c2 + b2) = o + (hi * 4294967296 + lo + cc + b) ∧ (hi = 0 → lo = 0 → c2 = 0)
  rcases Nat.lt_or_ge x (l2 + b) with h | h
  · exact ⟨x + 4294967296 - l2 - b, 1, hi + (lo + cc) / 4294967296, by omega, by omega, by omega, by omega, by omega, by omega, by omega, by omega⟩
  · exact ⟨x - l2 - b, 0, hi + (lo + cc) / 4294967296, by omega, by omega, by omega, by omega, by omega, by omega, by omega, by omega⟩
theorem Na.and32 (a : Nat) (ha : a < 18446744073709551616) : bits BinOp.and IntKind.u64 (a : Int) 4294967295 = ((a % 4294967296 : Nat) : Int) := by
  have h := bits_and_u64_nat a 4294967295 ha (by decide)
  rw [show (4294967295 : Nat) = 2 ^ 32 - 1 from rfl, Nat.and_two_pow_sub_one_eq_mod] at h
  exact h

theorem Na.drop_set_more {O o : List Nat} {i v : Nat} (h : o.drop i = O.drop i) : (o.set i v).drop (i + 1) = O.drop (i + 1) := by
  rw [List.drop_set, if_pos (by omega)]
  have := congrArg (List.drop 1) h
  rwa [List.drop_drop, List.drop_drop] at this

def takesLoop (N off g d : Nat) (O q : List Nat) (w : World) (cv bv iv : Value) (wr : World) : Prop := ∃ (k c b : Nat) (o : List Nat), k ≤ N ∧ iv = .int .i64 k ∧ cv = .int .u64 c ∧ bv = .int .u64 b ∧ c < 4294967296 ∧ b ≤ 1 ∧ Hid (Blk wr g o) ∧ Hid (o.length = O.length) ∧ Hid (Na.OK o) ∧
  Hid (o.take off = O.take off) ∧ Hid (o.drop (off + k) = O.drop (off + k)) ∧ Hid (q.length < k → c = 0) ∧ Hid (Na.val ((O.drop off).take k) + Na.B ^ k * (c + b) = Na.val ((o.drop off).take k) + d * Na.val (q.take k)) ∧ Hid (Onl g w wr)

def TakesR (N off g d : Nat) (O q : List Nat) (w : World) (e : Ending) (w' : World) : Prop := ∃ br, br ≤ 1 ∧ e = .returned (.bool (decide (0 < br))) ∧ Onl g w w' ∧ ∃ o, Blk w' g o ∧ o.length = O.length ∧ Na.OK o ∧ o.take off = O.take off ∧ o.drop (off + N) = O.drop (off + N) ∧
  Na.val ((O.drop off).take N) + Na.B ^ N * br = Na.val ((o.drop off).take N) + d * Na.val q

set_option maxHeartbeats 2000000 in
theorem na_takes_any (g gv off N c ca d : Nat) (O q : List Nat) (w : World) (hb : Blk w g O) (hok : Na.OK O) (hl : off + N ≤ O.length) (hv : Blk w gv q) (hvk : Na.OK q) (hne : gv ≠ g) (hqN : q.length < N) (hd : d < 4294967296) (hN : off + N ≤ 1000000) :
    Calls Tryd.prog 40 #[.slice (some ⟨g, off, none⟩) N c, .slice (some ⟨gv, 0, none⟩) q.length ca, .int .u64 d] w (TakesR N off g d O q w) := by
  have HB0 := Lib.hid hb; have HO0 := Lib.hid hok; have HL0 := Lib.hid hl; have HV := Lib.hid hv; have HVK := Lib.hid hvk; have HNE := Lib.hid hne
  clear hb hok hl hv hvk hne
  go_enter Tryd.func40, Tryd.ntmps40
  go_wp2_with fail
  go_loopw [7, 8, 15] (takesLoop N off g d O q w) (fun _ _ i _ => N - (intOf i).toNat)
  case atStart => exact ⟨0, 0, 0, O, Nat.zero_le _, rfl, rfl, rfl, by omega, by omega, HB0, Lib.hid rfl, HO0, Lib.hid rfl, Lib.hid rfl, Lib.hid (fun _ => rfl), Lib.hid (by simp [Na.val]), Lib.hid (Onl.refl _ _)⟩
  case round =>
    obtain ⟨k, cc, b, o, hk, rfl, rfl, rfl, hcc, hb1, HBl, HOl, HOk, HTk, HDr, HZ, HInv, HBe⟩ := hrel
    by_cases hlt : k < N
    · have hO1 : off + k < O.length := by have := HL0.out; omega
      have ho1 : off + k < o.length := by rw [HOl.out]; exact hO1
      have co := HBl.out.cell (off + k) ho1
      have fo := HBl.out.frozen (off + k)
      have hxl : O[off + k]'hO1 < 4294967296 := HO0.out _ (List.getElem_mem hO1)
      have HOx := Lib.hid (show (O.drop off).take (k + 1) = (O.drop off).take k ++ [O[off + k]'hO1] by
        rw [List.take_succ_eq_append_getElem (by rw [List.length_drop]; omega), List.getElem_drop])
      obtain ⟨x, hxe⟩ : ∃ x, O[off + k]'hO1 = x := ⟨_, rfl⟩
      rw [Na.drop_get HDr.out (Nat.le_refl _) ho1 hO1] at co
      rw [hxe] at co hxl HOx
      clear hxe
      by_cases hlq : k < q.length
      · have hv2 := HV.out.onl HBe.out HNE.out
        have c1 := hv2.cell k hlq
        have hyl : q[k]'hlq < 4294967296 := HVK.out _ (List.getElem_mem hlq)
        have VQ := Lib.hid (Na.val_take_succ q k hlq)
        obtain ⟨y, hye⟩ : ∃ x, q[k]'hlq = x := ⟨_, rfl⟩
        rw [hye] at c1 hyl VQ
        have hp := (Na.prod_le d y 0 0 hd hyl (by omega) (by omega)).1
        have hdp : (d : Int) * (y : Int) = ((d * y : Nat) : Int) := by simp
        obtain ⟨p, hpe⟩ : ∃ p, p = d * y := ⟨_, rfl⟩
        rw [← hpe] at hp hdp
        obtain ⟨hi, hhi⟩ : ∃ h, h = p / 4294967296 := ⟨_, rfl⟩
        obtain ⟨lo, hlo⟩ : ∃ h, h = p % 4294967296 := ⟨_, rfl⟩
        obtain ⟨l2, hl2⟩ : ∃ h, h = (lo + cc) % 4294967296 := ⟨_, rfl⟩
        have hand1 := Na.and32 p (by omega)
        rw [← hlo] at hand1
        have hdiv : (p : Int) / 4294967296 = (hi : Int) := by omega
        have hlo2 : lo < 4294967296 := by omega
        have hhi2 : hi ≤ 4294967294 := by omega
        have hand2 := Na.and32 (lo + cc) (by omega)
        rw [← hl2, show ((lo + cc : Nat) : Int) = (lo : Int) + (cc : Int) by simp] at hand2
        have hl22 : l2 < 4294967296 := by omega
        obtain ⟨z, b2, c2, hz, hb2, hc2, e1, e2, e3, he, he0⟩ := Na.takes_limb2 x lo hi cc b l2 hxl hlo2 hhi2 hcc hb1 hl2
        have hpp : hi * 4294967296 + lo = d * y := by rw [← hpe]; omega
        rw [hpp] at he
        have HS := Lib.hid (Na.takes_step O o q off d k x y cc b c2 b2 z ho1 HOx.out HInv.out VQ.out (by rw [List.length_drop]; omega) he)
        have E1 := Lib.hid e1; have E2 := Lib.hid e2; have E3 := Lib.hid e3
        clear hye hv2 hpe hhi hlo hl2 hpp he he0 e1 e2 e3 HInv
        go_wp2_with fail
        go_roundw
        case rel =>
          rw [IntKind.wrap_u64, IntKind.wrap_u64, E1.out, E2.out, E3.out]
          exact ⟨k + 1, c2, b2, o.set (off + k) z, by omega, by go_num, rfl, rfl, hc2, hb2, Lib.hid (HBl.out.set _ _), Lib.hid (by rw [List.length_set]; exact HOl.out), Lib.hid (Na.ok_set HOk.out _ _ hz), Lib.hid (by rw [List.take_set_of_le (by omega)]; exact HTk.out), Lib.hid (Na.drop_set_more HDr.out), Lib.hid (fun h => absurd h (by omega)), HS, Lib.hid (HBe.out.setCell _ _)⟩
        case measure => simp [intOf]; omega
      · have VQ := Lib.hid (Na.take_more q k (by omega))
        obtain ⟨z, b2, c2, hz, hb2, hc2, e1, e2, e3, he, he0⟩ := Na.takes_limb2 x 0 0 cc b cc hxl (by omega) (by omega) hcc hb1 (by omega)
        obtain rfl : c2 = 0 := he0 rfl rfl
        have HS := Lib.hid (Na.takes_step O o q off d k x 0 cc b 0 b2 z ho1 HOx.out HInv.out VQ.out (by rw [List.length_drop]; omega) (by rw [he]; omega))
        have hand1 : bits BinOp.and IntKind.u64 0 4294967295 = 0 := by decide
        have hand2 := Na.and32 cc (by omega)
        rw [Nat.mod_eq_of_lt hcc] at hand2
        have hcd : (cc : Int) / 4294967296 = 0 := by omega
        have E2 := Lib.hid e2; have E3 := Lib.hid e3
        clear he he0 e1 e2 e3 HInv
        go_wp2_with fail
        go_roundw
        case rel =>
          rw [IntKind.wrap_u64, IntKind.wrap_u64, E2.out, E3.out]
          exact ⟨k + 1, 0, b2, o.set (off + k) z, by omega, by go_num, rfl, rfl, by omega, hb2, Lib.hid (HBl.out.set _ _), Lib.hid (by rw [List.length_set]; exact HOl.out), Lib.hid (Na.ok_set HOk.out _ _ hz), Lib.hid (by rw [List.take_set_of_le (by omega)]; exact HTk.out), Lib.hid (Na.drop_set_more HDr.out), Lib.hid (fun _ => rfl), HS, Lib.hid (HBe.out.setCell _ _)⟩
        case measure => simp [intOf]; omega
    · obtain rfl : k = N := by omega
      have HE := Lib.hid (show Na.val ((O.drop off).take k) + Na.B ^ k * b = Na.val ((o.drop off).take k) + d * Na.val q by
        have h1 := HInv.out
        have h2 := HZ.out hqN
        rw [h2, Nat.zero_add, List.take_of_length_le (l := q) (by omega)] at h1
        exact h1)
      go_wp2_with fail
      go_ret
      exact ⟨b, hb1, by simp, HBe.out, o, HBl.out, HOl.out, HOk.out, HTk.out, HDr.out, HE.out⟩
end Go.Proofs.YtcdndcbfmlnpjaaDoor
