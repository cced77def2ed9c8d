/- Mul. -/
import Derived.Test.YtcdndcbfmlnpjaaGreatDoorN7
import Derived.Test.YtcdndcbfmlnpjaaGreatDoorNc
namespace Go.Proofs.YtcdndcbfmlnpjaaGreatDoor
set_option linter.all false
open Go.RowKit

theorem Blk.drew {w : World} {g n : Nat} {o : List Nat} (h : Blk w g o) : Blk (w.drewN n) g o := h

def mulOuter (n m' g : Nat) (q r : List Nat) (w : World) (iv : Value) (wr : World) : Prop := ∃ (k : Nat) (o : List Nat), k ≤ n ∧ iv = .int .i64 k ∧ Hid (Blk wr g o) ∧ Hid (o.length = n + m') ∧ Hid (Na.OK o) ∧ Hid (Na.val (o.take (k + m')) = Na.val (q.take k) * Na.val r) ∧ Hid (Below w.heap.size w wr)
def mulInner (n m' g i x : Nat) (q r : List Nat) (w : World) (cv jv : Value) (wr : World) : Prop := ∃ (j c : Nat) (o : List Nat), j ≤ m' ∧ jv = .int .i64 j ∧ cv = .int .u64 c ∧ c < 4294967296 ∧ Hid (Blk wr g o) ∧ Hid (o.length = n + m') ∧ Hid (Na.OK o) ∧
  Hid (Na.val (o.take (i + m')) + Na.B ^ (i + j) * c = Na.val (q.take i) * Na.val r + Na.B ^ i * x * Na.val (r.take j)) ∧ Hid (Below w.heap.size w wr)

set_option maxHeartbeats 1000000 in
theorem na_mul_big (a : Option Addr) (c : Nat) (l : List Nat) (b : Option Addr) (d : Nat) (m : List Nat) (w : World) (h : Sl w a c l) (h' : Sl w b d m) (hn : l.length ≤ 1000000) (hm : m.length ≤ 1000000) (hbig : (Na.big l || Na.big m) = true) :
    Calls Tryz.prog 23 #[.slice a l.length c, .slice b m.length d] w (GivesE (Na.mul l m) w) := by
  have H1 := Lib.hid (na_over2_any h h' hn hm true hbig)
  have e2 := Lib.hid (show Na.mul l m = ([], 2) from if_pos hbig)
  have hB : Below w.heap.size w (w.alloc (Obj.cells #[Value.slice a l.length c, Value.slice b m.length d] 26)) := (Below.refl _ _).alloc (Nat.le_refl _) _
  clear hbig
  go_enter Tryz.func23, Tryz.ntmps23
  go_wp2_with (first | (go_at_call 40; (with_reducible refine (H1.out).mono ?_); rintro e w' ⟨rfl, rfl⟩))
  refine bodyPost_ret (v := .tuple #[.slice none 0 0, .int .i64 2]) (by simp [results, Tryz.results23, go_sem]) rfl ⟨none, 0, ?_, ?_, ?_, hB⟩ <;> rw [e2.out]
  · rfl
  · exact Sl.nil _ _ _
  · exact Own.nil _ _ _

set_option maxHeartbeats 2000000 in
theorem na_mul_ok (a : Option Addr) (c : Nat) (l : List Nat) (b : Option Addr) (d : Nat) (m : List Nat) (w : World) (h : Sl w a c l) (h' : Sl w b d m) (hn : l.length ≤ 1000000) (hm : m.length ≤ 1000000) (hbig : (Na.big l || Na.big m) = false) :
    Calls Tryz.prog 23 #[.slice a l.length c, .slice b m.length d] w (GivesE (Na.mul l m) w) := by
  have H1 := Lib.hid (na_over2_any h h' hn hm false hbig)
  have E2 := Lib.hid (show Na.mul l m = Na.fits (Na.val l * Na.val m) from if_neg (by simp [hbig]))
  have hB : Below w.heap.size w (w.alloc (Obj.cells #[Value.slice a l.length c, Value.slice b m.length d] 26)) := (Below.refl _ _).alloc (Nat.le_refl _) _
  have H2 := Lib.hid (na_cut_any a c l _ (h.on hB) hn)
  have H3 := Lib.hid (na_cut_any b d m _ (h'.on hB) hm)
  obtain ⟨hl1, hl2⟩ := Na.not_big hbig
  have S1 := h.cut
  have S2 := h'.cut
  have V1 := Lib.hid (Na.val_cut (a := l))
  have V2 := Lib.hid (Na.val_cut (a := m))
  obtain ⟨q, hq⟩ : ∃ q, q = Na.cut l := ⟨_, rfl⟩
  obtain ⟨r, hr⟩ : ∃ r, r = Na.cut m := ⟨_, rfl⟩
  rw [← hq] at H2 hl1 S1 V1
  rw [← hr] at H3 hl2 S2 V2
  clear hq hr hbig
  obtain ⟨n, hqn⟩ : ∃ n, q.length = n := ⟨_, rfl⟩
  obtain ⟨k', hrk⟩ : ∃ k, r.length = k := ⟨_, rfl⟩
  rw [hqn] at H2 hl1
  rw [hrk] at H3 hl2
  have HQ := Lib.hid hqn; have HR := Lib.hid hrk
  clear hqn hrk
  obtain ⟨ti, hi, hz0, hz1, hz2⟩ := info_parts infoU32
  go_enter Tryz.func23, Tryz.ntmps23
  go_wp2_with (first | (go_at_call 40; (with_reducible refine (H1.out).mono ?_); rintro e w' ⟨rfl, rfl⟩) | (go_at_call 38; (with_reducible refine (H2.out).mono ?_); rintro e w' ⟨rfl, rfl⟩) | (go_at_call 38; (with_reducible refine (H3.out).mono ?_); rintro e w' ⟨rfl, rfl⟩) | (at_make; refine wpList_make_full _ rfl _ _ 26 rfl w.heap.size 63 ti (.int .u32 0) 1 Tryz.underlying26 hi hz0 hz1 .i64 .i64 _ _ (n + k') rfl rfl rfl rfl (by rw [hz2]; omega) (by unfold maxLen; omega) (by simp [World.size_alloc]) ?_))
  intro w1 hown hgrow
  have hB1 : Below w.heap.size w w1 := hB.grown hgrow (by simp [World.size_alloc]) (fun k e => by cases e)
  have hK := Lib.hid (Blk.made hown)
  have hHB := Lib.hid hB1
  clear hown hgrow hz2 hz1 hz0 hi ti hB hB1
  obtain ⟨g, hgg, hg⟩ : ∃ g, g = w.heap.size + 1 ∧ w.heap.size ≤ g := ⟨_, rfl, by omega⟩
  rw [← hgg] at hK ⊢
  clear hgg
  go_wp2_with fail
  go_loopw [27] (mulOuter n k' g q r w) (fun i _ => n - (intOf i).toNat)
  case atStart => exact ⟨0, _, Nat.zero_le _, rfl, hK, Lib.hid (by simp), Lib.hid (by intro x hx; rw [List.eq_of_mem_replicate hx]; decide), Lib.hid (by rw [List.take_replicate, Na.val_zeros]; simp [Na.val]), hHB⟩
  case round =>
    obtain ⟨i, o, hik, rfl, HBl, HOl, HOk, HInv, HBe⟩ := hrel
    by_cases hlt : i < n
    · have hq1 : i < q.length := by have := HQ.out; omega
      have hx := S1.lt i hq1
      have VP := Lib.hid (Na.val_take_succ q i hq1)
      obtain ⟨x, hxe⟩ : ∃ x, q[i]'hq1 = x := ⟨_, rfl⟩
      rw [hxe] at hx VP
      have HXE := Lib.hid hxe
      clear hxe
      go_wp2_with fail
      go_loopw [8, 32] (mulInner n k' g i x q r w) (fun _ j _ => k' - (intOf j).toNat)
      case atStart => exact ⟨0, 0, o, Nat.zero_le _, rfl, rfl, by omega, HBl, HOl, HOk, Lib.hid (by rw [HInv.out]; simp [Na.val]), HBe⟩
      case round =>
        clear HBl HOl HOk HInv HBe
        obtain ⟨j, cc, o2, hjk, rfl, rfl, hcc, HBl, HOl, HOk, HInv, HBe⟩ := hrel
        by_cases hlt2 : j < k'
        · have hr1 : j < r.length := by have := HR.out; omega
          obtain ⟨b1, o1, rfl, hb1, hc1⟩ := (S1.on HBe.out).plain (by omega)
          have c1 := hc1 i hq1
          rw [HXE.out] at c1
          obtain ⟨b2, o3, rfl, hb2, hc2⟩ := (S2.on HBe.out).plain (by omega)
          have c2 := hc2 j hr1
          have hy := S2.lt j hr1
          have VQ := Lib.hid (Na.val_take_succ r j hr1)
          obtain ⟨y, hye⟩ : ∃ x, r[j]'hr1 = x := ⟨_, rfl⟩
          rw [hye] at c2 hy VQ
          clear hc1 hc2 hye
          have ho1 : i + j < o2.length := by have := HOl.out; omega
          have co := HBl.out.cell (i + j) ho1
          have fo := HBl.out.frozen (i + j)
          have hz : o2[i + j] < 4294967296 := HOk.out _ (List.getElem_mem ho1)
          obtain ⟨z, hze⟩ : ∃ x, o2[i + j]'ho1 = x := ⟨_, rfl⟩
          rw [hze] at co hz
          obtain ⟨hp1, hp2⟩ := Na.prod_le x y z cc hx hy hz hcc
          have HS := Lib.hid (Na.mul_step o2 (i + k') i j x y z cc _ _ _ (by omega) ho1 hze HInv.out VQ.out)
          clear hze
          obtain ⟨p, hp⟩ : ∃ p, p = x * y := ⟨_, rfl⟩
          rw [← hp] at hp1 hp2 HS
          have hpi : (x : Int) * (y : Int) = (p : Int) := by rw [hp]; simp
          have hcn : (p + z + cc) / 4294967296 < 4294967296 := by omega
          clear hp
          go_wp2_with fail
          go_quiet (fail)
          go_wp2_with fail
          go_roundw
          case rel => exact ⟨j + 1, (p + z + cc) / 4294967296, o2.set (i + j) ((p + z + cc) % 4294967296), by omega, by go_num, by go_num, hcn, Lib.hid (HBl.out.drew.set _ _), Lib.hid (by rw [List.length_set]; exact HOl.out), Lib.hid (Na.ok_set HOk.out _ _ (by omega)), HS, Lib.hid (by have hbe := HBe.out; (repeat (first | exact Below.refl _ _ | assumption | refine Below.setCell ?_ (by first | omega | (simp <;> omega)) _ | refine Below.alloc ?_ (by first | omega | (simp <;> omega)) _ | refine Below.drew ?_ | refine below_drewN' ?_ _)))⟩
          case measure => simp [intOf]; omega
        · obtain rfl : j = k' := by omega
          have ho1 : i + j < o2.length := by have := HOl.out; omega
          have co := HBl.out.cell (i + j) ho1
          have fo := HBl.out.frozen (i + j)
          have HS := Lib.hid (show Na.val ((o2.set (i + j) cc).take (i + 1 + j)) = Na.val (q.take (i + 1)) * Na.val r by
            rw [show i + 1 + j = i + j + 1 by omega, Na.val_set_take o2 _ cc ho1, HInv.out, List.take_of_length_le (l := r) (by rw [HR.out]; exact Nat.le_refl _)]
            exact Na.mul_row q r i x VP.out)
          go_wp2_with fail
          go_roundw
          case rel => exact ⟨i + 1, o2.set (i + j) cc, by omega, by go_num, Lib.hid (HBl.out.set _ _), Lib.hid (by rw [List.length_set]; exact HOl.out), Lib.hid (Na.ok_set HOk.out _ _ hcc), HS, Lib.hid (by have hbe := HBe.out; (repeat (first | exact Below.refl _ _ | assumption | refine Below.setCell ?_ (by first | omega | (simp <;> omega)) _ | refine Below.alloc ?_ (by first | omega | (simp <;> omega)) _ | refine Below.drew ?_ | refine below_drewN' ?_ _)))⟩
          case measure => simp [intOf]; omega
    · obtain rfl : i = n := by omega
      have hv : Na.val o = Na.val l * Na.val m := by
        have := HInv.out
        rwa [List.take_of_length_le (by rw [HOl.out]; exact Nat.le_refl _), List.take_of_length_le (by rw [HQ.out]; exact Nat.le_refl _), V1.out, V2.out] at this
      have HF := na_fits_any (some ⟨g, 0, none⟩) (i + k') o wr (HBl.out.sl HOk.out (by rw [HOl.out]; exact Nat.le_refl _)) (by rw [HOl.out]; omega)
      rw [HOl.out] at HF
      have HG := Lib.hid (fun e w' (hg' : FitsR (some ⟨g, 0, none⟩) o wr e w') => (by have := hg'.gives HBe.out hg HBl.out; rwa [hv, ← E2.out] at this : GivesE (Na.mul l m) w e w'))
      have HF' := Lib.hid HF
      clear hv HF
      go_wp2_with (first | (go_at_call 42; (with_reducible refine (HF'.out).mono ?_); intro e w' hg; obtain ⟨a', c', rfl, hs, ho, hb⟩ := HG.out e w' hg))
      refine bodyPost_ret (v := .tuple #[.slice a' (Na.mul l m).1.length c', .int .i64 (Na.mul l m).2]) (by simp [results, Tryz.results23, go_sem]) rfl ⟨a', c', rfl, hs, ho, hb⟩

theorem na_mul_any (a : Option Addr) (c : Nat) (l : List Nat) (b : Option Addr) (d : Nat) (m : List Nat) (w : World) (h : Sl w a c l) (h' : Sl w b d m) (hn : l.length ≤ 1000000) (hm : m.length ≤ 1000000) :
    Calls Tryz.prog 23 #[.slice a l.length c, .slice b m.length d] w (GivesE (Na.mul l m) w) := by
  cases e : (Na.big l || Na.big m) with
  | true => exact na_mul_big a c l b d m w h h' hn hm e
  | false => exact na_mul_ok a c l b d m w h h' hn hm e
end Go.Proofs.YtcdndcbfmlnpjaaGreatDoor
