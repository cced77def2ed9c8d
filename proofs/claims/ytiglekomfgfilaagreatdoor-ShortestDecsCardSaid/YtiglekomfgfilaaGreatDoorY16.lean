/- The reference: Big, limb, Plus, Times, fits, Add, Mul, Twice, Shl, Pow, Bit, Shr. -/
import Derived.Test.YtiglekomfgfilaaGreatDoorY15
import Derived.Test.YtiglekomfgfilaaGreatDoorY11
namespace Go.Proofs.YtiglekomfgfilaaGreatDoor
set_option maxRecDepth 100000
set_option maxHeartbeats 4000000
set_option linter.all false
open Go.RowKit
def Na.limb (l : List Nat) (i : Nat) : Nat := (l[i]?).getD 0
theorem r1_limb_any (a : Option Addr) (c : Nat) (l : List Nat) (i : Nat) (w : World) (h : Sl w a c l) (hn : l.length ≤ 1000000) (hi : i ≤ 9223372036854775807) :
    Calls Tryz.prog 111 #[.slice a l.length c, .int .i64 i] w (Ret0 (.int .u64 (Na.limb l i : Nat)) w) := by
  by_cases hlt : i < l.length
  · obtain ⟨b, o, rfl, hb, hc⟩ := h.plain (by omega)
    have c1 := hc i hlt
    have hx := h.lt i hlt
    have e := Lib.hid (show Na.limb l i = l[i] by rw [Na.limb, List.getElem?_eq_getElem hlt]; rfl)
    obtain ⟨x, hxe⟩ : ∃ x, l[i] = x := ⟨_, rfl⟩
    rw [hxe] at c1 hx e
    clear hc hxe
    go_enter Tryz.func111, Tryz.ntmps111
    go_wp2
    go_ret
    exact Ret0.of (by rw [e.out]; rfl)
  · have e := Lib.hid (show Na.limb l i = 0 by rw [Na.limb, List.getElem?_eq_none (by omega)]; rfl)
    go_enter Tryz.func111, Tryz.ntmps111
    go_wp2
    go_ret
    exact Ret0.of (by rw [e.out]; rfl)
theorem lit_sl (w : World) (x : Nat) (hx : x < 4294967296) : Sl (w.alloc (.cells #[Value.int .u32 (x : Int)] 81)) (some ⟨w.heap.size, 0, none⟩) 1 [x] := by
  have hk : Blk (w.alloc (.cells #[Value.int .u32 (x : Int)] 81)) w.heap.size [x] := by
    show (w.heap.push _)[w.heap.size]? = _; simp [u32s]
  exact hk.sl (fun y hy => by rw [List.mem_singleton.1 hy]; exact hx) (Nat.le_refl _)
theorem Na.limb_lt {l : List Nat} (h : Na.OK l) (i : Nat) : Na.limb l i < 4294967296 := by
  rw [Na.limb]
  cases e : l[i]? with
  | none => decide
  | some x => obtain ⟨hi, rfl⟩ := List.getElem?_eq_some_iff.1 e; exact h _ (List.getElem_mem hi)
theorem Na.take_limb (l : List Nat) (k : Nat) : Na.val (l.take (k + 1)) = Na.val (l.take k) + Na.B ^ k * Na.limb l k := by
  by_cases h : k < l.length
  · rw [Na.val_take_succ l k h, Na.limb, List.getElem?_eq_getElem h]; rfl
  · rw [Na.take_more l k (by omega), Na.limb, List.getElem?_eq_none (by omega)]; rfl
theorem Na.ok_snoc {o : List Nat} {x : Nat} (h : Na.OK o) (hx : x < 4294967296) : Na.OK (o ++ [x]) := fun y hy => by
  rcases List.mem_append.1 hy with h1 | h1
  · exact h y h1
  · rw [List.mem_singleton.1 h1]; exact hx
theorem Na.plus_step {o P Q : List Nat} {k x y c s : Nat} (hl : o.length = k) (inv : Na.val o + Na.B ^ k * c = Na.val (P.take k) + Na.val (Q.take k)) (hP : Na.val (P.take (k + 1)) = Na.val (P.take k) + Na.B ^ k * x) (hQ : Na.val (Q.take (k + 1)) = Na.val (Q.take k) + Na.B ^ k * y) (hs : s = x + y + c) :
    Na.val (o ++ [s % 4294967296]) + Na.B ^ (k + 1) * (s / 4294967296) = Na.val (P.take (k + 1)) + Na.val (Q.take (k + 1)) := by
  have h1 := Na.split_digit (Na.B ^ k) s
  rw [Na.val_app, hl, hP, hQ, Nat.pow_succ]
  have h2 : Na.B ^ k * s = Na.B ^ k * x + Na.B ^ k * y + Na.B ^ k * c := by rw [hs, Nat.mul_add, Nat.mul_add]
  simp only [Na.val, Na.B, Nat.mul_zero, Nat.add_zero] at h1 h2 inv ⊢
  omega
theorem GivesZ.up {l : List Nat} {w w1 w' : World} {e : Ending} (h : GivesZ l w1 e w') (hb : Below w.heap.size w w1) : GivesZ l w e w' := by
  obtain ⟨a, c, rfl, hs, hz, hr, hb'⟩ := h
  exact ⟨a, c, rfl, hs, hz, hr.mono hb.size, hb.trans (hb'.mono hb.size)⟩
def plusLoop (P Q : List Nat) (w : World) (ov cv iv : Value) (wr : World) : Prop := ∃ (k c : Nat) (o : List Nat), k ≤ P.length + Q.length ∧ iv = .int .i64 k ∧ cv = .int .u64 c ∧ c ≤ 1 ∧ Hid (Row wr w.heap.size ov o) ∧ Hid (o.length = k) ∧ Hid (Na.OK o) ∧
  Hid (Na.val o + Na.B ^ k * c = Na.val (P.take k) + Na.val (Q.take k)) ∧ Hid (Below w.heap.size w wr) ∧ Hid (k ≤ P.length ∨ k ≤ Q.length)
theorem r1_plus_any (a : Option Addr) (c : Nat) (l : List Nat) (b : Option Addr) (d : Nat) (m : List Nat) (w : World) (h : Sl w a c l) (h' : Sl w b d m) (hn : l.length ≤ 100000) (hm : m.length ≤ 100000) :
    Calls Tryz.prog 79 #[.slice a l.length c, .slice b m.length d] w (GivesZ (Na.limbs (Na.val l + Na.val m)) w) := by
  have HS := Lib.hid h; have HS' := Lib.hid h'
  clear h h'
  go_enter Tryz.func79, Tryz.ntmps79
  go_wp2_with fail
  go_loopw [5, 6, 7] (plusLoop l m w) (fun _ _ i _ => l.length + m.length - (intOf i).toNat)
  case atStart => exact ⟨0, 0, [], Nat.zero_le _, rfl, rfl, by omega, Lib.hid (Row.nil _ _), Lib.hid rfl, Lib.hid (fun _ h => by cases h), Lib.hid (by simp [Na.val]), Lib.hid (Below.refl _ _), Lib.hid (Or.inl (Nat.zero_le _))⟩
  case round =>
    obtain ⟨k, cc, o, hk, rfl, rfl, hcc, HR, HL, HO, HInv, HB, HK⟩ := hrel
    have L1 := Lib.hid (r1_limb_any a c l k wr (HS.out.on HB.out) (by omega) (by omega))
    have L2 := Lib.hid (r1_limb_any b d m k wr (HS'.out.on HB.out) (by omega) (by omega))
    have hx := Na.limb_lt HS.out.ok k
    have hy := Na.limb_lt HS'.out.ok k
    have P1 := Na.take_limb l k
    have P2 := Na.take_limb m k
    obtain ⟨x, hxe⟩ : ∃ x, Na.limb l k = x := ⟨_, rfl⟩
    obtain ⟨y, hye⟩ : ∃ x, Na.limb m k = x := ⟨_, rfl⟩
    rw [hxe] at hx P1 L1
    rw [hye] at hy P2 L2
    obtain ⟨s, hs⟩ : ∃ s, s = x + y + cc := ⟨_, rfl⟩
    have hsi : (x : Int) + (y : Int) + (cc : Int) = (s : Int) := by omega
    have HST := Lib.hid (Na.plus_step HL.out HInv.out P1 P2 hs)
    obtain ⟨z, hz⟩ : ∃ z, z = s % 4294967296 := ⟨_, rfl⟩
    obtain ⟨c2, hc2⟩ : ∃ z, z = s / 4294967296 := ⟨_, rfl⟩
    rw [← hz, ← hc2] at HST
    have hzi : (s : Int) % 4294967296 = (z : Int) := by omega
    have hci : (s : Int) / 4294967296 = (c2 : Int) := by omega
    have hzl : z < 4294967296 := by omega
    have hc2l : c2 ≤ 1 := by omega
    have hsl : s < 18446744073709551616 := by omega
    by_cases hgo : k < l.length ∨ k < m.length
    · have HOZ := Lib.hid (Na.ok_snoc HO.out hzl)
      have HSL := Lib.hid (lit_sl wr z hzl)
      have hk2 : k + 1 ≤ l.length + m.length := by omega
      have HK2 := Lib.hid (show k + 1 ≤ l.length ∨ k + 1 ≤ m.length by omega)
      have hol : o.length ≤ 200000 := by have := HL.out; omega
      clear hxe hye hs hz hc2 P1 P2 HInv
      rcases Nat.lt_or_ge k l.length with hlt | hge
      all_goals (
        first
        | (have hd : decide ((k : Int) < (l.length : Int)) = true := decide_eq_true (by omega))
        | (have hlt2 : k < m.length := (by omega))
        clear hgo
        go_wp2_with (first | (go_at_call 111; (with_reducible refine (L1.out).mono ?_); rintro e w' ⟨rfl, rfl⟩) | (go_at_call 111; (with_reducible refine (L2.out).mono ?_); rintro e w' ⟨rfl, rfl⟩) | (at_builtin; refine app_u32 rfl _ _ 64 Tryz.underlying64 rfl w.heap.size u5 o rfl (HR.out.alloc _) (some ⟨wr.heap.size, 0, none⟩) 1 1 [z] rfl rfl HSL.out (fun e => by cases e) (by simp; omega) (by have := HB.out.size; simp; omega) ?_; intro v2 w2 hr2 hg2))
        have hB2 : Below w.heap.size w w2 := hg2.out _ _ (HB.out.alloc HB.out.size _) (Nat.le_refl _)
        go_wp2_with fail
        go_roundw
        case rel => exact ⟨k + 1, c2, o ++ [z], hk2, by go_num, rfl, hc2l, hr2, Lib.hid (by rw [List.length_append, HL.out]; rfl), HOZ, HST, Lib.hid hB2, HK2⟩
        case measure => simp [intOf]; omega)
    · have hx0 : x = 0 := by rw [← hxe, Na.limb, List.getElem?_eq_none (by omega)]; rfl
      have hval : Na.val (o ++ [cc]) = Na.val l + Na.val m := by
        have h1 := HInv.out
        rw [List.take_of_length_le (l := l) (by omega), List.take_of_length_le (l := m) (by omega)] at h1
        rw [Na.val_app, HL.out, ← h1]; simp [Na.val]
      have hccl : cc < 4294967296 := by omega
      have HOZ := Lib.hid (Na.ok_snoc HO.out hccl)
      have HSL := Lib.hid (lit_sl wr cc hccl)
      have hcut : Na.cut (o ++ [cc]) = Na.limbs (Na.val l + Na.val m) := by rw [Na.cut, hval]
      have hol : o.length ≤ 200000 := by have := HL.out; omega
      have hd1 : decide (k < l.length) = false := decide_eq_false (by omega)
      have hd2 : decide (k < m.length) = false := decide_eq_false (by omega)
      have HT := Lib.hid (fun w2 a2 c2 (hs : Sl w2 a2 c2 (o ++ [cc])) (hz : a2 = none → c2 = 0) => (by
        have := r1_trim_any a2 c2 (o ++ [cc]) w2 hs hz (by rw [List.length_append]; simp; omega)
        rw [hcut] at this; exact this : Calls Tryz.prog 83 #[.slice a2 (o ++ [cc]).length c2] w2 (GivesZ (Na.limbs (Na.val l + Na.val m)) w2)))
      have HOL := Lib.hid (show (o ++ [cc]).length = o.length + 1 by simp)
      rw [HOL.out] at HT
      clear hxe hye hs hz hc2 P1 P2 HInv hval hcut hgo hx0 HST hzi hci hsi
      go_wp2_with (first | (at_builtin; refine app_u32 rfl _ _ 64 Tryz.underlying64 rfl w.heap.size u5 o rfl (HR.out.alloc _) (some ⟨wr.heap.size, 0, none⟩) 1 1 [cc] rfl rfl HSL.out (fun e => by cases e) (by simp; omega) (by have := HB.out.size; simp; omega) ?_; intro v2 w2 hr2 hg2; have hB2 : Below w.heap.size w w2 := hg2.out _ _ (HB.out.alloc HB.out.size _) (Nat.le_refl _); obtain ⟨a2, c2', rfl, hs2, hz2⟩ := hr2.out.slz HOZ.out) | (go_at_call 83; (with_reducible refine (HT.out w2 a2 c2' hs2 hz2).mono ?_); rintro e w3 hg3; obtain ⟨a3, c3, rfl, hs3, hz3, hr3, hb3⟩ := GivesZ.up hg3 hB2))
      go_ret
      exact ⟨a3, c3, rfl, hs3, hz3, hr3, hb3⟩
theorem mk_u32s {w : World} {ops : Array Oper} {rest : List Oper} {o : Oper} {a : Act} {Q : Exit → Act → World → Prop} (hg : o.guard = none) (l c : Operand) (hop : o.op = Op.makeSlice 64 l c)
    (L C : Int) (n : Nat) (hl : a.eval l = .int .i64 L) (hc : a.eval c = .int .i64 C) (hL : L = (n : Int)) (hC : C = (n : Int)) (hn : n ≤ 1000000)
    (hK : ∀ w', Hid (Blk w' w.heap.size (List.replicate n 0)) → Hid (∀ B w0, Below B w0 w → B ≤ w.heap.size → Below B w0 w') → wpList Tryz.prog ops Q rest (a.put o.dst (.slice (some ⟨w.heap.size, 0, none⟩) n n)) w') :
    wpList Tryz.prog ops Q (o :: rest) a w := by
  obtain ⟨ti, hi, hz0, hz1, hz2⟩ := info_parts infoU32
  refine wpList_make_full w hg l c 64 hop w.heap.size 81 ti (.int .u32 0) 1 Tryz.underlying64 hi hz0 hz1 .i64 .i64 L C n hl hc hL hC (by rw [hz2]; omega) (by unfold maxLen; omega) (Nat.le_refl _) fun w' h1 h2 => hK w' (Lib.hid ?_) (Lib.hid fun B w0 hb hB => hb.grown h2 hB (fun k e => by cases e))
  exact Blk.made (by simpa [Value.cells] using h1)
def timOuter (n m' g : Nat) (q r : List Nat) (w : World) (iv : Value) (wr : World) : Prop := ∃ (k : Nat) (o : List Nat), k ≤ n ∧ iv = .int .i64 k ∧ Hid (Blk wr g o) ∧ Hid (o.length = n + m' + 1) ∧ Hid (Na.OK o) ∧ Hid (Na.val (o.take (k + m')) = Na.val (q.take k) * Na.val r) ∧ Hid (o.drop (n + m') = [0]) ∧ Hid (Below w.heap.size w wr)
def timInner (n m' g i x : Nat) (q r : List Nat) (w : World) (cv jv : Value) (wr : World) : Prop := ∃ (j c : Nat) (o : List Nat), j ≤ m' ∧ jv = .int .i64 j ∧ cv = .int .u64 c ∧ c < 4294967296 ∧ Hid (Blk wr g o) ∧ Hid (o.length = n + m' + 1) ∧ Hid (Na.OK o) ∧
  Hid (Na.val (o.take (i + m')) + Na.B ^ (i + j) * c = Na.val (q.take i) * Na.val r + Na.B ^ i * x * Na.val (r.take j)) ∧ Hid (o.drop (n + m') = [0]) ∧ Hid (Below w.heap.size w wr)
theorem Na.drop_keep {o : List Nat} {k j v : Nat} {t : List Nat} (h : o.drop k = t) (hj : j < k) : (o.set j v).drop k = t := by
  rw [List.drop_set, if_pos hj]; exact h
theorem r1_times_any (a : Option Addr) (c : Nat) (q : List Nat) (b : Option Addr) (d : Nat) (r : List Nat) (w : World) (h : Sl w a c q) (h' : Sl w b d r) (hn : q.length ≤ 100000) (hm : r.length ≤ 100000) :
    Calls Tryz.prog 50 #[.slice a q.length c, .slice b r.length d] w (GivesZ (Na.limbs (Na.val q * Na.val r)) w) := by
  have S1 := Lib.hid h; have S2 := Lib.hid h'
  obtain ⟨n, hqn⟩ : ∃ n, q.length = n := ⟨_, rfl⟩
  obtain ⟨k', hrk⟩ : ∃ k, r.length = k := ⟨_, rfl⟩
  rw [hqn, hrk]
  rw [hqn] at hn; rw [hrk] at hm
  have HQ := Lib.hid hqn; have HR := Lib.hid hrk
  clear hqn hrk h h'
  go_enter Tryz.func50, Tryz.ntmps50
  go_wp2_with (first | (at_make; refine mk_u32s rfl _ _ rfl _ _ (n + k' + 1) rfl rfl (by simp) (by simp) (by omega) ?_))
  intro w1 hK hgrow
  have hHB := Lib.hid (hgrow.out _ _ (Below.refl _ _) (Nat.le_refl _))
  obtain ⟨g, hgg, hg⟩ : ∃ g, g = w.heap.size ∧ w.heap.size ≤ g := ⟨_, rfl, by omega⟩
  rw [← hgg] at hK ⊢
  clear hgg hgrow
  go_wp2_with fail
  go_loopw [6] (timOuter n k' g q r w) (fun i _ => n - (intOf i).toNat)
  case atStart => exact ⟨0, _, Nat.zero_le _, rfl, hK, Lib.hid (by simp), Lib.hid (by intro x hx; rw [List.eq_of_mem_replicate hx]; decide), Lib.hid (by rw [List.take_replicate, Na.val_zeros]; simp [Na.val]), Lib.hid (by rw [List.drop_replicate, show n + k' + 1 - (n + k') = 1 by omega]; rfl), hHB⟩
  case round =>
    clear hK hHB
    obtain ⟨i, o, hik, rfl, HBl, HOl, HOk, HInv, HZ, HBe⟩ := hrel
    by_cases hlt : i < n
    · have hq1 : i < q.length := by have := HQ.out; omega
      have hx := S1.out.lt i hq1
      have VP := Lib.hid (Na.val_take_succ q i hq1)
      obtain ⟨x, hxe⟩ : ∃ x, q[i]'hq1 = x := ⟨_, rfl⟩
      rw [hxe] at hx VP
      have HXE := Lib.hid hxe
      clear hxe
      go_wp2_with fail
      go_loopw [7, 8] (timInner n k' g i x q r w) (fun _ j _ => k' - (intOf j).toNat)
      case atStart => exact ⟨0, 0, o, Nat.zero_le _, rfl, rfl, by omega, HBl, HOl, HOk, Lib.hid (by rw [HInv.out]; simp [Na.val]), HZ, HBe⟩
      case round =>
        clear HBl HOl HOk HInv HZ HBe
        obtain ⟨j, cc, o2, hjk, rfl, rfl, hcc, HBl, HOl, HOk, HInv, HZ, HBe⟩ := hrel
        by_cases hlt2 : j < k'
        · have hr1 : j < r.length := by have := HR.out; omega
          obtain ⟨b1, o1, rfl, hb1, hc1⟩ := (S1.out.on HBe.out).plain (by omega)
          have c1 := hc1 i hq1
          rw [HXE.out] at c1
          obtain ⟨b2, o3, rfl, hb2, hc2⟩ := (S2.out.on HBe.out).plain (by omega)
          have c2 := hc2 j hr1
          have hy := S2.out.lt j hr1
          have VQ := Lib.hid (Na.val_take_succ r j hr1)
          obtain ⟨y, hye⟩ : ∃ x, r[j]'hr1 = x := ⟨_, rfl⟩
          rw [hye] at c2 hy VQ
          clear hc1 hc2 hye
          have ho1 : i + j < o2.length := by have := HOl.out; omega
          have co := HBl.out.cell (i + j) ho1
          have fo := HBl.out.frozen (i + j)
          have hz : o2[i + j] < 4294967296 := HOk.out _ (List.getElem_mem ho1)
          obtain ⟨z, hze⟩ : ∃ x, o2[i + j]'ho1 = x := ⟨_, rfl⟩
          rw [hze] at co hz
          obtain ⟨hp1, hp2⟩ := Na.prod_le x y z cc hx hy hz hcc
          have HS := Lib.hid (Na.mul_step o2 (i + k') i j x y z cc _ _ _ (by omega) ho1 hze HInv.out VQ.out)
          clear hze
          obtain ⟨p, hp⟩ : ∃ p, p = x * y := ⟨_, rfl⟩
          rw [← hp] at hp1 hp2 HS
          have hpi : (x : Int) * (y : Int) = (p : Int) := by rw [hp]; simp
          have hcn : (p + z + cc) / 4294967296 < 4294967296 := by omega
          have HZ2 := Lib.hid (Na.drop_keep (v := (p + z + cc) % 4294967296) (j := i + j) HZ.out (by omega))
          clear hp
          go_wp2_with fail
          go_quiet (fail)
          go_wp2_with fail
          go_roundw
          case rel => exact ⟨j + 1, (p + z + cc) / 4294967296, o2.set (i + j) ((p + z + cc) % 4294967296), by omega, by go_num, by go_num, hcn, Lib.hid (HBl.out.drew.set _ _), Lib.hid (by rw [List.length_set]; exact HOl.out), Lib.hid (Na.ok_set HOk.out _ _ (by omega)), HS, HZ2, Lib.hid (by have hbe := HBe.out; (repeat (first | exact Below.refl _ _ | assumption | refine Below.setCell ?_ (by first | omega | (simp <;> omega)) _ | refine Below.alloc ?_ (by first | omega | (simp <;> omega)) _ | refine Below.drew ?_ | refine below_drewN' ?_ _)))⟩
          case measure => simp [intOf]; omega
        · obtain rfl : j = k' := by omega
          have ho1 : i + j < o2.length := by have := HOl.out; omega
          have co := HBl.out.cell (i + j) ho1
          have fo := HBl.out.frozen (i + j)
          have HS := Lib.hid (show Na.val ((o2.set (i + j) cc).take (i + 1 + j)) = Na.val (q.take (i + 1)) * Na.val r by
            rw [show i + 1 + j = i + j + 1 by omega, Na.val_set_take o2 _ cc ho1, HInv.out, List.take_of_length_le (l := r) (by rw [HR.out]; exact Nat.le_refl _)]
            exact Na.mul_row q r i x VP.out)
          have HZ2 := Lib.hid (Na.drop_keep (v := cc) (j := i + j) HZ.out (by omega))
          go_wp2_with fail
          go_roundw
          case rel => exact ⟨i + 1, o2.set (i + j) cc, by omega, by go_num, Lib.hid (HBl.out.set _ _), Lib.hid (by rw [List.length_set]; exact HOl.out), Lib.hid (Na.ok_set HOk.out _ _ hcc), HS, HZ2, Lib.hid (by have hbe := HBe.out; (repeat (first | exact Below.refl _ _ | assumption | refine Below.setCell ?_ (by first | omega | (simp <;> omega)) _ | refine Below.alloc ?_ (by first | omega | (simp <;> omega)) _ | refine Below.drew ?_ | refine below_drewN' ?_ _)))⟩
          case measure => simp [intOf]; omega
    · obtain rfl : i = n := by omega
      have hv : Na.val o = Na.val q * Na.val r := by
        have h1 := HInv.out
        rw [List.take_of_length_le (l := q) (by rw [HQ.out]; exact Nat.le_refl _)] at h1
        rw [Na.val_take_drop o (i + k') (by rw [HOl.out]; omega), HZ.out, h1]
        simp [Na.val]
      have hcut : Na.cut o = Na.limbs (Na.val q * Na.val r) := by rw [Na.cut, hv]
      have ht := r1_trim_any (some ⟨g, 0, none⟩) (i + k' + 1) o wr (HBl.out.sl HOk.out (by rw [HOl.out]; exact Nat.le_refl _)) (fun e => by cases e) (by rw [HOl.out]; omega)
      rw [HOl.out, hcut] at ht
      have HT := Lib.hid ht
      clear hv hcut ht
      go_wp2_with (first | (go_at_call 83; (with_reducible refine (HT.out).mono ?_); rintro e w3 hg3; obtain ⟨a3, c3, rfl, hs3, hz3, hr3, hb3⟩ := GivesZ.up hg3 HBe.out))
      go_ret
      exact ⟨a3, c3, rfl, hs3, hz3, hr3, hb3⟩
theorem Na.len_sum {x y j k : Nat} (h : x < Na.B ^ j) (h' : y < Na.B ^ k) : (Na.limbs (x + y)).length ≤ j + k + 1 := by
  refine Na.limbs_len_le _ _ ?_
  have h1 : x < Na.B ^ (j + k) := Nat.lt_of_lt_of_le h (Nat.pow_le_pow_right (by decide) (by omega))
  have h2 : y < Na.B ^ (j + k) := Nat.lt_of_lt_of_le h' (Nat.pow_le_pow_right (by decide) (by omega))
  rw [Nat.pow_succ]
  have : Na.B ^ (j + k) * 2 ≤ Na.B ^ (j + k) * Na.B := Nat.mul_le_mul_left _ (by decide)
  omega
theorem Na.len_prod {x y j k : Nat} (h : x < Na.B ^ j) (h' : y < Na.B ^ k) : (Na.limbs (x * y)).length ≤ j + k := by
  refine Na.limbs_len_le _ _ ?_
  rw [Nat.pow_add]
  exact Nat.mul_lt_mul_of_lt_of_le h (Nat.le_of_lt h') (Nat.pow_pos (by decide))
def GvF (q : List Nat × Int) (w : World) (e : Ending) (w' : World) : Prop := ∃ a c, e = .returned (.tuple #[.slice a q.1.length c, .int .i64 q.2]) ∧ Sl w' a c q.1 ∧ Below w.heap.size w w'
theorem GvF.up {q : List Nat × Int} {w w1 w' : World} {e : Ending} (h : GvF q w1 e w') (hb : Below w.heap.size w w1) : GvF q w e w' := by
  obtain ⟨a, c, rfl, hs, hb'⟩ := h
  exact ⟨a, c, rfl, hs, hb.trans (hb'.mono hb.size)⟩
theorem Na.twice_step {o P : List Nat} {k x c s M : Nat} (hl : o.length = k) (inv : Na.val o + Na.B ^ k * c = 2 * Na.val (P.take k) + M) (hP : Na.val (P.take (k + 1)) = Na.val (P.take k) + Na.B ^ k * x) (hs : s = 2 * x + c) :
    Na.val (o ++ [s % 4294967296]) + Na.B ^ (k + 1) * (s / 4294967296) = 2 * Na.val (P.take (k + 1)) + M := by
  have h1 := Na.split_digit (Na.B ^ k) s
  rw [Na.val_app, hl, hP, Nat.pow_succ]
  have h2 : Na.B ^ k * s = 2 * (Na.B ^ k * x) + Na.B ^ k * c := by rw [hs, Nat.mul_add, Nat.mul_left_comm]
  simp only [Na.val, Na.B, Nat.mul_zero, Nat.add_zero] at h1 h2 inv ⊢
  omega
def twiceLoop (P : List Nat) (M : Nat) (w : World) (ov cv iv : Value) (wr : World) : Prop := ∃ (k c : Nat) (o : List Nat), k ≤ P.length ∧ iv = .int .i64 k ∧ cv = .int .u64 c ∧ c ≤ 1 ∧ Hid (Row wr w.heap.size ov o) ∧ Hid (o.length = k) ∧ Hid (Na.OK o) ∧
  Hid (Na.val o + Na.B ^ k * c = 2 * Na.val (P.take k) + M) ∧ Hid (Below w.heap.size w wr)
theorem r1_twice_any (a : Option Addr) (c : Nat) (l : List Nat) (more : Bool) (w : World) (h : Sl w a c l) (hn : l.length ≤ 100000) :
    Calls Tryz.prog 84 #[.slice a l.length c, .bool more] w (GivesZ (Na.limbs (2 * Na.val l + more.toNat)) w) := by
  have HS := Lib.hid h
  obtain ⟨M, hM⟩ : ∃ M, M = more.toNat := ⟨_, rfl⟩
  rw [← hM]
  have hM1 : M ≤ 1 := by rw [hM]; cases more <;> decide
  obtain ⟨n, hnl⟩ : ∃ n, l.length = n := ⟨_, rfl⟩
  have HN := Lib.hid hnl
  rw [hnl]; rw [hnl] at hn
  clear h hnl
  have hcase : (M = 0 ∧ more = false) ∨ (M = 1 ∧ more = true) := by rw [hM]; cases more <;> simp
  clear hM
  rcases hcase with ⟨rfl, rfl⟩ | ⟨rfl, rfl⟩
  all_goals (
    go_enter Tryz.func84, Tryz.ntmps84
    go_wp2_with fail
    first
    | go_loopw [5, 6, 7] (twiceLoop l 0 w) (fun _ _ i _ => n - (intOf i).toNat)
      case atStart => exact ⟨0, 0, [], Nat.zero_le _, rfl, rfl, by omega, Lib.hid (Row.nil _ _), Lib.hid rfl, Lib.hid (fun _ h => by cases h), Lib.hid (by simp [Na.val]), Lib.hid (Below.refl _ _)⟩
    | go_loopw [5, 6, 7] (twiceLoop l 1 w) (fun _ _ i _ => n - (intOf i).toNat)
      case atStart => exact ⟨0, 1, [], Nat.zero_le _, rfl, rfl, by omega, Lib.hid (Row.nil _ _), Lib.hid rfl, Lib.hid (fun _ h => by cases h), Lib.hid (by simp [Na.val]), Lib.hid (Below.refl _ _)⟩
    case round =>
      obtain ⟨k, cc, o, hk, rfl, rfl, hcc, HR, HL, HO, HInv, HB⟩ := hrel
      rw [HN.out] at hk
      by_cases hlt : k < n
      · have hk1 : k < l.length := by rw [HN.out]; exact hlt
        obtain ⟨b, ob, rfl, hbl, hcell⟩ := (HS.out.on HB.out).plain (by omega)
        have c1 := hcell k hk1
        have hx := HS.out.lt k hk1
        have P1 := Na.val_take_succ l k hk1
        obtain ⟨x, hxe⟩ : ∃ x, l[k]'hk1 = x := ⟨_, rfl⟩
        rw [hxe] at c1 hx P1
        obtain ⟨s, hs⟩ : ∃ s, s = 2 * x + cc := ⟨_, rfl⟩
        have hsi : 2 * (x : Int) + (cc : Int) = (s : Int) := by omega
        have HST := Lib.hid (Na.twice_step HL.out HInv.out P1 hs)
        obtain ⟨z, hz⟩ : ∃ z, z = s % 4294967296 := ⟨_, rfl⟩
        obtain ⟨c2, hc2⟩ : ∃ z, z = s / 4294967296 := ⟨_, rfl⟩
        rw [← hz, ← hc2] at HST
        have hzi : (s : Int) % 4294967296 = (z : Int) := by omega
        have hci : (s : Int) / 4294967296 = (c2 : Int) := by omega
        have hzl : z < 4294967296 := by omega
        have hc2l : c2 ≤ 1 := by omega
        have hsl : s < 18446744073709551616 := by omega
        have HOZ := Lib.hid (Na.ok_snoc HO.out hzl)
        have HSL := Lib.hid (lit_sl wr z hzl)
        have hol : o.length ≤ 200000 := by have := HL.out; omega
        clear hxe hs hz hc2 P1 HInv hcell
        go_wp2_with (first | (at_builtin; refine app_u32 rfl _ _ 64 Tryz.underlying64 rfl w.heap.size u5 o rfl (HR.out.alloc _) (some ⟨wr.heap.size, 0, none⟩) 1 1 [z] rfl rfl HSL.out (fun e => by cases e) (by simp; omega) (by have := HB.out.size; simp; omega) ?_; intro v2 w2 hr2 hg2))
        have hB2 : Below w.heap.size w w2 := hg2.out _ _ (HB.out.alloc HB.out.size _) (Nat.le_refl _)
        go_wp2_with fail
        go_roundw
        case rel => exact ⟨k + 1, c2, o ++ [z], by rw [HN.out]; omega, by go_num, rfl, hc2l, hr2, Lib.hid (by rw [List.length_append, HL.out]; rfl), HOZ, HST, Lib.hid hB2⟩
        case measure => simp [intOf]; omega
      · obtain rfl : k = n := by omega
        have hval := HInv.out
        rw [List.take_of_length_le (l := l) (by rw [HN.out]; exact Nat.le_refl _)] at hval
        have hccl : cc < 4294967296 := by omega
        have HOZ := Lib.hid (Na.ok_snoc HO.out hccl)
        have HSL := Lib.hid (lit_sl wr cc hccl)
        have hv2 : Na.val (o ++ [cc]) = Na.val o + Na.B ^ k * cc := by rw [Na.val_app, HL.out]; simp [Na.val]
        have hol : o.length ≤ 200000 := by have := HL.out; omega
        have HT := Lib.hid (fun w2 a2 c2 (hs : Sl w2 a2 c2 (o ++ [cc])) (hz : a2 = none → c2 = 0) => (by
          have := r1_trim_any a2 c2 (o ++ [cc]) w2 hs hz (by rw [List.length_append]; simp; omega)
          rw [show (o ++ [cc]).length = o.length + 1 by simp, Na.cut, hv2, hval] at this
          exact this : Calls Tryz.prog 83 #[.slice a2 (o.length + 1) c2] w2 (GivesZ _ w2)))
        clear hval hv2 HInv
        go_wp2_with (first | (at_builtin; refine app_u32 rfl _ _ 64 Tryz.underlying64 rfl w.heap.size u5 o rfl (HR.out.alloc _) (some ⟨wr.heap.size, 0, none⟩) 1 1 [cc] rfl rfl HSL.out (fun e => by cases e) (by simp; omega) (by have := HB.out.size; simp; omega) ?_; intro v2 w2 hr2 hg2; have hB2 : Below w.heap.size w w2 := hg2.out _ _ (HB.out.alloc HB.out.size _) (Nat.le_refl _); obtain ⟨a2, c2', rfl, hs2, hz2⟩ := hr2.out.slz HOZ.out) | (go_at_call 83; (with_reducible refine (HT.out w2 a2 c2' hs2 hz2).mono ?_); rintro e w3 hg3; obtain ⟨a3, c3, rfl, hs3, hz3, hr3, hb3⟩ := GivesZ.up hg3 hB2))
        go_ret
        exact ⟨a3, c3, rfl, hs3, hz3, hr3, hb3⟩)
theorem Blk.row {w : World} {g B : Nat} {o : List Nat} (h : Blk w g o) (hB : B ≤ g) (hl : o.length ≤ 1000000) : Row w B (.slice (some ⟨g, 0, none⟩) o.length o.length) o :=
  ⟨by rw [u32s_len, Nat.mul_one], .inr ⟨g, o.length, (u32s o).toArray, rfl, hB, h, Nat.le_refl _, by unfold maxLen; omega, by simp [u32s], by rw [Nat.mul_one]; exact List.take_of_length_le (by simp [u32s])⟩⟩
section
variable (a : Option Addr) (c : Nat) (l : List Nat) (n : Int) (w : World) (h : Sl w a c l) (hz : a = none → c = 0) (hn : l.length ≤ 100000) (hi : -9223372036854775808 ≤ n ∧ n ≤ 9223372036854775807)
include h hz hn hi
end
def Na.bit (N i : Nat) : Bool := decide (N / 2 ^ i % 2 = 1)
theorem Na.bit_limb {l : List Nat} (h : Na.OK l) (i k r : Nat) (hi : i = 32 * k + r) (hr : r < 32) : Na.val l / 2 ^ i % 2 = Na.limb l k / 2 ^ r % 2 := by
  by_cases hk : k < l.length
  · have h1 := Na.val_take_drop l k (by omega)
    rw [Na.val_drop_at l k hk] at h1
    have h2 : Na.val (l.take k) < Na.B ^ k := by
      have := Na.val_lt (l.take k) (Na.ok_take h k)
      rwa [List.length_take, Nat.min_eq_left (by omega)] at this
    have h3 : Na.limb l k = l[k] := by rw [Na.limb, List.getElem?_eq_getElem hk]; rfl
    rw [hi, Nat.pow_add, ← Nat.div_div_eq_div_mul, show 2 ^ (32 * k) = Na.B ^ k by rw [Nat.pow_mul], h1, Nat.add_mul_div_left _ _ (Nat.pow_pos (by decide)), Nat.div_eq_of_lt h2, Nat.zero_add, h3]
    have e : Na.B = 2 ^ r * (2 * 2 ^ (31 - r)) := by rw [← Nat.pow_succ', ← Nat.pow_add, show r + (31 - r).succ = 32 by omega]
    rw [e, Nat.mul_assoc, Nat.add_mul_div_left _ _ (Nat.pow_pos (by decide)), Nat.mul_assoc, Nat.add_mul_mod_self_left]
  · have h1 := Na.val_lt l h
    have h2 : Na.val l < 2 ^ i := by
      rw [show Na.B ^ l.length = 2 ^ (32 * l.length) by rw [Nat.pow_mul]] at h1
      exact Nat.lt_of_lt_of_le h1 (Nat.pow_le_pow_right (by decide) (by omega))
    rw [Nat.div_eq_of_lt h2, Na.limb, List.getElem?_eq_none (by omega)]; simp
theorem r1_bit_any (a : Option Addr) (c : Nat) (l : List Nat) (i : Nat) (w : World) (h : Sl w a c l) (hn : l.length ≤ 1000000) (hi : i ≤ 100000000) :
    Calls Tryz.prog 81 #[.slice a l.length c, .int .i64 i] w (Ret0 (.bool (Na.bit (Na.val l) i)) w) := by
  obtain ⟨k, hk⟩ : ∃ k, k = i / 32 := ⟨_, rfl⟩
  obtain ⟨r, hr⟩ : ∃ k, k = i % 32 := ⟨_, rfl⟩
  have H1 := Lib.hid (r1_limb_any a c l k w h hn (by omega))
  have hbl := Na.bit_limb h.ok i k r (by omega) (by omega)
  have hx := Na.limb_lt h.ok k
  obtain ⟨x, hxe⟩ : ∃ x, x = Na.limb l k := ⟨_, rfl⟩
  rw [← hxe] at H1 hbl hx
  have hki : (i : Int) / 32 = (k : Int) := by omega
  have hri : (i : Int) % 32 = (r : Int) := by omega
  have hr32 : r < 32 := by omega
  obtain ⟨M, hM⟩ : ∃ M, M = 2 ^ r := ⟨_, rfl⟩
  have hMi : ((2 : Int) ^ r) = (M : Int) := by rw [hM]; simp
  have hM1 : 1 ≤ M := by rw [hM]; exact Nat.pow_pos (by decide)
  have e := Lib.hid (show ((x : Int) / (M : Int) % 2 == 1) = Na.bit (Na.val l) i by
    rw [Na.bit, hbl, hM, Bool.eq_iff_iff]
    simp only [beq_iff_eq, decide_eq_true_eq]
    omega)
  clear hbl hxe hk hr hM
  go_enter Tryz.func81, Tryz.ntmps81
  go_wp2_with (first | (go_at_call 111; (with_reducible refine (H1.out).mono ?_); rintro e w' ⟨rfl, rfl⟩))
  go_ret
  exact Ret0.of (by rw [← e.out]; rfl)
section
variable (a : Option Addr) (c : Nat) (l : List Nat) (n : Int) (w : World) (h : Sl w a c l) (hz : a = none → c = 0) (hn : l.length ≤ 100000) (hi : -9223372036854775808 ≤ n ∧ n ≤ 9223372036854775807)
include h hz hn hi
end
end Go.Proofs.YtiglekomfgfilaaGreatDoor
