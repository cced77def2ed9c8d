/- Mul. -/
import Derived.Test.YtiglekomfgfilaaGreatDoorY3
import Derived.BigRegion
namespace Go.Proofs.YtiglekomfgfilaaGreatDoor
set_option maxRecDepth 100000
set_option maxHeartbeats 2000000
set_option linter.all false
open Go.RowKit
theorem Blk.drew {w : World} {g n : Nat} {o : List Nat} (h : Blk w g o) : Blk (w.drewN n) g o := h
def mulOuter (n m' g : Nat) (q r : List Nat) (w : World) (iv : Value) (wr : World) : Prop := ∃ (k : Nat) (o : List Nat), k ≤ n ∧ iv = .int .i64 k ∧ Hid (Blk wr g o) ∧ Hid (o.length = n + m') ∧ Hid (Na.OK o) ∧ Hid (Na.val (o.take (k + m')) = Na.val (q.take k) * Na.val r) ∧ Hid (Below w.heap.size w wr)
def mulInner (n m' g i x : Nat) (q r : List Nat) (w : World) (cv jv : Value) (wr : World) : Prop := ∃ (j c : Nat) (o : List Nat), j ≤ m' ∧ jv = .int .i64 j ∧ cv = .int .u64 c ∧ c < 4294967296 ∧ Hid (Blk wr g o) ∧ Hid (o.length = n + m') ∧ Hid (Na.OK o) ∧
  Hid (Na.val (o.take (i + m')) + Na.B ^ (i + j) * c = Na.val (q.take i) * Na.val r + Na.B ^ i * x * Na.val (r.take j)) ∧ Hid (Below w.heap.size w wr)
theorem na_mul_big (a : Option Addr) (c : Nat) (l : List Nat) (b : Option Addr) (d : Nat) (m : List Nat) (w : World) (h : Sl w a c l) (h' : Sl w b d m) (hn : l.length ≤ 1000000) (hm : m.length ≤ 1000000) (hbig : (Na.big l || Na.big m) = true) :
    Calls Tryz.prog 93 #[.slice a l.length c, .slice b m.length d] w (GivesE (Na.mul l m) w) := by
  have H1 := Lib.hid (na_over2_any h h' hn hm true hbig)
  have e2 := Lib.hid (show Na.mul l m = ([], 2) from if_pos hbig)
  have hB : Below w.heap.size w (w.alloc (Obj.cells #[Value.slice a l.length c, Value.slice b m.length d] 100)) := (Below.refl _ _).alloc (Nat.le_refl _) _
  clear hbig
  go_enter Tryz.func93, Tryz.ntmps93
  go_wp2_with (first | (go_at_call 112; (with_reducible refine (H1.out).mono ?_); rintro e w' ⟨rfl, rfl⟩))
  refine bodyPost_ret (v := .tuple #[.slice none 0 0, .int .i64 2]) (by simp [results, Tryz.results93, go_sem]) rfl ⟨none, 0, ?_, ?_, ?_, hB⟩ <;> rw [e2.out]
  · rfl
  · exact Sl.nil _ _ _
  · exact Own.nil _ _ _
theorem na_mul_ok (a : Option Addr) (c : Nat) (l : List Nat) (b : Option Addr) (d : Nat) (m : List Nat) (w : World) (h : Sl w a c l) (h' : Sl w b d m) (hn : l.length ≤ 1000000) (hm : m.length ≤ 1000000) (hbig : (Na.big l || Na.big m) = false) :
    Calls Tryz.prog 93 #[.slice a l.length c, .slice b m.length d] w (GivesE (Na.mul l m) w) := by
  have H1 := Lib.hid (na_over2_any h h' hn hm false hbig)
  have E2 := Lib.hid (show Na.mul l m = Na.fits (Na.val l * Na.val m) from if_neg (by simp [hbig]))
  have hB : Below w.heap.size w (w.alloc (Obj.cells #[Value.slice a l.length c, Value.slice b m.length d] 100)) := (Below.refl _ _).alloc (Nat.le_refl _) _
  have H2 := Lib.hid (na_cut_any a c l _ (h.on hB) hn)
  have H3 := Lib.hid (na_cut_any b d m _ (h'.on hB) hm)
  obtain ⟨hl1, hl2⟩ := Na.not_big hbig
  have S1 := h.cut
  have S2 := h'.cut
  have V1 := Lib.hid (Na.val_cut (a := l))
  have V2 := Lib.hid (Na.val_cut (a := m))
  obtain ⟨q, hq⟩ : ∃ q, q = Na.cut l := ⟨_, rfl⟩
  obtain ⟨r, hr⟩ : ∃ r, r = Na.cut m := ⟨_, rfl⟩
  rw [← hq] at H2 hl1 S1 V1
  rw [← hr] at H3 hl2 S2 V2
  clear hq hr hbig
  obtain ⟨n, hqn⟩ : ∃ n, q.length = n := ⟨_, rfl⟩
  obtain ⟨k', hrk⟩ : ∃ k, r.length = k := ⟨_, rfl⟩
  rw [hqn] at H2 hl1
  rw [hrk] at H3 hl2
  have HQ := Lib.hid hqn; have HR := Lib.hid hrk
  clear hqn hrk
  obtain ⟨ti, hi, hz0, hz1, hz2⟩ := info_parts infoU32
  go_enter Tryz.func93, Tryz.ntmps93
  go_wp2_with (first | (go_at_call 112; (with_reducible refine (H1.out).mono ?_); rintro e w' ⟨rfl, rfl⟩) | (go_at_call 115; (with_reducible refine (H2.out).mono ?_); rintro e w' ⟨rfl, rfl⟩) | (go_at_call 115; (with_reducible refine (H3.out).mono ?_); rintro e w' ⟨rfl, rfl⟩) | (at_make; refine wpList_make_full _ rfl _ _ 100 rfl w.heap.size 81 ti (.int .u32 0) 1 Tryz.underlying100 hi hz0 hz1 .i64 .i64 _ _ (n + k') rfl rfl rfl rfl (by rw [hz2]; omega) (by unfold maxLen; omega) (by simp [World.size_alloc]) ?_))
  intro w1 hown hgrow
  have hB1 : Below w.heap.size w w1 := hB.grown hgrow (by simp [World.size_alloc]) (fun k e => by cases e)
  have hK := Lib.hid (Blk.made hown)
  have hHB := Lib.hid hB1
  clear hown hgrow hz2 hz1 hz0 hi ti hB hB1
  obtain ⟨g, hgg, hg⟩ : ∃ g, g = w.heap.size + 1 ∧ w.heap.size ≤ g := ⟨_, rfl, by omega⟩
  rw [← hgg] at hK ⊢
  clear hgg
  go_wp2_with fail
  go_loopw [27] (mulOuter n k' g q r w) (fun i _ => n - (intOf i).toNat)
  case atStart => exact ⟨0, _, Nat.zero_le _, rfl, hK, Lib.hid (by simp), Lib.hid (by intro x hx; rw [List.eq_of_mem_replicate hx]; decide), Lib.hid (by rw [List.take_replicate, Na.val_zeros]; simp [Na.val]), hHB⟩
  case round =>
    obtain ⟨i, o, hik, rfl, HBl, HOl, HOk, HInv, HBe⟩ := hrel
    by_cases hlt : i < n
    · have hq1 : i < q.length := by have := HQ.out; omega
      have hx := S1.lt i hq1
      have VP := Lib.hid (Na.val_take_succ q i hq1)
      obtain ⟨x, hxe⟩ : ∃ x, q[i]'hq1 = x := ⟨_, rfl⟩
      rw [hxe] at hx VP
      have HXE := Lib.hid hxe
      clear hxe
      go_wp2_with fail
      go_loopw [8, 32] (mulInner n k' g i x q r w) (fun _ j _ => k' - (intOf j).toNat)
      case atStart => exact ⟨0, 0, o, Nat.zero_le _, rfl, rfl, by omega, HBl, HOl, HOk, Lib.hid (by rw [HInv.out]; simp [Na.val]), HBe⟩
      case round =>
        clear HBl HOl HOk HInv HBe
        obtain ⟨j, cc, o2, hjk, rfl, rfl, hcc, HBl, HOl, HOk, HInv, HBe⟩ := hrel
        by_cases hlt2 : j < k'
        · have hr1 : j < r.length := by have := HR.out; omega
          obtain ⟨b1, o1, rfl, hb1, hc1⟩ := (S1.on HBe.out).plain (by omega)
          have c1 := hc1 i hq1
          rw [HXE.out] at c1
          obtain ⟨b2, o3, rfl, hb2, hc2⟩ := (S2.on HBe.out).plain (by omega)
          have c2 := hc2 j hr1
          have hy := S2.lt j hr1
          have VQ := Lib.hid (Na.val_take_succ r j hr1)
          obtain ⟨y, hye⟩ : ∃ x, r[j]'hr1 = x := ⟨_, rfl⟩
          rw [hye] at c2 hy VQ
          clear hc1 hc2 hye
          have ho1 : i + j < o2.length := by have := HOl.out; omega
          have co := HBl.out.cell (i + j) ho1
          have fo := HBl.out.frozen (i + j)
          have hz : o2[i + j] < 4294967296 := HOk.out _ (List.getElem_mem ho1)
          obtain ⟨z, hze⟩ : ∃ x, o2[i + j]'ho1 = x := ⟨_, rfl⟩
          rw [hze] at co hz
          obtain ⟨hp1, hp2⟩ := Na.prod_le x y z cc hx hy hz hcc
          have HS := Lib.hid (Na.mul_step o2 (i + k') i j x y z cc _ _ _ (by omega) ho1 hze HInv.out VQ.out)
          clear hze
          obtain ⟨p, hp⟩ : ∃ p, p = x * y := ⟨_, rfl⟩
          rw [← hp] at hp1 hp2 HS
          have hpi : (x : Int) * (y : Int) = (p : Int) := by rw [hp]; simp
          have hcn : (p + z + cc) / 4294967296 < 4294967296 := by omega
          clear hp
          go_wp2_with fail
          go_quiet (fail)
          go_wp2_with fail
          go_roundw
          case rel => exact ⟨j + 1, (p + z + cc) / 4294967296, o2.set (i + j) ((p + z + cc) % 4294967296), by omega, by go_num, by go_num, hcn, Lib.hid (HBl.out.drew.set _ _), Lib.hid (by rw [List.length_set]; exact HOl.out), Lib.hid (Na.ok_set HOk.out _ _ (by omega)), HS, Lib.hid (by have hbe := HBe.out; (repeat (first | exact Below.refl _ _ | assumption | refine Below.setCell ?_ (by first | omega | (simp <;> omega)) _ | refine Below.alloc ?_ (by first | omega | (simp <;> omega)) _ | refine Below.drew ?_ | refine below_drewN' ?_ _)))⟩
          case measure => simp [intOf]; omega
        · obtain rfl : j = k' := by omega
          have ho1 : i + j < o2.length := by have := HOl.out; omega
          have co := HBl.out.cell (i + j) ho1
          have fo := HBl.out.frozen (i + j)
          have HS := Lib.hid (show Na.val ((o2.set (i + j) cc).take (i + 1 + j)) = Na.val (q.take (i + 1)) * Na.val r by
            rw [show i + 1 + j = i + j + 1 by omega, Na.val_set_take o2 _ cc ho1, HInv.out, List.take_of_length_le (l := r) (by rw [HR.out]; exact Nat.le_refl _)]
            exact Na.mul_row q r i x VP.out)
          go_wp2_with fail
          go_roundw
          case rel => exact ⟨i + 1, o2.set (i + j) cc, by omega, by go_num, Lib.hid (HBl.out.set _ _), Lib.hid (by rw [List.length_set]; exact HOl.out), Lib.hid (Na.ok_set HOk.out _ _ hcc), HS, Lib.hid (by have hbe := HBe.out; (repeat (first | exact Below.refl _ _ | assumption | refine Below.setCell ?_ (by first | omega | (simp <;> omega)) _ | refine Below.alloc ?_ (by first | omega | (simp <;> omega)) _ | refine Below.drew ?_ | refine below_drewN' ?_ _)))⟩
          case measure => simp [intOf]; omega
    · obtain rfl : i = n := by omega
      have hv : Na.val o = Na.val l * Na.val m := by
        have := HInv.out
        rwa [List.take_of_length_le (by rw [HOl.out]; exact Nat.le_refl _), List.take_of_length_le (by rw [HQ.out]; exact Nat.le_refl _), V1.out, V2.out] at this
      have HF := na_fits_any (some ⟨g, 0, none⟩) (i + k') o wr (HBl.out.sl HOk.out (by rw [HOl.out]; exact Nat.le_refl _)) (by rw [HOl.out]; omega)
      rw [HOl.out] at HF
      have HG := Lib.hid (fun e w' (hg' : FitsR (some ⟨g, 0, none⟩) o wr e w') => (by have := hg'.gives HBe.out hg HBl.out; rwa [hv, ← E2.out] at this : GivesE (Na.mul l m) w e w'))
      have HF' := Lib.hid HF
      clear hv HF
      go_wp2_with (first | (go_at_call 117; (with_reducible refine (HF'.out).mono ?_); intro e w' hg; obtain ⟨a', c', rfl, hs, ho, hb⟩ := HG.out e w' hg))
      refine bodyPost_ret (v := .tuple #[.slice a' (Na.mul l m).1.length c', .int .i64 (Na.mul l m).2]) (by simp [results, Tryz.results93, go_sem]) rfl ⟨a', c', rfl, hs, ho, hb⟩
theorem na_mul_any (a : Option Addr) (c : Nat) (l : List Nat) (b : Option Addr) (d : Nat) (m : List Nat) (w : World) (h : Sl w a c l) (h' : Sl w b d m) (hn : l.length ≤ 1000000) (hm : m.length ≤ 1000000) :
    Calls Tryz.prog 93 #[.slice a l.length c, .slice b m.length d] w (GivesE (Na.mul l m) w) := by
  cases e : (Na.big l || Na.big m) with
  | true => exact na_mul_big a c l b d m w h h' hn hm e
  | false => exact na_mul_ok a c l b d m w h h' hn hm e
end Go.Proofs.YtiglekomfgfilaaGreatDoor

/- Plain Lean: division by one limb. -/
namespace Go.Proofs.YtiglekomfgfilaaGreatDoor.Na
set_option linter.all false
open Go
theorem short_step (N d : Nat) (o : List Nat) (n t r z : Nat) (ht : t < n) (hto : t < o.length) (hz : o[t] = z)
    (inv : N + d * val (o.take (t + 1)) = val (o.take (t + 1)) + B ^ (t + 1) * r + d * val (o.take n)) :
    N + d * val ((o.set t ((r * 4294967296 + z) / d)).take t) = val ((o.set t ((r * 4294967296 + z) / d)).take t) + B ^ t * ((r * 4294967296 + z) % d) + d * val ((o.set t ((r * 4294967296 + z) / d)).take n) := by
  have h1 := val_set_in o n t ((r * 4294967296 + z) / d) ht hto
  have h2 := val_take_succ o t hto
  rw [hz] at h1 h2
  rw [List.take_set_of_le (Nat.le_refl _)]
  have h3 := congrArg (d * ·) h1
  simp only [Nat.mul_add] at h3
  have h4 : B ^ t * (d * ((r * 4294967296 + z) / d)) + B ^ t * ((r * 4294967296 + z) % d) = B ^ t * (r * 4294967296) + B ^ t * z := by
    rw [← Nat.mul_add, Nat.div_add_mod, Nat.mul_add]
  rw [h2, Nat.mul_add, Nat.pow_succ] at inv
  have h5 : B ^ t * (d * ((r * 4294967296 + z) / d)) = d * (B ^ t * ((r * 4294967296 + z) / d)) := by rw [Nat.mul_left_comm]
  have h6 : B ^ t * B * r = B ^ t * (r * 4294967296) := by rw [Nat.mul_assoc, Nat.mul_comm B r]
  rw [h6] at inv
  rw [h5] at h4
  omega
theorem short_end (N d V r : Nat) (hr : r < d) (h : N = r + d * V) : V = N / d ∧ r = N % d := by
  subst h
  rw [Nat.add_mul_div_left _ _ (by omega), Nat.add_mul_mod_self_left, Nat.div_eq_of_lt hr, Nat.mod_eq_of_lt hr]; simp
theorem or_limb (r z : Nat) (hr : r < 4294967296) (hz : z < 4294967296) : bits BinOp.or IntKind.u64 ((r * 4294967296 : Nat) : Int) (z : Int) = ((r * 4294967296 + z : Nat) : Int) := by
  rw [bits_or_u64_nat _ _ (by omega) (by omega)]
  congr 1
  have := Nat.two_pow_add_eq_or_of_lt (show z < 2 ^ 32 by omega) r
  rw [Nat.mul_comm (2 ^ 32)] at this
  exact this.symm
theorem short_lt (r z d : Nat) (hr : r < d) (hz : z < 4294967296) : (r * 4294967296 + z) / d < 4294967296 := by
  rw [Nat.div_lt_iff_lt_mul (by omega)]
  have := Nat.mul_le_mul_right 4294967296 (show r + 1 ≤ d by omega)
  rw [Nat.mul_comm 4294967296 d]; omega
end Go.Proofs.YtiglekomfgfilaaGreatDoor.Na

/- short. -/
namespace Go.Proofs.YtiglekomfgfilaaGreatDoor
set_option maxRecDepth 100000
set_option maxHeartbeats 1000000
set_option linter.all false
open Go.RowKit
def shortLoop (N d n g L : Nat) (w : World) (rv iv : Value) (wr : World) : Prop := ∃ (j r : Nat) (o : List Nat), j ≤ n ∧ iv = .int .i64 j ∧ rv = .int .u64 r ∧ r < d ∧ Hid (Blk wr g o) ∧ Hid (o.length = L) ∧ Hid (Na.OK o) ∧
  Hid (N + d * Na.val (o.take (n - j)) = Na.val (o.take (n - j)) + Na.B ^ (n - j) * r + d * Na.val (o.take n)) ∧ Hid (Below g w wr)
theorem na_short_any (g n c d : Nat) (o : List Nat) (w : World) (hb : Blk w g o) (hok : Na.OK o) (hn : n ≤ o.length) (hn2 : n ≤ 1000000) (hd0 : 0 < d) (hd : d < 4294967296) :
    Calls Tryz.prog 120 #[.slice (some ⟨g, 0, none⟩) n c, .int .u32 d] w (fun e w' => e = .returned (.int .u32 (Na.val (o.take n) % d : Nat)) ∧ Below g w w' ∧ ∃ o', Blk w' g o' ∧ o'.length = o.length ∧ Na.OK o' ∧ Na.val (o'.take n) = Na.val (o.take n) / d) := by
  obtain ⟨N, hN⟩ : ∃ N, N = Na.val (o.take n) := ⟨_, rfl⟩
  obtain ⟨L, hL⟩ : ∃ L, L = o.length := ⟨_, rfl⟩
  rw [← hN, ← hL]
  have HI := Lib.hid (show N + d * Na.val (o.take n) = Na.val (o.take n) + Na.B ^ n * 0 + d * Na.val (o.take n) by rw [hN]; simp)
  have HB0 := Lib.hid hb
  have HO0 := Lib.hid hok
  have HL := Lib.hid hL
  have HNL := Lib.hid (hL ▸ hn)
  clear hN hL hb hok hn
  go_enter Tryz.func120, Tryz.ntmps120
  go_wp2_with fail
  go_loopw [5, 11] (shortLoop N d n g L w) (fun _ i _ => n - (intOf i).toNat)
  case atStart => exact ⟨0, 0, o, Nat.zero_le _, rfl, rfl, hd0, HB0, Lib.hid HL.out.symm, HO0, HI, Lib.hid (Below.refl _ _)⟩
  case round =>
    clear HI HB0 HO0 HL
    obtain ⟨j, r, o2, hj, rfl, rfl, hr, HBl, HOl, HOk, HInv, HBe⟩ := hrel
    by_cases hlt : j < n
    · obtain ⟨t, rfl⟩ : ∃ t, n = j + 1 + t := ⟨n - (j + 1), by omega⟩
      have e1 : j + 1 + t - j = t + 1 := by omega
      have e2 : j + 1 + t - (j + 1) = t := by omega
      have ho1 : t < o2.length := by have := HOl.out; have := HNL.out; omega
      have co := HBl.out.cell t ho1
      have fo := HBl.out.frozen t
      have hz : o2[t] < 4294967296 := HOk.out _ (List.getElem_mem ho1)
      obtain ⟨z, hze⟩ : ∃ x, o2[t]'ho1 = x := ⟨_, rfl⟩
      rw [hze] at co hz
      have HS := Lib.hid (Na.short_step N d o2 (j + 1 + t) t r z (by omega) ho1 hze (by rw [← e1]; exact HInv.out))
      have hs1 := Na.short_lt r z d hr hz
      have hs2 : (r * 4294967296 + z) % d < d := Nat.mod_lt _ hd0
      have hor := Na.or_limb r z (by omega) hz
      have hs3 : r * 4294967296 + z < 18446744073709551616 := by omega
      obtain ⟨s, hs⟩ : ∃ s, s = r * 4294967296 + z := ⟨_, rfl⟩
      rw [← hs] at HS hs1 hs2 hor hs3
      have E2 := Lib.hid e2
      have hor' : bits BinOp.or IntKind.u64 ((r : Int) * 4294967296) (z : Int) = (s : Int) := by rw [← hor]; simp
      have hdz : ((d : Int) == 0) = false := by simp; omega
      obtain ⟨v, hv⟩ : ∃ v, v = s / d := ⟨_, rfl⟩
      obtain ⟨r2, hr2⟩ : ∃ v, v = s % d := ⟨_, rfl⟩
      rw [← hv, ← hr2] at HS
      rw [← hv] at hs1
      rw [← hr2] at hs2
      have hvi : (s : Int) / (d : Int) = (v : Int) := by rw [hv]; simp
      have hri : (s : Int) % (d : Int) = (r2 : Int) := by rw [hr2]; simp
      clear hze hs hor e1 e2 hv hr2
      go_wp2_with fail
      go_region
      go_wp2_with fail
      go_roundw
      case rel => exact ⟨j + 1, r2, o2.set t v, by omega, by go_num, by rw [hri], hs2, Lib.hid (HBl.out.set _ _ : Blk _ _ _), Lib.hid (by rw [List.length_set]; exact HOl.out), Lib.hid (Na.ok_set HOk.out _ _ hs1), Lib.hid (by rw [E2.out]; exact HS.out), Lib.hid (by have hbe := HBe.out; (repeat (first | exact Below.refl _ _ | assumption | refine Below.setCell ?_ (by first | omega | (simp <;> omega)) _ | refine Below.alloc ?_ (by first | omega | (simp <;> omega)) _ | refine Below.drew ?_ | refine below_drewN' ?_ _)))⟩
      case measure => simp [intOf]; omega
    · obtain rfl : j = n := by omega
      have HE := Lib.hid (Na.short_end N d (Na.val (o2.take j)) r hr (by have := HInv.out; simpa [Na.val] using this))
      go_wp2_with fail
      go_ret
      exact ⟨by rw [← HE.out.2]; rfl, HBe.out, o2, HBl.out, HOl.out, HOk.out, HE.out.1⟩
end Go.Proofs.YtiglekomfgfilaaGreatDoor

/- DivMod, but for long. -/
namespace Go.Proofs.YtiglekomfgfilaaGreatDoor
set_option maxRecDepth 100000
set_option maxHeartbeats 2000000
set_option linter.all false
open Go.RowKit
def GivesQ (q : List Nat × List Nat × Int) (w : World) (e : Ending) (w' : World) : Prop := ∃ a c a' c', e = .returned (.tuple #[.slice a q.1.length c, .slice a' q.2.1.length c', .int .i64 q.2.2]) ∧
  Sl w' a c q.1 ∧ Own w' w.heap.size a q.1.length ∧ Sl w' a' c' q.2.1 ∧ Own w' w.heap.size a' q.2.1.length ∧ Below w.heap.size w w'
section
variable (a : Option Addr) (c : Nat) (l : List Nat) (b : Option Addr) (d : Nat) (m : List Nat) (w : World) (h : Sl w a c l) (h' : Sl w b d m) (hn : l.length ≤ 1000000) (hm : m.length ≤ 1000000)
include h h' hn hm
theorem na_divmod_big (hbig : (Na.big l || Na.big m) = true) : Calls Tryz.prog 157 #[.slice a l.length c, .slice b m.length d] w (GivesQ (Na.divMod l m) w) := by
  have H1 := Lib.hid (na_over2_any h h' hn hm true hbig)
  have e2 := Lib.hid (show Na.divMod l m = ([], [], 2) from if_pos hbig)
  have hB : Below w.heap.size w (w.alloc (Obj.cells #[Value.slice a l.length c, Value.slice b m.length d] 100)) := (Below.refl _ _).alloc (Nat.le_refl _) _
  clear hbig
  go_enter Tryz.func157, Tryz.ntmps157
  go_wp2_with (first | (go_at_call 112; (with_reducible refine (H1.out).mono ?_); rintro e w' ⟨rfl, rfl⟩))
  refine bodyPost_ret (v := .tuple #[.slice none 0 0, .slice none 0 0, .int .i64 2]) (by simp [results, Tryz.results157, go_sem]) rfl ⟨none, 0, none, 0, ?_, ?_, ?_, ?_, ?_, hB⟩ <;> rw [e2.out]
  · rfl
  · exact Sl.nil _ _ _
  · exact Own.nil _ _ _
  · exact Sl.nil _ _ _
  · exact Own.nil _ _ _
theorem na_divmod_zero (hbig : (Na.big l || Na.big m) = false) (hz : Na.val m = 0) : Calls Tryz.prog 157 #[.slice a l.length c, .slice b m.length d] w (GivesQ (Na.divMod l m) w) := by
  have H1 := Lib.hid (na_over2_any h h' hn hm false hbig)
  have e2 := Lib.hid (show Na.divMod l m = ([], [], 10) by rw [Na.divMod, hbig, if_neg (by simp), if_pos hz])
  have hB : Below w.heap.size w (w.alloc (Obj.cells #[Value.slice a l.length c, Value.slice b m.length d] 100)) := (Below.refl _ _).alloc (Nat.le_refl _) _
  have hr : Na.rt m = 0 := by rw [Na.rt, (Na.cut_nil_iff m).2 hz]; rfl
  have H2 := na_right_any b d m _ (h'.on hB) hm
  rw [hr] at H2
  have H2' := Lib.hid (show Calls Tryz.prog 113 #[.slice b m.length d] (w.alloc (Obj.cells #[Value.slice a l.length c, Value.slice b m.length d] 100)) (Ret0 (.int .i64 0) (w.alloc (Obj.cells #[Value.slice a l.length c, Value.slice b m.length d] 100))) from H2)
  clear hbig H2 hr
  go_enter Tryz.func157, Tryz.ntmps157
  go_wp2_with (first | (go_at_call 112; (with_reducible refine (H1.out).mono ?_); rintro e w' ⟨rfl, rfl⟩) | (go_at_call 113; (with_reducible refine (H2'.out).mono ?_); rintro e w' ⟨rfl, rfl⟩))
  refine bodyPost_ret (v := .tuple #[.slice none 0 0, .slice none 0 0, .int .i64 10]) (by simp [results, Tryz.results157, go_sem]) rfl ⟨none, 0, none, 0, ?_, ?_, ?_, ?_, ?_, hB⟩ <;> rw [e2.out]
  · rfl
  · exact Sl.nil _ _ _
  · exact Own.nil _ _ _
  · exact Sl.nil _ _ _
  · exact Own.nil _ _ _
theorem na_divmod_less (hbig : (Na.big l || Na.big m) = false) (hlt : Na.val l < Na.val m) : Calls Tryz.prog 157 #[.slice a l.length c, .slice b m.length d] w (GivesQ (Na.divMod l m) w) := by
  have H1 := Lib.hid (na_over2_any h h' hn hm false hbig)
  have e2 := Lib.hid (show Na.divMod l m = ([], Na.cut l, 0) by rw [Na.divMod, hbig, if_neg (by simp), if_neg (by omega), Nat.div_eq_of_lt hlt, Nat.mod_eq_of_lt hlt, Na.limbs_zero]; rfl)
  have hB : Below w.heap.size w (w.alloc (Obj.cells #[Value.slice a l.length c, Value.slice b m.length d] 100)) := (Below.refl _ _).alloc (Nat.le_refl _) _
  have hr : Na.rt m ≠ 0 := fun e => by have := (Na.cut_nil_iff m).1 (List.eq_nil_of_length_eq_zero e); omega
  have H2 := na_right_any b d m _ (h'.on hB) hm
  obtain ⟨rm, hrm⟩ : ∃ x, x = Na.rt m := ⟨_, rfl⟩
  rw [← hrm] at H2 hr
  have hr0 : ((rm : Int) == 0) = false := by simpa using hr
  have H2' := Lib.hid H2
  have HC := na_cmp_any a c l b d m _ (h.on hB) (h'.on hB) hn hm
  rw [Na.cmp_lt hlt] at HC
  have HC' := Lib.hid HC
  have H3 := Lib.hid (fun wr (hb : Below w.heap.size w wr) => na_trim_any a c l wr (h.on hb) hn)
  clear hbig H2 hr HC hlt hrm
  go_enter Tryz.func157, Tryz.ntmps157
  go_wp2_with (first | (go_at_call 112; (with_reducible refine (H1.out).mono ?_); rintro e w' ⟨rfl, rfl⟩) | (go_at_call 113; (with_reducible refine (H2'.out).mono ?_); rintro e w' ⟨rfl, rfl⟩) | (go_at_call 188; (with_reducible refine (HC'.out).mono ?_); rintro e w2 ⟨rfl, hb2⟩; have hB2 : Below w.heap.size w w2 := hB.trans (hb2.mono (by simp [World.size_alloc]))) | (go_at_call 96; (with_reducible refine (H3.out _ hB2).mono ?_); intro e w3 hg; obtain ⟨g, rfl, hg1, hk1, hb1⟩ := GivesB.up hg hB2))
  refine bodyPost_ret (v := .tuple #[.slice none 0 0, .slice (some ⟨g, 0, none⟩) (Na.cut l).length (Na.cut l).length, .int .i64 0]) (by simp [results, Tryz.results157, go_sem]) rfl ⟨none, 0, some ⟨g, 0, none⟩, (Na.cut l).length, ?_, ?_, ?_, ?_, ?_, hb1⟩ <;> rw [e2.out]
  · rfl
  · exact Sl.nil _ _ _
  · exact Own.nil _ _ _
  · exact hk1.sl (Na.ok_cut l) (Nat.le_refl _)
  · exact hk1.own hg1
theorem na_divmod_one (hbig : (Na.big l || Na.big m) = false) (hge : ¬ Na.val l < Na.val m) (h1 : Na.rt m = 1) : Calls Tryz.prog 157 #[.slice a l.length c, .slice b m.length d] w (GivesQ (Na.divMod l m) w) := by
  have H1 := Lib.hid (na_over2_any h h' hn hm false hbig)
  have S2 := h'.cut
  have hm0 : 0 < (Na.cut m).length := by show 0 < Na.rt m; omega
  have hm1 : (Na.cut m).length = 1 := h1
  obtain ⟨dv, hdv⟩ : ∃ x, x = (Na.cut m)[0] := ⟨_, rfl⟩
  have hcm : Na.cut m = [dv] := by
    rw [hdv]; apply List.ext_getElem
    · simpa using hm1
    · intro i hi hi2
      have : i = 0 := by simp at hi2; omega
      subst this; rfl
  have hvm : Na.val m = dv := by rw [← Na.val_cut, hcm]; simp [Na.val]
  have hdl : dv < 4294967296 := by rw [hdv]; exact S2.lt 0 hm0
  have hd0 : dv ≠ 0 := by
    intro e
    have := (Na.cut_nil_iff m).2 (by rw [hvm, e])
    rw [this] at hm0; simp at hm0
  have e2 := Lib.hid (show Na.divMod l m = (Na.limbs (Na.val l / dv), Na.limbs (Na.val l % dv), 0) by rw [Na.divMod, hbig, if_neg (by simp), if_neg (by omega), hvm])
  have hB : Below w.heap.size w (w.alloc (Obj.cells #[Value.slice a l.length c, Value.slice b m.length d] 100)) := (Below.refl _ _).alloc (Nat.le_refl _) _
  have H2 := na_right_any b d m _ (h'.on hB) hm
  rw [h1] at H2
  have H2' := Lib.hid (show Calls Tryz.prog 113 #[.slice b m.length d] (w.alloc (Obj.cells #[Value.slice a l.length c, Value.slice b m.length d] 100)) (Ret0 (.int .i64 1) (w.alloc (Obj.cells #[Value.slice a l.length c, Value.slice b m.length d] 100))) from H2)
  have HC := na_cmp_any a c l b d m _ (h.on hB) (h'.on hB) hn hm
  have hc0 : ∃ r : Int, r = Na.cmp l m ∧ decide (r < 0) = false := ⟨_, rfl, decide_eq_false (by rw [Na.cmp, if_neg hge]; split <;> omega)⟩
  obtain ⟨r0, hr0, hr1⟩ := hc0
  rw [← hr0] at HC
  have HC' := Lib.hid HC
  have H3 := Lib.hid (fun wr (hb : Below w.heap.size w wr) => na_trim_any a c l wr (h.on hb) hn)
  have H4 := Lib.hid (fun wr (hb : Below w.heap.size w wr) => hm1 ▸ na_cut_any b d m wr (h'.on hb) hm)
  obtain ⟨b1, o1, rfl, hbl, hc1⟩ := S2.plain hm0
  have c1 : w.cell? ⟨b1, o1, none⟩ = some (.int .u32 (dv : Int)) := by have := hc1 0 hm0; rw [← hdv] at this; exact this
  have hlen : (Na.cut l).length ≤ 1000000 := Nat.le_trans (Na.rt_le h.ok).1 hn
  obtain ⟨rm, hrm⟩ : ∃ x, x = Na.val l % dv := ⟨_, rfl⟩
  obtain ⟨qm, hqm⟩ : ∃ x, x = Na.val l / dv := ⟨_, rfl⟩
  have hml : rm < 4294967296 := by have := Nat.mod_lt (Na.val l) (show 0 < dv by omega); omega
  have HO := Lib.hid (fun w => na_of_any rm (by omega) w)
  have HS : ∀ g w, Blk w g (Na.cut l) → Calls Tryz.prog 120 #[.slice (some ⟨g, 0, none⟩) (Na.cut l).length (Na.cut l).length, .int .u32 dv] w
      (fun e w' => e = .returned (.int .u32 rm) ∧ Below g w w' ∧ ∃ o', Blk w' g o' ∧ o'.length = (Na.cut l).length ∧ Na.OK o' ∧ Na.val o' = qm) := fun g w hb =>
    (na_short_any g (Na.cut l).length (Na.cut l).length dv (Na.cut l) w hb (Na.ok_cut l) (Nat.le_refl _) hlen (by omega) hdl).mono fun e w' ⟨h1, h2, o', h3, h4, h5, h6⟩ =>
      ⟨by rw [h1, List.take_length, Na.val_cut, hrm], h2, o', h3, h4, h5, by rw [List.take_of_length_le (by omega), List.take_length, Na.val_cut] at h6; rw [h6, hqm]⟩
  have HS' := Lib.hid HS
  rw [← hrm, ← hqm] at e2
  clear hbig H2 HC hge h1 hm0 hm1 hdv hcm hvm hr0 S2 hc1 hrm hqm HS
  have HCUT := Lib.hid (fun g w5 o' (hk : Blk w5 g o') (hl : o'.length = (Na.cut l).length) (hok : Na.OK o') (hv : Na.val o' = qm) =>
    (by
      have hc := na_cut_any (some ⟨g, 0, none⟩) (Na.cut l).length o' w5 (hk.sl hok (by omega)) (by omega)
      rw [hl, show Na.cut o' = Na.limbs qm by rw [Na.cut, hv]] at hc
      exact hc : Calls Tryz.prog 115 #[.slice (some ⟨g, 0, none⟩) (Na.cut l).length (Na.cut l).length] w5 (Ret0 (.slice (some ⟨g, 0, none⟩) (Na.limbs qm).length (Na.cut l).length) w5)))
  go_enter Tryz.func157, Tryz.ntmps157
  go_wp2_with (first | (go_at_call 112; (with_reducible refine (H1.out).mono ?_); rintro e w' ⟨rfl, rfl⟩) | (go_at_call 113; (with_reducible refine (H2'.out).mono ?_); rintro e w' ⟨rfl, rfl⟩) | (go_at_call 188; (with_reducible refine (HC'.out).mono ?_); rintro e w2 ⟨rfl, hb2⟩; have hB2 : Below w.heap.size w w2 := hB.trans (hb2.mono (by simp [World.size_alloc]))) | (go_at_call 115; (with_reducible refine (H4.out _ hB2).mono ?_); rintro e w' ⟨rfl, rfl⟩) | (go_at_call 96; (with_reducible refine (H3.out _ hB2).mono ?_); intro e w3 hg; obtain ⟨g, rfl, hg1, hk1, hb3⟩ := GivesB.up hg hB2; have c3 : w3.cell? ⟨b1, o1, none⟩ = some (.int .u32 (dv : Int)) := (hb3.cell (p := ⟨b1, o1, none⟩) hbl).trans c1; have HK1 := Lib.hid hk1; clear hk1 hg) | (go_at_call 120; (with_reducible refine (HS'.out g _ HK1.out).mono ?_); rintro e w4 ⟨rfl, hb4, o', hk4, hl4, hok4, hv4⟩; have hB4 : Below w.heap.size w w4 := hb3.trans (hb4.mono hg1); have H5 := Lib.hid (HCUT.out g w4 o' hk4 hl4 hok4 hv4); have HV4 := Lib.hid hv4; have HL4 := Lib.hid hl4; have HK4 := Lib.hid hk4; clear hv4 hl4 hk4) | (go_at_call 115; (with_reducible refine (H5.out).mono ?_); rintro e w' ⟨rfl, rfl⟩) | (go_at_call 65; (with_reducible refine (HO.out _).mono ?_); rintro e w5 ⟨g5, rfl, hg5, hk5, hb5⟩))
  have hle := hB4.size
  have hk6 := HK4.out.on hb5
  have hcut : Na.cut o' = Na.limbs qm := by rw [Na.cut, HV4.out]
  refine bodyPost_ret (v := .tuple #[.slice (some ⟨g, 0, none⟩) (Na.limbs qm).length (Na.cut l).length, .slice (some ⟨g5, 0, none⟩) (Na.limbs rm).length (Na.limbs rm).length, .int .i64 0]) (by simp [results, Tryz.results157, go_sem]) rfl
    ⟨some ⟨g, 0, none⟩, (Na.cut l).length, some ⟨g5, 0, none⟩, (Na.limbs rm).length, ?_, ?_, ?_, ?_, ?_, hB4.trans (hb5.mono (by omega))⟩ <;> rw [e2.out]
  · have := (hk6.sl hok4 (by rw [HL4.out]; exact Nat.le_refl _) : Sl w5 (some ⟨g, 0, none⟩) (Na.cut l).length o').cut
    rw [hcut] at this; exact this
  · exact hk6.own hg1
  · exact hk5.sl (Na.ok_limbs _) (Nat.le_refl _)
  · exact hk5.own (by omega)
end
end Go.Proofs.YtiglekomfgfilaaGreatDoor

/- Pow. -/
namespace Go.Proofs.YtiglekomfgfilaaGreatDoor
set_option maxRecDepth 100000
set_option maxHeartbeats 2000000
set_option linter.all false
open Go.RowKit
def powLoop (b n : Nat) (w : World) (ov iv : Value) (wr : World) : Prop := ∃ (k : Nat) (a : Option Addr) (c : Nat), k ≤ n ∧ iv = .int .i64 k ∧ ov = .slice a (Na.limbs (b ^ k)).length c ∧ (Na.limbs (b ^ k)).length ≤ 256 ∧ Hid (Sl wr a c (Na.limbs (b ^ k))) ∧ Hid (Own wr w.heap.size a (Na.limbs (b ^ k)).length) ∧ Hid (Below w.heap.size w wr)
theorem Na.limbs_one : Na.limbs 1 = [1] := by rw [Na.limbs_pos (by decide)]; simp [Na.B, Na.limbs_zero]
theorem blk_one (w : World) : Blk (w.alloc (Obj.cells #[Value.int IntKind.u32 1] 81)) w.heap.size [1] := by
  show (w.heap.push _)[w.heap.size]? = _; simp [u32s]
theorem na_pow_arg (b n : Int) (w : World) (h : b < 0 ∨ 1000000 < b ∨ n < 0) (hb : -9223372036854775808 ≤ b ∧ b ≤ 9223372036854775807) (hn : -9223372036854775808 ≤ n ∧ n ≤ 9223372036854775807) :
    Calls Tryz.prog 92 #[.int .i64 b, .int .i64 n] w (GivesE (Na.pow b n) w) := by
  have e2 := Lib.hid (show Na.pow b n = ([], 1) from if_pos h)
  have hend : GivesE (Na.pow b n) w (.returned (.tuple #[.slice none 0 0, .int .i64 1])) w := by
    rw [e2.out]; exact ⟨none, 0, rfl, Sl.nil _ _ _, Own.nil _ _ _, Below.refl _ _⟩
  have HE := Lib.hid hend
  clear hend
  by_cases h1 : b < 0
  · clear h
    go_enter Tryz.func92, Tryz.ntmps92
    go_wp2
    refine bodyPost_ret (v := .tuple #[.slice none 0 0, .int .i64 1]) (by simp [results, Tryz.results92, go_sem]) rfl HE.out
  · by_cases h2 : 1000000 < b
    · clear h
      go_enter Tryz.func92, Tryz.ntmps92
      go_wp2
      refine bodyPost_ret (v := .tuple #[.slice none 0 0, .int .i64 1]) (by simp [results, Tryz.results92, go_sem]) rfl HE.out
    · have h3 : n < 0 := by omega
      clear h
      go_enter Tryz.func92, Tryz.ntmps92
      go_wp2
      refine bodyPost_ret (v := .tuple #[.slice none 0 0, .int .i64 1]) (by simp [results, Tryz.results92, go_sem]) rfl HE.out
theorem na_pow_zero (n : Nat) (w : World) (h0 : 0 < n) (hn : n ≤ 9223372036854775807) : Calls Tryz.prog 92 #[.int .i64 0, .int .i64 n] w (GivesE (Na.pow 0 n) w) := by
  have e2 := Lib.hid (show Na.pow 0 n = ([], 0) by rw [Na.pow, if_neg (by omega), if_pos ⟨rfl, by omega⟩])
  have hB : Below w.heap.size w (w.alloc (Obj.cells #[Value.int IntKind.u32 1] 81)) := (Below.refl _ _).alloc (Nat.le_refl _) _
  go_enter Tryz.func92, Tryz.ntmps92
  go_wp2
  refine bodyPost_ret (v := .tuple #[.slice none 0 0, .int .i64 0]) (by simp [results, Tryz.results92, go_sem]) rfl (by rw [e2.out]; exact ⟨none, 0, rfl, Sl.nil _ _ _, Own.nil _ _ _, hB⟩)
theorem na_pow_one (b n : Nat) (w : World) (h : b = 1 ∨ b = 0 ∧ n = 0) (hn : n ≤ 9223372036854775807) : Calls Tryz.prog 92 #[.int .i64 b, .int .i64 n] w (GivesE (Na.pow b n) w) := by
  have hp : b ^ n = 1 := by rcases h with rfl | ⟨rfl, rfl⟩ <;> simp
  have e2 := Lib.hid (show Na.pow b n = ([1], 0) by rw [Na.pow, if_neg (by omega), if_neg (by omega), Int.toNat_natCast, Int.toNat_natCast, hp, Na.fits, Na.limbs_one]; rfl)
  have hB : Below w.heap.size w (w.alloc (Obj.cells #[Value.int IntKind.u32 1] 81)) := (Below.refl _ _).alloc (Nat.le_refl _) _
  have hend : GivesE (Na.pow b n) w (.returned (.tuple #[.slice (some ⟨w.heap.size, 0, none⟩) 1 1, .int .i64 0])) (w.alloc (Obj.cells #[Value.int IntKind.u32 1] 81)) := by
    rw [e2.out]; exact ⟨some ⟨w.heap.size, 0, none⟩, 1, rfl, (blk_one w).sl (fun x hx => by rw [List.mem_singleton.1 hx]; decide) (Nat.le_refl _), (blk_one w).own (Nat.le_refl _), hB⟩
  have HE := Lib.hid hend
  clear hend hp e2 hB
  rcases h with rfl | ⟨rfl, rfl⟩
  all_goals (
    go_enter Tryz.func92, Tryz.ntmps92
    go_wp2
    refine bodyPost_ret (v := .tuple #[.slice (some ⟨w.heap.size, 0, none⟩) 1 1, .int .i64 0]) (by simp [results, Tryz.results92, go_sem]) rfl HE.out)
theorem na_pow_more (b n : Nat) (w : World) (h2 : 2 ≤ b) (hb : b ≤ 1000000) (hn : n ≤ 9223372036854775807) : Calls Tryz.prog 92 #[.int .i64 b, .int .i64 n] w (GivesE (Na.pow b n) w) := by
  have E2 := Lib.hid (show Na.pow b n = Na.fits (b ^ n) by rw [Na.pow, if_neg (by omega), if_neg (by omega), Int.toNat_natCast, Int.toNat_natCast])
  have hB : Below w.heap.size w (w.alloc (Obj.cells #[Value.int IntKind.u32 1] 81)) := (Below.refl _ _).alloc (Nat.le_refl _) _
  have HB := Lib.hid hB
  have HS0 := Lib.hid ((blk_one w).sl (fun x hx => by rw [List.mem_singleton.1 hx]; decide : Na.OK [1]) (Nat.le_refl 1))
  have HO0 := Lib.hid ((blk_one w).own (n := 1) (Nat.le_refl w.heap.size))
  have HOF := Lib.hid (fun w => na_of_any b (by omega) w)
  have hlb : (Na.limbs b).length ≤ 256 := (Na.limbs_len_iff b 256).2 (Nat.lt_of_le_of_lt (show b ≤ 1000000 by omega) (by decide +kernel))
  have HLB := Lib.hid hlb
  clear hB hlb
  go_enter Tryz.func92, Tryz.ntmps92
  go_wp2_with fail
  go_loopw [6, 31] (powLoop b n w) (fun _ i _ => n - (intOf i).toNat)
  case atStart => exact ⟨0, some ⟨w.heap.size, 0, none⟩, 1, Nat.zero_le _, rfl, by simp [Na.limbs_one], by simp [Na.limbs_one], by simpa [Na.limbs_one] using HS0, by simpa [Na.limbs_one] using HO0, HB⟩
  case round =>
    obtain ⟨k, a, c, hk, rfl, rfl, hlen, HSl, HOw, HBe⟩ := hrel
    obtain ⟨x, hx⟩ : ∃ x, x = b ^ k := ⟨_, rfl⟩
    rw [← hx] at hlen HSl HOw ⊢
    have HX := Lib.hid hx
    clear hx
    by_cases hlt : k < n
    · have hmul : Na.mul (Na.limbs x) (Na.limbs b) = Na.fits (b ^ (k + 1)) := by
        rw [Na.mul, if_neg (by simp [Na.big, Na.rt_limbs]; exact ⟨hlen, HLB.out⟩), Na.val_limbs, Na.val_limbs, HX.out, Nat.pow_succ]
      have HM := Lib.hid (fun w1 a' c' (hs : Sl w1 a c (Na.limbs x)) (hs' : Sl w1 a' c' (Na.limbs b)) => (by
        have := na_mul_any a c (Na.limbs x) a' c' (Na.limbs b) w1 hs hs' (by omega) (by have := HLB.out; omega)
        rwa [hmul] at this : Calls Tryz.prog 93 #[.slice a (Na.limbs x).length c, .slice a' (Na.limbs b).length c'] w1 (GivesE (Na.fits (b ^ (k + 1))) w1)))
      clear hmul
      by_cases hover : 256 < (Na.limbs (b ^ (k + 1))).length
      · have ef : Na.fits (b ^ (k + 1)) = ([], 2) := if_pos hover
        rw [ef] at HM
        have EE := Lib.hid (show Na.pow b n = ([], 2) by
          rw [E2.out, Na.fits, if_pos]
          have h1 : Na.B ^ 256 ≤ b ^ (k + 1) := Nat.le_of_not_lt fun hl => by have := (Na.limbs_len_iff (b ^ (k + 1)) 256).2 hl; omega
          exact Na.limbs_len_gt _ _ (Nat.le_trans h1 (Nat.pow_le_pow_right (by omega) (by omega))))
        clear hover ef
        go_wp2_with (first | (go_at_call 65; (with_reducible refine (HOF.out _).mono ?_); rintro e w1 ⟨g1, rfl, hg1, hk1, hb1⟩; have hS1 := hk1.sl (Na.ok_limbs b) (Nat.le_refl _); have hS2 := HSl.out.on hb1) | (go_at_call 93; (with_reducible refine (HM.out _ _ _ hS2 hS1).mono ?_); rintro e w2 ⟨a2, c2, rfl, hs2, ho2, hb2⟩))
        have hB2 : Below w.heap.size w w2 := HBe.out.trans ((hb1.mono HBe.out.size).trans (hb2.mono (Nat.le_trans HBe.out.size hb1.size)))
        refine bodyPost_ret (v := .tuple #[.slice none 0 0, .int .i64 2]) (by simp [results, Tryz.results92, go_sem]) rfl (by rw [EE.out]; exact ⟨none, 0, rfl, Sl.nil _ _ _, Own.nil _ _ _, hB2⟩)
      · have ef : Na.fits (b ^ (k + 1)) = (Na.limbs (b ^ (k + 1)), 0) := if_neg hover
        rw [ef] at HM
        have HOV := Lib.hid hover
        clear hover ef
        go_wp2_with (first | (go_at_call 65; (with_reducible refine (HOF.out _).mono ?_); rintro e w1 ⟨g1, rfl, hg1, hk1, hb1⟩; have hS1 := hk1.sl (Na.ok_limbs b) (Nat.le_refl _); have hS2 := HSl.out.on hb1) | (go_at_call 93; (with_reducible refine (HM.out _ _ _ hS2 hS1).mono ?_); rintro e w2 ⟨a2, c2, rfl, hs2, ho2, hb2⟩))
        have hsz := HBe.out.size
        have hsz1 := hb1.size
        have hB2 : Below w.heap.size w w2 := HBe.out.trans ((hb1.mono hsz).trans (hb2.mono (Nat.le_trans hsz hsz1)))
        have hO2 : Own w2 w.heap.size a2 (Na.limbs (b ^ (k + 1))).length := fun h0 => by
          obtain ⟨b', o', e, hb', hf⟩ := ho2 h0
          exact ⟨b', o', e, by omega, hf⟩
        go_roundw
        case rel => exact ⟨k + 1, a2, c2, by omega, by go_num, rfl, by have := HOV.out; omega, Lib.hid hs2, Lib.hid hO2, Lib.hid hB2⟩
        case measure => simp [intOf]; omega
    · obtain rfl : k = n := by omega
      have EE := Lib.hid (show Na.pow b k = (Na.limbs x, 0) by rw [E2.out, Na.fits, ← HX.out, if_neg (by omega)])
      go_wp2_with fail
      refine bodyPost_ret (v := .tuple #[.slice a (Na.limbs x).length c, .int .i64 0]) (by simp [results, Tryz.results92, go_sem]) rfl (by rw [EE.out]; exact ⟨a, c, rfl, HSl.out, HOw.out, HBe.out⟩)
theorem na_pow_any (b n : Int) (w : World) (hb : -9223372036854775808 ≤ b ∧ b ≤ 9223372036854775807) (hn : -9223372036854775808 ≤ n ∧ n ≤ 9223372036854775807) :
    Calls Tryz.prog 92 #[.int .i64 b, .int .i64 n] w (GivesE (Na.pow b n) w) := by
  by_cases h : b < 0 ∨ 1000000 < b ∨ n < 0
  · exact na_pow_arg b n w h hb hn
  · obtain ⟨b', rfl⟩ : ∃ x : Nat, b = x := ⟨b.toNat, by omega⟩
    obtain ⟨n', rfl⟩ : ∃ x : Nat, n = x := ⟨n.toNat, by omega⟩
    by_cases h2 : 2 ≤ b'
    · exact na_pow_more b' n' w h2 (by omega) (by omega)
    · by_cases h1 : b' = 1 ∨ b' = 0 ∧ n' = 0
      · exact na_pow_one b' n' w h1 (by omega)
      · obtain rfl : b' = 0 := by omega
        exact na_pow_zero n' w (by omega) (by omega)
end Go.Proofs.YtiglekomfgfilaaGreatDoor

/- Plain Lean: a shift up by less than a limb. -/
namespace Go.Proofs.YtiglekomfgfilaaGreatDoor.Na
set_option linter.all false
open Go
theorem shift_lt (c x s : Nat) (hs : s < 32) (hc : c < 2 ^ s) (hx : x < 4294967296) : c + x * 2 ^ s < 18446744073709551616 ∧ (c + x * 2 ^ s) / 4294967296 < 2 ^ s := by
  have h1 : 2 ^ s ≤ 2 ^ 31 := Nat.pow_le_pow_right (by decide) (by omega)
  have h2 : x * 2 ^ s + 2 ^ s ≤ 4294967296 * 2 ^ s := by
    have := Nat.mul_le_mul_right (2 ^ s) (show x + 1 ≤ 4294967296 by omega)
    rwa [Nat.add_mul, Nat.one_mul] at this
  constructor
  · omega
  · rw [Nat.div_lt_iff_lt_mul (by decide)]; omega
theorem drop_set (O : List Nat) (off k v : Nat) : (O.set (off + k) v).drop off = (O.drop off).set k v := by
  rw [List.drop_set]
  rw [if_neg (by omega), Nat.add_sub_cancel_left]
theorem shift_step (O q : List Nat) (off k c x s : Nat) (hk : off + k < O.length) (inv : val ((O.drop off).take k) + B ^ k * c = val (q.take k) * 2 ^ s) (hq : val (q.take (k + 1)) = val (q.take k) + B ^ k * x) :
    val (((O.set (off + k) ((c + x * 2 ^ s) % 4294967296)).drop off).take (k + 1)) + B ^ (k + 1) * ((c + x * 2 ^ s) / 4294967296) = val (q.take (k + 1)) * 2 ^ s := by
  rw [drop_set, val_set_take _ k _ (by rw [List.length_drop]; omega), hq, Nat.pow_succ, Nat.add_mul, ← inv]
  have h := split_digit (B ^ k) (c + x * 2 ^ s)
  rw [Nat.mul_add, ← Nat.mul_assoc] at h
  simp only [B] at h ⊢
  omega
theorem shl_val (O q : List Nat) (p s N : Nat) (cc v : Nat) (hz : val (O.take p) = 0) (hp : p ≤ O.length) (h : val (O.drop p) + B ^ N * cc = val q * 2 ^ s) (hv : val q * 2 ^ s < B ^ N) (hn : v = val q * 2 ^ (32 * p + s)) : val O = v := by
  have h0 : cc = 0 := by
    rcases Nat.eq_zero_or_pos cc with h0 | h0
    · exact h0
    · have := Nat.mul_le_mul_left (B ^ N) h0
      omega
  rw [h0] at h
  rw [val_take_drop O p hp, hz, hn, Nat.pow_add, show 2 ^ (32 * p) = B ^ p by rw [Nat.pow_mul]]
  rw [Nat.mul_zero, Nat.add_zero] at h
  rw [h, Nat.zero_add, Nat.mul_left_comm]
end Go.Proofs.YtiglekomfgfilaaGreatDoor.Na

/- shift. -/
namespace Go.Proofs.YtiglekomfgfilaaGreatDoor
set_option maxRecDepth 100000
set_option maxHeartbeats 2000000
set_option linter.all false
open Go.RowKit
def shiftLoop (N s g off : Nat) (O q : List Nat) (w : World) (cv iv : Value) (wr : World) : Prop := ∃ (k c : Nat) (o : List Nat), k ≤ N ∧ iv = .int .i64 k ∧ cv = .int .u64 c ∧ Hid (c < 2 ^ s) ∧ Hid (Blk wr g o) ∧ Hid (o.length = off + N) ∧ Hid (Na.OK o) ∧ Hid (o.take off = O.take off) ∧
  Hid (Na.val ((o.drop off).take k) + Na.B ^ k * c = Na.val (q.take k) * 2 ^ s) ∧ Hid (Below g w wr)
theorem na_shift_any (g off N c s ca : Nat) (O q : List Nat) (a : Option Addr) (w : World) (hb : Blk w g O) (hok : Na.OK O) (hl : O.length = off + N) (hs : ∀ wr, Below g w wr → Sl wr a ca q) (hs2 : s < 32) (hq : q.length ≤ 1000000) (hN : off + N ≤ 1000000) :
    Calls Tryz.prog 116 #[.slice (some ⟨g, off, none⟩) N c, .slice a q.length ca, .int .i64 s] w (fun e w' => e = .returned (.tuple #[]) ∧ Below g w w' ∧ ∃ o', Blk w' g o' ∧ o'.length = off + N ∧ Na.OK o' ∧ o'.take off = O.take off ∧ ∃ cc, Na.val (o'.drop off) + Na.B ^ N * cc = Na.val (q.take N) * 2 ^ s) := by
  have HB0 := Lib.hid hb; have HO0 := Lib.hid hok; have HL0 := Lib.hid hl; have HS := Lib.hid hs
  clear hb hok hl hs
  go_enter Tryz.func116, Tryz.ntmps116
  go_wp2_with fail
  go_loopw [6, 10] (shiftLoop N s g off O q w) (fun _ i _ => N - (intOf i).toNat)
  case atStart => exact ⟨0, 0, O, Nat.zero_le _, rfl, rfl, Lib.hid (Nat.pow_pos (by decide)), HB0, HL0, HO0, Lib.hid rfl, Lib.hid (by simp [Na.val]), Lib.hid (Below.refl _ _)⟩
  case round =>
    clear HB0 HO0 HL0
    obtain ⟨k, cc, o, hk, rfl, rfl, HC, HBl, HOl, HOk, HTk, HInv, HBe⟩ := hrel
    by_cases hlt : k < N
    · have ho1 : off + k < o.length := by have := HOl.out; omega
      have co := HBl.out.cell (off + k) ho1
      have fo := HBl.out.frozen (off + k)
      by_cases hlq : k < q.length
      · obtain ⟨b1, o1, rfl, hb1, hc1⟩ := (HS.out wr HBe.out).plain (by omega)
        have c1 := hc1 k hlq
        have hx := (HS.out wr HBe.out).lt k hlq
        have VQ := Lib.hid (Na.val_take_succ q k hlq)
        obtain ⟨x, hxe⟩ : ∃ x, q[k]'hlq = x := ⟨_, rfl⟩
        rw [hxe] at c1 hx VQ
        obtain ⟨hl1, hl2⟩ := Na.shift_lt cc x s hs2 HC.out hx
        have hor := Na.or_shift cc x s HC.out hl1
        have HST := Lib.hid (Na.shift_step o q off k cc x s ho1 HInv.out VQ.out)
        obtain ⟨t, ht⟩ : ∃ t, t = cc + x * 2 ^ s := ⟨_, rfl⟩
        rw [← ht] at hl1 hl2 hor HST
        have HL2 := Lib.hid hl2
        clear hc1 hxe ht hl2
        go_wp2_with fail
        go_roundw
        case rel => exact ⟨k + 1, t / 4294967296, o.set (off + k) (t % 4294967296), by omega, by go_num, by first | rfl | (rw [hor]; simp) | go_num, HL2, Lib.hid (by have := HBl.out.set (off + k) (t % 4294967296); first | exact this | (rw [hor]; exact this)), Lib.hid (by rw [List.length_set]; exact HOl.out), Lib.hid (Na.ok_set HOk.out _ _ (by omega)), Lib.hid (by rw [List.take_set_of_le (by omega)]; exact HTk.out), HST, Lib.hid (by have hbe := HBe.out; (repeat (first | exact Below.refl _ _ | assumption | refine Below.setCell ?_ (by first | omega | (simp <;> omega)) _ | refine Below.alloc ?_ (by first | omega | (simp <;> omega)) _ | refine Below.drew ?_ | refine below_drewN' ?_ _)))⟩
        case measure => simp [intOf]; omega
      · have hl1 : cc < 4294967296 := Nat.lt_of_lt_of_le HC.out (Nat.le_trans (Nat.pow_le_pow_right (by decide) (show s ≤ 32 by omega)) (by decide))
        have HST := Lib.hid (Na.shift_step o q off k cc 0 s ho1 HInv.out (Na.take_more q k (by omega)))
        have e0 : cc + 0 * 2 ^ s = cc := by omega
        rw [e0] at HST
        have HL2 := Lib.hid (show cc / 4294967296 < 2 ^ s by rw [Nat.div_eq_of_lt hl1]; exact Nat.pow_pos (by decide))
        clear e0
        go_wp2_with fail
        go_roundw
        case rel => exact ⟨k + 1, cc / 4294967296, o.set (off + k) (cc % 4294967296), by omega, by go_num, by first | rfl | go_num, HL2, Lib.hid (by have := HBl.out.set (off + k) (cc % 4294967296); first | exact this | (rw [Nat.mod_eq_of_lt hl1] at this ⊢; exact this)), Lib.hid (by rw [List.length_set]; exact HOl.out), Lib.hid (Na.ok_set HOk.out _ _ (by omega)), Lib.hid (by rw [List.take_set_of_le (by omega)]; exact HTk.out), HST, Lib.hid (by have hbe := HBe.out; (repeat (first | exact Below.refl _ _ | assumption | refine Below.setCell ?_ (by first | omega | (simp <;> omega)) _ | refine Below.alloc ?_ (by first | omega | (simp <;> omega)) _ | refine Below.drew ?_ | refine below_drewN' ?_ _)))⟩
        case measure => simp [intOf]; omega
    · obtain rfl : k = N := by omega
      have HE := Lib.hid (show Na.val (o.drop off) + Na.B ^ k * cc = Na.val (q.take k) * 2 ^ s by
        have := HInv.out; rwa [List.take_of_length_le (by rw [List.length_drop, HOl.out]; omega)] at this)
      go_wp2_with fail
      refine bodyPost_end (results_none rfl _ _ _) rfl ?_
      exact ⟨rfl, HBe.out, o, HBl.out, HOl.out, HOk.out, HTk.out, cc, HE.out⟩
end Go.Proofs.YtiglekomfgfilaaGreatDoor
