/- Cmp. -/
import Derived.Test.YtcdndcbfmlnpjaaGreatDoorZ2
import Derived.Deep.QuietTactic
import Derived.BigQuiet
namespace Go.Proofs.YtcdndcbfmlnpjaaGreatDoor
set_option linter.all false
open Go.RowKit

theorem Na.cmp_lt {a b : List Nat} (h : Na.val a < Na.val b) : Na.cmp a b = -1 := if_pos h
theorem Na.cmp_gt {a b : List Nat} (h : Na.val b < Na.val a) : Na.cmp a b = 1 := by rw [Na.cmp, if_neg (by omega), if_pos h]
theorem Na.cmp_eq {a b : List Nat} (h : Na.val a = Na.val b) : Na.cmp a b = 0 := by rw [Na.cmp, if_neg (by omega), if_neg (by omega)]

set_option maxHeartbeats 1000000 in
theorem na_cmp_any (a : Option Addr) (c : Nat) (l : List Nat) (b : Option Addr) (d : Nat) (m : List Nat) (w : World) (h : Sl w a c l) (h' : Sl w b d m) (hn : l.length ≤ 1000000) (hm : m.length ≤ 1000000) :
    Calls Tryz.prog 17 #[.slice a l.length c, .slice b m.length d] w (RetB (.int .i64 (Na.cmp l m)) w) := by
  have H1 := Lib.hid (na_cut_any a c l w h hn)
  have H2 := Lib.hid (na_cut_any b d m w h' hm)
  have hl1 : (Na.cut l).length ≤ 1000000 := Nat.le_trans (Na.rt_le h.ok).1 hn
  have hl2 : (Na.cut m).length ≤ 1000000 := Nat.le_trans (Na.rt_le h'.ok).1 hm
  have S1 := h.cut
  have S2 := h'.cut
  have hlt : (Na.cut l).length < (Na.cut m).length → Na.val l < Na.val m := Na.lt_of_rt h.ok h'.ok
  have hgt : (Na.cut m).length < (Na.cut l).length → Na.val m < Na.val l := Na.lt_of_rt h'.ok h.ok
  have v1 := Na.val_cut (a := l)
  have v2 := Na.val_cut (a := m)
  obtain ⟨q, hq⟩ : ∃ q, q = Na.cut l := ⟨_, rfl⟩
  obtain ⟨r, hr⟩ : ∃ r, r = Na.cut m := ⟨_, rfl⟩
  rw [← hq] at H1 hl1 S1 hlt hgt v1
  rw [← hr] at H2 hl2 S2 hlt hgt v2
  clear hq hr
  obtain ⟨n, hqn⟩ : ∃ n, q.length = n := ⟨_, rfl⟩
  obtain ⟨k, hrk⟩ : ∃ k, r.length = k := ⟨_, rfl⟩
  rw [hqn] at H1 hl1 hlt hgt
  rw [hrk] at H2 hl2 hlt hgt
  by_cases hnk : n = k
  · subst hnk
    clear hlt hgt
    have b0 : ((n : Int) != n) = false := by simp
    have HQ := Lib.hid hqn; have HR := Lib.hid hrk; have V1 := Lib.hid v1; have V2 := Lib.hid v2
    clear hqn hrk v1 v2
    go_enter Tryz.func17, Tryz.ntmps17
    go_wp2_with (first | (go_at_call 38; (with_reducible refine (H1.out).mono ?_); rintro e w' ⟨rfl, rfl⟩) | (go_at_call 38; (with_reducible refine (H2.out).mono ?_); rintro e w' ⟨rfl, rfl⟩))
    go_loopw [23] (fun i wr => ∃ j : Nat, j ≤ n ∧ i = .int .i64 j ∧ q.drop (n - j) = r.drop (n - j) ∧ Below w.heap.size w wr) (fun i _ => n - (intOf i).toNat)
    case atStart => exact ⟨0, Nat.zero_le _, rfl, by rw [Nat.sub_zero, List.drop_of_length_le (by have := HQ.out; omega), List.drop_of_length_le (by have := HR.out; omega)], Below.refl _ _⟩
    case round =>
      obtain ⟨j, hj, rfl, hd, hbw⟩ := hrel
      have HD := Lib.hid hd; have HB := Lib.hid hbw; clear hd hbw
      by_cases hlt : j < n
      · obtain ⟨t, rfl⟩ : ∃ t, n = j + 1 + t := ⟨n - (j + 1), by omega⟩
        have e1 : j + 1 + t - j = t + 1 := by omega
        have e2 : j + 1 + t - (j + 1) = t := by omega
        obtain ⟨b1, o1, rfl, hb1, hc1⟩ := (S1.on HB.out).plain (by have := HQ.out; omega)
        obtain ⟨b2, o2, rfl, hb2, hc2⟩ := (S2.on HB.out).plain (by have := HR.out; omega)
        have hq1 : t < q.length := by have := HQ.out; omega
        have hr1 : t < r.length := by have := HR.out; omega
        have c1 := hc1 t hq1
        have c2 := hc2 t hr1
        have HE := Lib.hid (show q.drop (t + 1) = r.drop (t + 1) by rw [← e1]; exact HD.out)
        have G1 := Lib.hid (Na.cmp_at S1.ok S2.ok (by have := HQ.out; have := HR.out; omega) t hq1 hr1 HE.out)
        have G2 := Lib.hid (Na.cmp_at S2.ok S1.ok (by have := HQ.out; have := HR.out; omega) t hr1 hq1 HE.out.symm)
        have E2 := Lib.hid e2
        clear e1 e2
        obtain ⟨x, hx⟩ : ∃ x, q[t]'hq1 = x := ⟨_, rfl⟩
        obtain ⟨y, hy⟩ : ∃ y, r[t]'hr1 = y := ⟨_, rfl⟩
        have EQ := Lib.hid (show x = y → q.drop (j + 1 + t - (j + 1)) = r.drop (j + 1 + t - (j + 1)) from fun e => by rw [E2.out, List.drop_eq_getElem_cons hq1, List.drop_eq_getElem_cons hr1, hx, hy, e, HE.out])
        rw [hx] at c1 G1 G2; rw [hy] at c2 G1 G2
        clear hx hy hc1 hc2 HD
        by_cases hxy : x < y
        · have e := Lib.hid (Na.cmp_lt (a := l) (b := m) (by rw [← V1.out, ← V2.out]; exact G1.out hxy))
          go_wp2_with fail
          go_quiet (fail)
          go_wp2_with fail
          go_ret
          exact RetB.of (by rw [e.out]; rfl) (below_drewN' HB.out _)
        · by_cases hyx : y < x
          · have e := Lib.hid (Na.cmp_gt (a := l) (b := m) (by rw [← V1.out, ← V2.out]; exact G2.out hyx))
            go_wp2_with fail
            go_quiet (fail)
            go_wp2_with fail
            go_quiet (fail)
            go_wp2_with fail
            go_ret
            exact RetB.of (by rw [e.out]; rfl) (below_drewN' (below_drewN' HB.out _) _)
          · obtain rfl : x = y := by omega
            have EQ2 := Lib.hid (EQ.out rfl)
            clear EQ
            go_wp2_with fail
            go_quiet (fail)
            go_wp2_with fail
            go_quiet (fail)
            go_wp2_with fail
            go_roundw
            case rel => exact ⟨j + 1, by omega, by go_num, EQ2.out, below_drewN' HB.out _⟩
            case measure => simp [intOf]; omega
      · obtain rfl : j = n := by omega
        have e := Lib.hid (Na.cmp_eq (a := l) (b := m) (by rw [← V1.out, ← V2.out]; have := HD.out; rw [Nat.sub_self, List.drop_zero, List.drop_zero] at this; rw [this]))
        go_wp2_with fail
        go_ret
        exact RetB.of (by rw [e.out]; rfl) HB.out
  · by_cases hlk : n < k
    · have e := Lib.hid (Na.cmp_lt (hlt hlk))
      have b0 : ((n : Int) != k) = true := by simp; omega
      clear hlt hgt hqn hrk v1 v2
      go_enter Tryz.func17, Tryz.ntmps17
      go_wp2_with (first | (go_at_call 38; (with_reducible refine (H1.out).mono ?_); rintro e w' ⟨rfl, rfl⟩) | (go_at_call 38; (with_reducible refine (H2.out).mono ?_); rintro e w' ⟨rfl, rfl⟩))
      go_ret
      exact RetB.of (by rw [e.out]; rfl) (Below.refl _ _)
    · have e := Lib.hid (Na.cmp_gt (hgt (by omega)))
      have b0 : ((n : Int) != k) = true := by simp; omega
      clear hlt hgt hqn hrk v1 v2
      go_enter Tryz.func17, Tryz.ntmps17
      go_wp2_with (first | (go_at_call 38; (with_reducible refine (H1.out).mono ?_); rintro e w' ⟨rfl, rfl⟩) | (go_at_call 38; (with_reducible refine (H2.out).mono ?_); rintro e w' ⟨rfl, rfl⟩))
      go_ret
      exact RetB.of (by rw [e.out]; rfl) (Below.refl _ _)
end Go.Proofs.YtcdndcbfmlnpjaaGreatDoor

/- over, fits, Add32, Sub32. -/
namespace Go.Proofs.YtcdndcbfmlnpjaaGreatDoor
set_option linter.all false
open Go.RowKit

/-- One of the slices that over is handed. -/
structure Arg where
  a : Option Addr
  c : Nat
  l : List Nat
def Args (w : World) (g : Nat) (L : List Arg) : Prop := ∀ k (h : k < L.length), w.cell? ⟨g, k, none⟩ = some (.slice L[k].a L[k].l.length L[k].c) ∧ Sl w L[k].a L[k].c L[k].l ∧ L[k].l.length ≤ 1000000

set_option maxHeartbeats 400000 in
theorem na_over_any (L : List Arg) (g : Nat) (w : World) (h : Args w g L) (hl : L.length ≤ 2) :
    Calls Tryz.prog 40 #[.slice (some ⟨g, 0, none⟩) L.length L.length] w (Ret0 (.bool (L.any fun x => Na.big x.l)) w) := by
  have HA := Lib.hid h; clear h
  go_enter Tryz.func40, Tryz.ntmps40
  go_wp2_with fail
  go_loop [7] (fun i => ∃ k : Nat, k ≤ L.length ∧ i = .int .i64 k ∧ ((L.take k).any fun x => Na.big x.l) = false) (fun i => L.length - (intOf i).toNat)
  case atStart => exact ⟨0, Nat.zero_le _, rfl, rfl⟩
  case round =>
    obtain ⟨k, hk, rfl, hb⟩ := hrel
    have HB := Lib.hid hb; clear hb
    by_cases hlt : k < L.length
    · obtain ⟨c1, s1, n1⟩ := HA.out k hlt
      have HT := Lib.hid (show ((L.take (k + 1)).any fun x => Na.big x.l) = Na.big L[k].l by rw [List.take_succ_eq_append_getElem hlt, List.any_append, HB.out]; simp)
      have HX := Lib.hid (show Na.big L[k].l = true → (L.any fun x => Na.big x.l) = true from fun e => List.any_eq_true.2 ⟨L[k], List.getElem_mem hlt, e⟩)
      obtain ⟨x, hx⟩ : ∃ x, L[k] = x := ⟨_, rfl⟩
      rw [hx] at c1 s1 n1 HT HX
      clear hx
      have H1 := Lib.hid (na_right_any x.a x.c x.l w s1 n1)
      by_cases hbig : 256 < Na.rt x.l
      · have e := Lib.hid (HX.out (decide_eq_true hbig))
        clear HX HT
        go_wp2_with (first | (go_at_call 37; (with_reducible refine (H1.out).mono ?_); rintro e w' ⟨rfl, rfl⟩))
        go_ret
        exact Ret0.of (by rw [e.out]; rfl)
      · have e := Lib.hid (HT.out.trans (decide_eq_false hbig))
        clear HX HT
        replace hbig : Na.rt x.l ≤ 256 := by omega
        go_wp2_with (first | (go_at_call 37; (with_reducible refine (H1.out).mono ?_); rintro e w' ⟨rfl, rfl⟩))
        go_round
        case rel => exact ⟨k + 1, by omega, by go_num, e.out⟩
        case measure => simp [intOf]; omega
    · have e := Lib.hid (show (L.any fun x => Na.big x.l) = false by have := HB.out; rwa [List.take_of_length_le (by omega)] at this)
      go_wp2_with fail
      go_ret
      exact Ret0.of (by rw [e.out]; rfl)

/-- fits: the answer, or too big. -/
def FitsR (a : Option Addr) (l : List Nat) (w : World) (e : Ending) (w' : World) : Prop := w = w' ∧ ∃ a' c', e = .returned (.tuple #[.slice a' (Na.fits (Na.val l)).1.length c', .int .i64 (Na.fits (Na.val l)).2]) ∧ Sl w a' c' (Na.fits (Na.val l)).1 ∧ (a' = a ∨ (Na.fits (Na.val l)).1 = [])

theorem na_fits_any (a : Option Addr) (c : Nat) (l : List Nat) (w : World) (h : Sl w a c l) (hn : l.length ≤ 1000000) :
    Calls Tryz.prog 42 #[.slice a l.length c] w (FitsR a l w) := by
  have H1 := Lib.hid (na_cut_any a c l w h hn)
  have hc := Lib.hid h.cut
  by_cases h2 : 256 < (Na.cut l).length
  · have e1 := Lib.hid (show Na.fits (Na.val l) = ([], 2) from if_pos h2)
    go_enter Tryz.func42, Tryz.ntmps42
    go_wp2_with (first | (go_at_call 38; (with_reducible refine (H1.out).mono ?_); rintro e w' ⟨rfl, rfl⟩))
    refine bodyPost_ret (v := .tuple #[.slice none 0 0, .int .i64 2]) (by simp [results, Tryz.results42, go_sem]) rfl ⟨rfl, none, 0, ?_, ?_, Or.inr ?_⟩ <;> rw [e1.out]
    · rfl
    · exact Sl.nil _ _ _
  · have e1 := Lib.hid (show Na.fits (Na.val l) = (Na.cut l, 0) from if_neg h2)
    replace h2 : (Na.cut l).length ≤ 256 := by omega
    go_enter Tryz.func42, Tryz.ntmps42
    go_wp2_with (first | (go_at_call 38; (with_reducible refine (H1.out).mono ?_); rintro e w' ⟨rfl, rfl⟩))
    refine bodyPost_ret (v := .tuple #[.slice a (Na.cut l).length c, .int .i64 0]) (by simp [results, Tryz.results42, go_sem]) rfl ⟨rfl, a, c, ?_, ?_, Or.inl rfl⟩ <;> rw [e1.out]
    exact hc.out

theorem add32_any (x y c : Nat) (hx : x < 4294967296) (hy : y < 4294967296) (hc : c < 4294967296) (w : World) :
    Calls Tryz.prog 41 #[.int .u32 x, .int .u32 y, .int .u32 c] w (Ret0 (.tuple #[.int .u32 ((x + y + c) % 4294967296 : Nat), .int .u32 ((x + y + c) / 4294967296 : Nat)]) w) := by
  go_enter Tryz.func41, Tryz.ntmps41
  go_wp2
  refine bodyPost_ret (v := .tuple #[.int .u32 ((x + y + c) % 4294967296 : Nat), .int .u32 ((x + y + c) / 4294967296 : Nat)]) (by simp [results, Tryz.results41, go_sem]) rfl ⟨rfl, rfl⟩
theorem sub32_any (x y c : Nat) (hx : x < 4294967296) (hy : y < 4294967296) (hc : c ≤ 1) (w : World) :
    Calls Tryz.prog 46 #[.int .u32 x, .int .u32 y, .int .u32 c] w (Ret0 (.tuple #[.int .u32 ((x + 4294967296 - y - c) % 4294967296 : Nat), .int .u32 (if x < y + c then 1 else 0 : Nat)]) w) := by
  have hb := Na.sub32_borrow x y c hx hy hc
  have hd : (((x : Int) - y - c) % 4294967296) = ((x + 4294967296 - y - c) % 4294967296 : Nat) := by omega
  obtain ⟨z, hz⟩ : ∃ z : Nat, z = if x < y + c then 1 else 0 := ⟨_, rfl⟩
  obtain ⟨v, hv⟩ : ∃ v : Nat, v = (x + 4294967296 - y - c) % 4294967296 := ⟨_, rfl⟩
  rw [← hz] at hb ⊢
  rw [← hv] at hd ⊢
  have HB := Lib.hid hb; have HD := Lib.hid hd
  clear hb hd hz hv
  have hs : IntKind.u32.signed = false := rfl
  go_enter Tryz.func46, Tryz.ntmps46
  go_wp2
  refine bodyPost_ret (v := .tuple #[.int .u32 v, .int .u32 z]) (by simp [results, Tryz.results46, go_sem]; exact ⟨HD.out, HB.out⟩) rfl ⟨rfl, rfl⟩
end Go.Proofs.YtcdndcbfmlnpjaaGreatDoor

/- Add. -/
namespace Go.Proofs.YtcdndcbfmlnpjaaGreatDoor
set_option linter.all false
open Go.RowKit

theorem Na.not_big {l m : List Nat} (h : (Na.big l || Na.big m) = false) : (Na.cut l).length ≤ 256 ∧ (Na.cut m).length ≤ 256 := by
  obtain ⟨h1, h2⟩ := Bool.or_eq_false_iff.1 h
  exact ⟨Nat.le_of_not_lt (of_decide_eq_false h1), Nat.le_of_not_lt (of_decide_eq_false h2)⟩
theorem args2 {w : World} {a b : Option Addr} {c d : Nat} {l m : List Nat} (h : Sl w a c l) (h' : Sl w b d m) (hn : l.length ≤ 1000000) (hm : m.length ≤ 1000000) (t : TypeId) :
    Args (w.alloc (Obj.cells #[Value.slice a l.length c, Value.slice b m.length d] t)) w.heap.size [⟨a, c, l⟩, ⟨b, d, m⟩] := by
  have hB : Below w.heap.size w (w.alloc (Obj.cells #[Value.slice a l.length c, Value.slice b m.length d] t)) := (Below.refl _ _).alloc (Nat.le_refl _) _
  have hc : ∀ k v, #[Value.slice a l.length c, Value.slice b m.length d][k]? = some v → (w.alloc (Obj.cells #[Value.slice a l.length c, Value.slice b m.length d] t)).cell? ⟨w.heap.size, k, none⟩ = some v := fun k v hv => by
    show (match (w.heap.push _)[w.heap.size]? with | some (.cells c _ _) => if (none : Option Nat).isSome then none else c[k]? | _ => none) = some v
    simp [hv]
  intro k hk
  match k, hk with
  | 0, _ => exact ⟨hc 0 _ rfl, h.on hB, hn⟩
  | 1, _ => exact ⟨hc 1 _ rfl, h'.on hB, hm⟩

theorem na_over2_any {w : World} {a b : Option Addr} {c d : Nat} {l m : List Nat} (h : Sl w a c l) (h' : Sl w b d m) (hn : l.length ≤ 1000000) (hm : m.length ≤ 1000000) (r : Bool) (hr : (Na.big l || Na.big m) = r) :
    Calls Tryz.prog 40 #[.slice (some ⟨w.heap.size, 0, none⟩) 2 2] (w.alloc (Obj.cells #[Value.slice a l.length c, Value.slice b m.length d] 26)) (Ret0 (.bool r) (w.alloc (Obj.cells #[Value.slice a l.length c, Value.slice b m.length d] 26))) := by
  have := na_over_any [⟨a, c, l⟩, ⟨b, d, m⟩] w.heap.size _ (args2 h h' hn hm 26) (Nat.le_refl _)
  have e : ([⟨a, c, l⟩, ⟨b, d, m⟩] : List Arg).any (fun x => Na.big x.l) = r := by rw [← hr]; simp
  rw [e] at this; exact this

theorem FitsR.gives {g : Nat} {l : List Nat} {w w1 w' : World} {e : Ending} (h : FitsR (some ⟨g, 0, none⟩) l w1 e w') (hb : Below w.heap.size w w1) (hg : w.heap.size ≤ g) (hk : Blk w1 g l) : GivesE (Na.fits (Na.val l)) w e w' := by
  obtain ⟨rfl, a', c', rfl, hs, ho⟩ := h
  refine ⟨a', c', rfl, hs, ?_, hb⟩
  rcases ho with rfl | ho
  · exact hk.own hg
  · rw [ho]; exact Own.nil _ _ _

def addLoop (n g : Nat) (P Q : List Nat) (w : World) (cv i : Value) (wr : World) : Prop := ∃ (k cc : Nat) (o : List Nat), k ≤ n ∧ i = .int .i64 k ∧ cv = .int .u32 cc ∧ cc ≤ 1 ∧ Hid (Blk wr g o) ∧ Hid (o.length = n + 1) ∧ Hid (Na.OK (o.take k)) ∧
  Hid (Na.val (o.take k) + Na.B ^ k * cc = Na.val (P.take k) + Na.val (Q.take k)) ∧ Hid (Below w.heap.size w wr)

set_option maxHeartbeats 1000000 in
theorem na_add_big (a : Option Addr) (c : Nat) (l : List Nat) (b : Option Addr) (d : Nat) (m : List Nat) (w : World) (h : Sl w a c l) (h' : Sl w b d m) (hn : l.length ≤ 1000000) (hm : m.length ≤ 1000000) (hbig : (Na.big l || Na.big m) = true) :
    Calls Tryz.prog 19 #[.slice a l.length c, .slice b m.length d] w (GivesE (Na.add l m) w) := by
  have H1 := Lib.hid (na_over2_any h h' hn hm true hbig)
  have e2 := Lib.hid (show Na.add l m = ([], 2) from if_pos hbig)
  have hB : Below w.heap.size w (w.alloc (Obj.cells #[Value.slice a l.length c, Value.slice b m.length d] 26)) := (Below.refl _ _).alloc (Nat.le_refl _) _
  clear hbig
  go_enter Tryz.func19, Tryz.ntmps19
  go_wp2_with (first | (go_at_call 40; (with_reducible refine (H1.out).mono ?_); rintro e w' ⟨rfl, rfl⟩))
  refine bodyPost_ret (v := .tuple #[.slice none 0 0, .int .i64 2]) (by simp [results, Tryz.results19, go_sem]) rfl ⟨none, 0, ?_, ?_, ?_, hB⟩ <;> rw [e2.out]
  · rfl
  · exact Sl.nil _ _ _
  · exact Own.nil _ _ _
/-- Add, no number too big. -/
theorem placeholder : True := trivial

set_option maxHeartbeats 2000000 in
theorem na_add_ok (a : Option Addr) (c : Nat) (l : List Nat) (b : Option Addr) (d : Nat) (m : List Nat) (w : World) (h : Sl w a c l) (h' : Sl w b d m) (hn : l.length ≤ 1000000) (hm : m.length ≤ 1000000) (hbig : (Na.big l || Na.big m) = false) :
    Calls Tryz.prog 19 #[.slice a l.length c, .slice b m.length d] w (GivesE (Na.add l m) w) := by
  have H1 := Lib.hid (na_over2_any h h' hn hm false hbig)
  have E2 := Lib.hid (show Na.add l m = Na.fits (Na.val l + Na.val m) from if_neg (by simp [hbig]))
  have hB : Below w.heap.size w (w.alloc (Obj.cells #[Value.slice a l.length c, Value.slice b m.length d] 26)) := (Below.refl _ _).alloc (Nat.le_refl _) _
  have H2 := Lib.hid (na_cut_any a c l _ (h.on hB) hn)
  have H3 := Lib.hid (na_cut_any b d m _ (h'.on hB) hm)
  obtain ⟨hl1, hl2⟩ := Na.not_big hbig
  have S1 := h.cut
  have S2 := h'.cut
  have V1 := Lib.hid (Na.val_cut (a := l))
  have V2 := Lib.hid (Na.val_cut (a := m))
  obtain ⟨q, hq⟩ : ∃ q, q = Na.cut l := ⟨_, rfl⟩
  obtain ⟨r, hr⟩ : ∃ r, r = Na.cut m := ⟨_, rfl⟩
  rw [← hq] at H2 hl1 S1 V1
  rw [← hr] at H3 hl2 S2 V2
  clear hq hr hbig
  obtain ⟨n, hqn⟩ : ∃ n, q.length = n := ⟨_, rfl⟩
  obtain ⟨k', hrk⟩ : ∃ k, r.length = k := ⟨_, rfl⟩
  rw [hqn] at H2 hl1
  rw [hrk] at H3 hl2
  have HQ := Lib.hid hqn; have HR := Lib.hid hrk
  clear hqn hrk
  obtain ⟨ti, hi, hz0, hz1, hz2⟩ := info_parts infoU32
  by_cases hlt : n < k'
  · go_enter Tryz.func19, Tryz.ntmps19
    go_wp2_with (first | (go_at_call 40; (with_reducible refine (H1.out).mono ?_); rintro e w' ⟨rfl, rfl⟩) | (go_at_call 38; (with_reducible refine (H2.out).mono ?_); rintro e w' ⟨rfl, rfl⟩) | (go_at_call 38; (with_reducible refine (H3.out).mono ?_); rintro e w' ⟨rfl, rfl⟩) | (at_make; refine wpList_make_full _ rfl _ _ 26 rfl w.heap.size 63 ti (.int .u32 0) 1 Tryz.underlying26 hi hz0 hz1 .i64 .i64 _ _ (k' + 1) rfl rfl rfl rfl (by rw [hz2]; omega) (by unfold maxLen; omega) (by simp [World.size_alloc]) ?_))
    intro w1 hown hgrow
    have hB1 : Below w.heap.size w w1 := hB.grown hgrow (by simp [World.size_alloc]) (fun k e => by cases e)
    have hK := Lib.hid (Blk.made hown)
    have hHB := Lib.hid hB1
    have hgw : w.heap.size + 1 < w1.heap.size := by
      have := hK.out.lt; simpa [World.size_alloc] using this
    clear hown hgrow hz2 hz1 hz0 hi ti hB hB1
    go_wp2_with fail
    go_loopw [7, 31] (addLoop k' (w.heap.size + 1) r q w) (fun _ i _ => k' - (intOf i).toNat)
    case atStart => exact ⟨0, 0, _, Nat.zero_le _, rfl, rfl, by omega, hK, Lib.hid (by simp), Lib.hid (by intro x hx; cases hx), Lib.hid (by simp [Na.val]), hHB⟩
    case round =>
      obtain ⟨k, cc, o, hk, rfl, rfl, hcc, HBl, HOl, HOk, HInv, HBe⟩ := hrel
      by_cases hlt2 : k < k'
      · have hq1 : k < r.length := by have := HR.out; omega
        obtain ⟨b1, o1, rfl, hb1, hc1⟩ := (S2.on HBe.out).plain (by omega)
        have c1 := hc1 k hq1
        have hx := S2.lt k hq1
        have VP := Lib.hid (Na.val_take_succ r k hq1)
        obtain ⟨x, hxe⟩ : ∃ x, r[k]'hq1 = x := ⟨_, rfl⟩
        rw [hxe] at c1 hx VP
        clear hc1 hxe
        have ho1 : k < o.length := by have := HOl.out; omega
        have co := HBl.out.cell k ho1
        have fo := HBl.out.frozen k
        by_cases hy : k < n
        · have hr1 : k < q.length := by have := HQ.out; omega
          obtain ⟨b2, o2, rfl, hb2, hc2⟩ := (S1.on HBe.out).plain (by omega)
          have c2 := hc2 k hr1
          have hyl := S1.lt k hr1
          have VQ := Lib.hid (Na.val_take_succ q k hr1)
          obtain ⟨y, hye⟩ : ∃ x, q[k]'hr1 = x := ⟨_, rfl⟩
          rw [hye] at c2 hyl VQ
          clear hc2 hye
          have HA32 := Lib.hid (add32_any x y cc hx hyl (by omega) wr)
          have HS := Lib.hid (Na.add_step o r q k x y cc ho1 HInv.out VP.out VQ.out)
          have HO2 := Lib.hid (Na.ok_set_take o k ((x + y + cc) % 4294967296) ho1 HOk.out (by omega))
          have hcc2 : (x + y + cc) / 4294967296 ≤ 1 := by omega
          obtain ⟨v, hv⟩ : ∃ v, v = (x + y + cc) % 4294967296 := ⟨_, rfl⟩
          obtain ⟨cn, hcn⟩ : ∃ v, v = (x + y + cc) / 4294967296 := ⟨_, rfl⟩
          rw [← hv, ← hcn] at HS HA32
          rw [← hv] at HO2
          rw [← hcn] at hcc2
          clear hv hcn
          go_wp2_with (first | (go_at_call 41; (with_reducible refine (HA32.out).mono ?_); rintro e w' ⟨rfl, rfl⟩))
          go_roundw
          case rel => exact ⟨k + 1, cn, o.set k v, by omega, by go_num, rfl, hcc2, Lib.hid (HBl.out.set k v), Lib.hid (by rw [List.length_set]; exact HOl.out), HO2, HS, Lib.hid (by have hbe := HBe.out; (repeat (first | exact Below.refl _ _ | assumption | refine Below.setCell ?_ (by first | omega | (simp <;> omega)) _ | refine Below.alloc ?_ (by first | omega | (simp <;> omega)) _ | refine Below.drew ?_ | refine below_drewN' ?_ _)))⟩
          case measure => simp [intOf]; omega
        · have VQ := Lib.hid (Na.take_more q k (by have := HQ.out; omega))
          have HA32 := Lib.hid (show Calls Tryz.prog 41 #[.int .u32 x, .int .u32 0, .int .u32 cc] wr _ from add32_any x 0 cc hx (by omega) (by omega) wr)
          have HS := Lib.hid (Na.add_step o r q k x 0 cc ho1 HInv.out VP.out VQ.out)
          have HO2 := Lib.hid (Na.ok_set_take o k ((x + 0 + cc) % 4294967296) ho1 HOk.out (by omega))
          have hcc2 : (x + 0 + cc) / 4294967296 ≤ 1 := by omega
          obtain ⟨v, hv⟩ : ∃ v, v = (x + 0 + cc) % 4294967296 := ⟨_, rfl⟩
          obtain ⟨cn, hcn⟩ : ∃ v, v = (x + 0 + cc) / 4294967296 := ⟨_, rfl⟩
          rw [← hv, ← hcn] at HS HA32
          rw [← hv] at HO2
          rw [← hcn] at hcc2
          clear hv hcn
          go_wp2_with (first | (go_at_call 41; (with_reducible refine (HA32.out).mono ?_); rintro e w' ⟨rfl, rfl⟩))
          go_roundw
          case rel => exact ⟨k + 1, cn, o.set k v, by omega, by go_num, rfl, hcc2, Lib.hid (HBl.out.set k v), Lib.hid (by rw [List.length_set]; exact HOl.out), HO2, HS, Lib.hid (by have hbe := HBe.out; (repeat (first | exact Below.refl _ _ | assumption | refine Below.setCell ?_ (by first | omega | (simp <;> omega)) _ | refine Below.alloc ?_ (by first | omega | (simp <;> omega)) _ | refine Below.drew ?_ | refine below_drewN' ?_ _)))⟩
          case measure => simp [intOf]; omega
      · obtain rfl : k = k' := by omega
        have ho1 : k < o.length := by have := HOl.out; omega
        have co := HBl.out.cell k ho1
        have fo := HBl.out.frozen k
        have hlen : (o.set k cc).length = k + 1 := by rw [List.length_set, HOl.out]
        have hv : Na.val (o.set k cc) = Na.val l + Na.val m := by
          have e1 := Na.val_set_take o k cc ho1
          rw [List.take_of_length_le (l := o.set k cc) (by omega), HInv.out, List.take_of_length_le (l := r) (by rw [HR.out]; exact Nat.le_refl _), List.take_of_length_le (l := q) (by have := HQ.out; omega), V1.out, V2.out] at e1
          rw [e1]; exact Nat.add_comm _ _
        have hok : Na.OK (o.set k cc) := by
          have := Na.ok_set_take o k cc ho1 HOk.out (by omega); rwa [List.take_of_length_le (by omega)] at this
        have HS := HBl.out.set k cc
        have HF := na_fits_any (some ⟨w.heap.size + 1, 0, none⟩) (k + 1) (o.set k cc) _ (HS.sl hok (by omega)) (by omega)
        rw [hlen] at HF
        have hbf : Below w.heap.size w (wr.setCell ⟨w.heap.size + 1, k, none⟩ (.int .u32 (cc : Int))) := (by have hbe := HBe.out; (repeat (first | exact Below.refl _ _ | assumption | refine Below.setCell ?_ (by first | omega | (simp <;> omega)) _ | refine Below.alloc ?_ (by first | omega | (simp <;> omega)) _ | refine Below.drew ?_ | refine below_drewN' ?_ _)))
        have HG := Lib.hid (fun e w' (hg : FitsR (some ⟨w.heap.size + 1, 0, none⟩) (o.set k cc) (wr.setCell ⟨w.heap.size + 1, k, none⟩ (.int .u32 (cc : Int))) e w') => (by have := hg.gives hbf (by omega) HS; rwa [hv, ← E2.out] at this : GivesE (Na.add l m) w e w'))
        have HF' := Lib.hid HF
        clear hv hok hlen HS HF hbf
        go_wp2_with (first | (go_at_call 42; (with_reducible refine (HF'.out).mono ?_); intro e w' hg; obtain ⟨a', c', rfl, hs, ho, hb⟩ := HG.out e w' hg))
        refine bodyPost_ret (v := .tuple #[.slice a' (Na.add l m).1.length c', .int .i64 (Na.add l m).2]) (by simp [results, Tryz.results19, go_sem]) rfl ⟨a', c', rfl, hs, ho, hb⟩
  · go_enter Tryz.func19, Tryz.ntmps19
    go_wp2_with (first | (go_at_call 40; (with_reducible refine (H1.out).mono ?_); rintro e w' ⟨rfl, rfl⟩) | (go_at_call 38; (with_reducible refine (H2.out).mono ?_); rintro e w' ⟨rfl, rfl⟩) | (go_at_call 38; (with_reducible refine (H3.out).mono ?_); rintro e w' ⟨rfl, rfl⟩) | (at_make; refine wpList_make_full _ rfl _ _ 26 rfl w.heap.size 63 ti (.int .u32 0) 1 Tryz.underlying26 hi hz0 hz1 .i64 .i64 _ _ (n + 1) rfl rfl rfl rfl (by rw [hz2]; omega) (by unfold maxLen; omega) (by simp [World.size_alloc]) ?_))
    intro w1 hown hgrow
    have hB1 : Below w.heap.size w w1 := hB.grown hgrow (by simp [World.size_alloc]) (fun k e => by cases e)
    have hK := Lib.hid (Blk.made hown)
    have hHB := Lib.hid hB1
    have hgw : w.heap.size + 1 < w1.heap.size := by
      have := hK.out.lt; simpa [World.size_alloc] using this
    clear hown hgrow hz2 hz1 hz0 hi ti hB hB1
    go_wp2_with fail
    go_loopw [7, 31] (addLoop n (w.heap.size + 1) q r w) (fun _ i _ => n - (intOf i).toNat)
    case atStart => exact ⟨0, 0, _, Nat.zero_le _, rfl, rfl, by omega, hK, Lib.hid (by simp), Lib.hid (by intro x hx; cases hx), Lib.hid (by simp [Na.val]), hHB⟩
    case round =>
      obtain ⟨k, cc, o, hk, rfl, rfl, hcc, HBl, HOl, HOk, HInv, HBe⟩ := hrel
      by_cases hlt2 : k < n
      · have hq1 : k < q.length := by have := HQ.out; omega
        obtain ⟨b1, o1, rfl, hb1, hc1⟩ := (S1.on HBe.out).plain (by omega)
        have c1 := hc1 k hq1
        have hx := S1.lt k hq1
        have VP := Lib.hid (Na.val_take_succ q k hq1)
        obtain ⟨x, hxe⟩ : ∃ x, q[k]'hq1 = x := ⟨_, rfl⟩
        rw [hxe] at c1 hx VP
        clear hc1 hxe
        have ho1 : k < o.length := by have := HOl.out; omega
        have co := HBl.out.cell k ho1
        have fo := HBl.out.frozen k
        by_cases hy : k < k'
        · have hr1 : k < r.length := by have := HR.out; omega
          obtain ⟨b2, o2, rfl, hb2, hc2⟩ := (S2.on HBe.out).plain (by omega)
          have c2 := hc2 k hr1
          have hyl := S2.lt k hr1
          have VQ := Lib.hid (Na.val_take_succ r k hr1)
          obtain ⟨y, hye⟩ : ∃ x, r[k]'hr1 = x := ⟨_, rfl⟩
          rw [hye] at c2 hyl VQ
          clear hc2 hye
          have HA32 := Lib.hid (add32_any x y cc hx hyl (by omega) wr)
          have HS := Lib.hid (Na.add_step o q r k x y cc ho1 HInv.out VP.out VQ.out)
          have HO2 := Lib.hid (Na.ok_set_take o k ((x + y + cc) % 4294967296) ho1 HOk.out (by omega))
          have hcc2 : (x + y + cc) / 4294967296 ≤ 1 := by omega
          obtain ⟨v, hv⟩ : ∃ v, v = (x + y + cc) % 4294967296 := ⟨_, rfl⟩
          obtain ⟨cn, hcn⟩ : ∃ v, v = (x + y + cc) / 4294967296 := ⟨_, rfl⟩
          rw [← hv, ← hcn] at HS HA32
          rw [← hv] at HO2
          rw [← hcn] at hcc2
          clear hv hcn
          go_wp2_with (first | (go_at_call 41; (with_reducible refine (HA32.out).mono ?_); rintro e w' ⟨rfl, rfl⟩))
          go_roundw
          case rel => exact ⟨k + 1, cn, o.set k v, by omega, by go_num, rfl, hcc2, Lib.hid (HBl.out.set k v), Lib.hid (by rw [List.length_set]; exact HOl.out), HO2, HS, Lib.hid (by have hbe := HBe.out; (repeat (first | exact Below.refl _ _ | assumption | refine Below.setCell ?_ (by first | omega | (simp <;> omega)) _ | refine Below.alloc ?_ (by first | omega | (simp <;> omega)) _ | refine Below.drew ?_ | refine below_drewN' ?_ _)))⟩
          case measure => simp [intOf]; omega
        · have VQ := Lib.hid (Na.take_more r k (by have := HR.out; omega))
          have HA32 := Lib.hid (show Calls Tryz.prog 41 #[.int .u32 x, .int .u32 0, .int .u32 cc] wr _ from add32_any x 0 cc hx (by omega) (by omega) wr)
          have HS := Lib.hid (Na.add_step o q r k x 0 cc ho1 HInv.out VP.out VQ.out)
          have HO2 := Lib.hid (Na.ok_set_take o k ((x + 0 + cc) % 4294967296) ho1 HOk.out (by omega))
          have hcc2 : (x + 0 + cc) / 4294967296 ≤ 1 := by omega
          obtain ⟨v, hv⟩ : ∃ v, v = (x + 0 + cc) % 4294967296 := ⟨_, rfl⟩
          obtain ⟨cn, hcn⟩ : ∃ v, v = (x + 0 + cc) / 4294967296 := ⟨_, rfl⟩
          rw [← hv, ← hcn] at HS HA32
          rw [← hv] at HO2
          rw [← hcn] at hcc2
          clear hv hcn
          go_wp2_with (first | (go_at_call 41; (with_reducible refine (HA32.out).mono ?_); rintro e w' ⟨rfl, rfl⟩))
          go_roundw
          case rel => exact ⟨k + 1, cn, o.set k v, by omega, by go_num, rfl, hcc2, Lib.hid (HBl.out.set k v), Lib.hid (by rw [List.length_set]; exact HOl.out), HO2, HS, Lib.hid (by have hbe := HBe.out; (repeat (first | exact Below.refl _ _ | assumption | refine Below.setCell ?_ (by first | omega | (simp <;> omega)) _ | refine Below.alloc ?_ (by first | omega | (simp <;> omega)) _ | refine Below.drew ?_ | refine below_drewN' ?_ _)))⟩
          case measure => simp [intOf]; omega
      · obtain rfl : k = n := by omega
        have ho1 : k < o.length := by have := HOl.out; omega
        have co := HBl.out.cell k ho1
        have fo := HBl.out.frozen k
        have hlen : (o.set k cc).length = k + 1 := by rw [List.length_set, HOl.out]
        have hv : Na.val (o.set k cc) = Na.val l + Na.val m := by
          have e1 := Na.val_set_take o k cc ho1
          rw [List.take_of_length_le (l := o.set k cc) (by omega), HInv.out, List.take_of_length_le (l := q) (by rw [HQ.out]; exact Nat.le_refl _), List.take_of_length_le (l := r) (by have := HR.out; omega), V1.out, V2.out] at e1
          rw [e1]
        have hok : Na.OK (o.set k cc) := by
          have := Na.ok_set_take o k cc ho1 HOk.out (by omega); rwa [List.take_of_length_le (by omega)] at this
        have HS := HBl.out.set k cc
        have HF := na_fits_any (some ⟨w.heap.size + 1, 0, none⟩) (k + 1) (o.set k cc) _ (HS.sl hok (by omega)) (by omega)
        rw [hlen] at HF
        have hbf : Below w.heap.size w (wr.setCell ⟨w.heap.size + 1, k, none⟩ (.int .u32 (cc : Int))) := (by have hbe := HBe.out; (repeat (first | exact Below.refl _ _ | assumption | refine Below.setCell ?_ (by first | omega | (simp <;> omega)) _ | refine Below.alloc ?_ (by first | omega | (simp <;> omega)) _ | refine Below.drew ?_ | refine below_drewN' ?_ _)))
        have HG := Lib.hid (fun e w' (hg : FitsR (some ⟨w.heap.size + 1, 0, none⟩) (o.set k cc) (wr.setCell ⟨w.heap.size + 1, k, none⟩ (.int .u32 (cc : Int))) e w') => (by have := hg.gives hbf (by omega) HS; rwa [hv, ← E2.out] at this : GivesE (Na.add l m) w e w'))
        have HF' := Lib.hid HF
        clear hv hok hlen HS HF hbf
        go_wp2_with (first | (go_at_call 42; (with_reducible refine (HF'.out).mono ?_); intro e w' hg; obtain ⟨a', c', rfl, hs, ho, hb⟩ := HG.out e w' hg))
        refine bodyPost_ret (v := .tuple #[.slice a' (Na.add l m).1.length c', .int .i64 (Na.add l m).2]) (by simp [results, Tryz.results19, go_sem]) rfl ⟨a', c', rfl, hs, ho, hb⟩

theorem na_add_any (a : Option Addr) (c : Nat) (l : List Nat) (b : Option Addr) (d : Nat) (m : List Nat) (w : World) (h : Sl w a c l) (h' : Sl w b d m) (hn : l.length ≤ 1000000) (hm : m.length ≤ 1000000) :
    Calls Tryz.prog 19 #[.slice a l.length c, .slice b m.length d] w (GivesE (Na.add l m) w) := by
  cases e : (Na.big l || Na.big m) with
  | true => exact na_add_big a c l b d m w h h' hn hm e
  | false => exact na_add_ok a c l b d m w h h' hn hm e
end Go.Proofs.YtcdndcbfmlnpjaaGreatDoor

/- Sub. -/
namespace Go.Proofs.YtcdndcbfmlnpjaaGreatDoor
set_option linter.all false
open Go.RowKit

theorem Na.sub_step (o P Q : List Nat) (k x y cc v cn : Nat) (hk : k < o.length) (inv : Na.val (o.take k) + Na.val (Q.take k) = Na.val (P.take k) + Na.B ^ k * cc) (hP : Na.val (P.take (k + 1)) = Na.val (P.take k) + Na.B ^ k * x)
    (hQ : Na.val (Q.take (k + 1)) = Na.val (Q.take k) + Na.B ^ k * y) (hs : v + y + cc = x + 4294967296 * cn) : Na.val ((o.set k v).take (k + 1)) + Na.val (Q.take (k + 1)) = Na.val (P.take (k + 1)) + Na.B ^ (k + 1) * cn := by
  have h1 := congrArg (Na.B ^ k * ·) hs
  simp only [Nat.mul_add, ← Nat.mul_assoc] at h1
  rw [Na.val_set_take o k _ hk, hP, hQ, Nat.pow_succ]
  simp only [Na.B] at h1 inv ⊢
  omega

def subLoop (n g : Nat) (P Q : List Nat) (w : World) (cv i : Value) (wr : World) : Prop := ∃ (k cc : Nat) (o : List Nat), k ≤ n ∧ i = .int .i64 k ∧ cv = .int .u32 cc ∧ cc ≤ 1 ∧ Hid (Blk wr g o) ∧ Hid (o.length = n) ∧ Hid (Na.OK (o.take k)) ∧
  Hid (Na.val (o.take k) + Na.val (Q.take k) = Na.val (P.take k) + Na.B ^ k * cc) ∧ Hid (Below w.heap.size w wr)

set_option maxHeartbeats 1000000 in
theorem na_sub_big (a : Option Addr) (c : Nat) (l : List Nat) (b : Option Addr) (d : Nat) (m : List Nat) (w : World) (h : Sl w a c l) (h' : Sl w b d m) (hn : l.length ≤ 1000000) (hm : m.length ≤ 1000000) (hbig : (Na.big l || Na.big m) = true) :
    Calls Tryz.prog 21 #[.slice a l.length c, .slice b m.length d] w (GivesE (Na.sub l m) w) := by
  have H1 := Lib.hid (na_over2_any h h' hn hm true hbig)
  have e2 := Lib.hid (show Na.sub l m = ([], 2) from if_pos hbig)
  have hB : Below w.heap.size w (w.alloc (Obj.cells #[Value.slice a l.length c, Value.slice b m.length d] 26)) := (Below.refl _ _).alloc (Nat.le_refl _) _
  clear hbig
  go_enter Tryz.func21, Tryz.ntmps21
  go_wp2_with (first | (go_at_call 40; (with_reducible refine (H1.out).mono ?_); rintro e w' ⟨rfl, rfl⟩))
  refine bodyPost_ret (v := .tuple #[.slice none 0 0, .int .i64 2]) (by simp [results, Tryz.results21, go_sem]) rfl ⟨none, 0, ?_, ?_, ?_, hB⟩ <;> rw [e2.out]
  · rfl
  · exact Sl.nil _ _ _
  · exact Own.nil _ _ _

set_option maxHeartbeats 2000000 in
theorem na_sub_ok (a : Option Addr) (c : Nat) (l : List Nat) (b : Option Addr) (d : Nat) (m : List Nat) (w : World) (h : Sl w a c l) (h' : Sl w b d m) (hn : l.length ≤ 1000000) (hm : m.length ≤ 1000000) (hbig : (Na.big l || Na.big m) = false) :
    Calls Tryz.prog 21 #[.slice a l.length c, .slice b m.length d] w (GivesE (Na.sub l m) w) := by
  have H1 := Lib.hid (na_over2_any h h' hn hm false hbig)
  have hB : Below w.heap.size w (w.alloc (Obj.cells #[Value.slice a l.length c, Value.slice b m.length d] 26)) := (Below.refl _ _).alloc (Nat.le_refl _) _
  have HC := Lib.hid (na_cmp_any a c l b d m _ (h.on hB) (h'.on hB) hn hm)
  have H2 := Lib.hid (fun wr (hb : Below w.heap.size w wr) => na_cut_any a c l wr (h.on hb) hn)
  have H3 := Lib.hid (fun wr (hb : Below w.heap.size w wr) => na_cut_any b d m wr (h'.on hb) hm)
  by_cases hcmp : Na.val l < Na.val m
  · have E2 := Lib.hid (show Na.sub l m = ([], 6) by rw [Na.sub, hbig, if_neg (by simp), if_pos hcmp])
    rw [Na.cmp_lt hcmp] at HC
    clear hbig hcmp H2 H3
    go_enter Tryz.func21, Tryz.ntmps21
    go_wp2_with (first | (go_at_call 40; (with_reducible refine (H1.out).mono ?_); rintro e w' ⟨rfl, rfl⟩) | (go_at_call 17; (with_reducible refine (HC.out).mono ?_); rintro e w2 ⟨rfl, hb2⟩))
    have hb : Below w.heap.size w w2 := hB.trans (hb2.mono (by simp [World.size_alloc]))
    refine bodyPost_ret (v := .tuple #[.slice none 0 0, .int .i64 6]) (by simp [results, Tryz.results21, go_sem]) rfl ⟨none, 0, ?_, ?_, ?_, hb⟩ <;> rw [E2.out]
    · rfl
    · exact Sl.nil _ _ _
    · exact Own.nil _ _ _
  · have E2 := Lib.hid (show Na.sub l m = (Na.limbs (Na.val l - Na.val m), 0) by rw [Na.sub, hbig, if_neg (by simp), if_neg hcmp])
    have hc0 : ∃ r : Int, r = Na.cmp l m ∧ decide (r < 0) = false := ⟨_, rfl, decide_eq_false (by rw [Na.cmp, if_neg hcmp]; split <;> omega)⟩
    obtain ⟨r0, hr0, hr1⟩ := hc0
    rw [← hr0] at HC
    have HGE := Lib.hid hcmp
    obtain ⟨hl1, hl2⟩ := Na.not_big hbig
    have hle : (Na.cut m).length ≤ (Na.cut l).length := Nat.le_of_not_lt fun hlt => hcmp (Na.lt_of_rt h.ok h'.ok hlt)
    have S1 := h.cut
    have S2 := h'.cut
    have V1 := Lib.hid (Na.val_cut (a := l))
    have V2 := Lib.hid (Na.val_cut (a := m))
    obtain ⟨q, hq⟩ : ∃ q, q = Na.cut l := ⟨_, rfl⟩
    obtain ⟨r, hr⟩ : ∃ r, r = Na.cut m := ⟨_, rfl⟩
    rw [← hq] at H2 hl1 S1 V1 hle
    rw [← hr] at H3 hl2 S2 V2 hle
    clear hq hr hbig hcmp hr0
    obtain ⟨n, hqn⟩ : ∃ n, q.length = n := ⟨_, rfl⟩
    obtain ⟨k', hrk⟩ : ∃ k, r.length = k := ⟨_, rfl⟩
    rw [hqn] at H2 hl1 hle
    rw [hrk] at H3 hl2 hle
    have HQ := Lib.hid hqn; have HR := Lib.hid hrk
    clear hqn hrk
    obtain ⟨ti, hi, hz0, hz1, hz2⟩ := info_parts infoU32
    go_enter Tryz.func21, Tryz.ntmps21
    go_wp2_with (first | (go_at_call 40; (with_reducible refine (H1.out).mono ?_); rintro e w' ⟨rfl, rfl⟩) | (go_at_call 17; (with_reducible refine (HC.out).mono ?_); rintro e w2 ⟨rfl, hb2⟩; have hB2 : Below w.heap.size w w2 := hB.trans (hb2.mono (by simp [World.size_alloc]))) | (go_at_call 38; (with_reducible refine (H2.out _ hB2).mono ?_); rintro e w' ⟨rfl, rfl⟩) | (go_at_call 38; (with_reducible refine (H3.out _ hB2).mono ?_); rintro e w' ⟨rfl, rfl⟩) | (at_make; refine wpList_make_full _ rfl _ _ 26 rfl w.heap.size 63 ti (.int .u32 0) 1 Tryz.underlying26 hi hz0 hz1 .i64 .i64 _ _ n rfl rfl rfl rfl (by rw [hz2]; omega) (by unfold maxLen; omega) hB2.size ?_))
    intro w3 hown hgrow
    have hB3 : Below w.heap.size w w3 := hB2.grown hgrow hB2.size (fun k e => by cases e)
    have hK := Lib.hid (Blk.made hown)
    have hHB := Lib.hid hB3
    have hg := hB2.size
    obtain ⟨g, hgg⟩ : ∃ g, g = w2.heap.size := ⟨_, rfl⟩
    rw [← hgg] at hK hg ⊢
    clear hown hgrow hz2 hz1 hz0 hi ti hB hB2 hB3 hb2 hgg H1 HC hr1
    go_wp2_with fail
    go_loopw [7, 29] (subLoop n g q r w) (fun _ i _ => n - (intOf i).toNat)
    case atStart => exact ⟨0, 0, _, Nat.zero_le _, rfl, rfl, by omega, hK, Lib.hid (by simp), Lib.hid (by intro x hx; cases hx), Lib.hid (by simp [Na.val]), hHB⟩
    case round =>
      obtain ⟨k, cc, o, hk, rfl, rfl, hcc, HBl, HOl, HOk, HInv, HBe⟩ := hrel
      by_cases hlt2 : k < n
      · have hq1 : k < q.length := by have := HQ.out; omega
        obtain ⟨b1, o1, rfl, hb1, hc1⟩ := (S1.on HBe.out).plain (by omega)
        have c1 := hc1 k hq1
        have hx := S1.lt k hq1
        have VP := Lib.hid (Na.val_take_succ q k hq1)
        obtain ⟨x, hxe⟩ : ∃ x, q[k]'hq1 = x := ⟨_, rfl⟩
        rw [hxe] at c1 hx VP
        clear hc1 hxe
        have ho1 : k < o.length := by have := HOl.out; omega
        have co := HBl.out.cell k ho1
        have fo := HBl.out.frozen k
        by_cases hy : k < k'
        · have hr1 : k < r.length := by have := HR.out; omega
          obtain ⟨b2, o2, rfl, hb2, hc2⟩ := (S2.on HBe.out).plain (by omega)
          have c2 := hc2 k hr1
          have hyl := S2.lt k hr1
          have VQ := Lib.hid (Na.val_take_succ r k hr1)
          obtain ⟨y, hye⟩ : ∃ x, r[k]'hr1 = x := ⟨_, rfl⟩
          rw [hye] at c2 hyl VQ
          clear hc2 hye
          have HA32 := Lib.hid (sub32_any x y cc hx hyl hcc wr)
          have HE := Lib.hid (show (x + 4294967296 - y - cc) % 4294967296 + y + cc = x + 4294967296 * (if x < y + cc then 1 else 0) by split <;> omega)
          have hcc2 : (if x < y + cc then 1 else 0) ≤ 1 := by split <;> omega
          have HO2 := Lib.hid (Na.ok_set_take o k ((x + 4294967296 - y - cc) % 4294967296) ho1 HOk.out (by omega))
          obtain ⟨v, hv⟩ : ∃ v, v = (x + 4294967296 - y - cc) % 4294967296 := ⟨_, rfl⟩
          obtain ⟨cn, hcn⟩ : ∃ v, v = if x < y + cc then 1 else 0 := ⟨_, rfl⟩
          rw [← hv] at HO2
          rw [← hv, ← hcn] at HE HA32
          rw [← hcn] at hcc2
          clear hv hcn
          have HS := Lib.hid (Na.sub_step o q r k x y cc v cn ho1 HInv.out VP.out VQ.out HE.out)
          clear HE
          go_wp2_with (first | (go_at_call 46; (with_reducible refine (HA32.out).mono ?_); rintro e w' ⟨rfl, rfl⟩))
          go_roundw
          case rel => exact ⟨k + 1, cn, o.set k v, by omega, by go_num, rfl, hcc2, Lib.hid (HBl.out.set k v), Lib.hid (by rw [List.length_set]; exact HOl.out), HO2, HS, Lib.hid (by have hbe := HBe.out; (repeat (first | exact Below.refl _ _ | assumption | refine Below.setCell ?_ (by first | omega | (simp <;> omega)) _ | refine Below.alloc ?_ (by first | omega | (simp <;> omega)) _ | refine Below.drew ?_ | refine below_drewN' ?_ _)))⟩
          case measure => simp [intOf]; omega
        · have VQ := Lib.hid (Na.take_more r k (by have := HR.out; omega))
          have HA32 := Lib.hid (show Calls Tryz.prog 46 #[.int .u32 x, .int .u32 0, .int .u32 cc] wr _ from sub32_any x 0 cc hx (by omega) hcc wr)
          have HE := Lib.hid (show (x + 4294967296 - 0 - cc) % 4294967296 + 0 + cc = x + 4294967296 * (if x < 0 + cc then 1 else 0) by split <;> omega)
          have hcc2 : (if x < 0 + cc then 1 else 0) ≤ 1 := by split <;> omega
          have HO2 := Lib.hid (Na.ok_set_take o k ((x + 4294967296 - 0 - cc) % 4294967296) ho1 HOk.out (by omega))
          obtain ⟨v, hv⟩ : ∃ v, v = (x + 4294967296 - 0 - cc) % 4294967296 := ⟨_, rfl⟩
          obtain ⟨cn, hcn⟩ : ∃ v, v = if x < 0 + cc then 1 else 0 := ⟨_, rfl⟩
          rw [← hv] at HO2
          rw [← hv, ← hcn] at HE HA32
          rw [← hcn] at hcc2
          clear hv hcn
          have HS := Lib.hid (Na.sub_step o q r k x 0 cc v cn ho1 HInv.out VP.out VQ.out HE.out)
          clear HE
          go_wp2_with (first | (go_at_call 46; (with_reducible refine (HA32.out).mono ?_); rintro e w' ⟨rfl, rfl⟩))
          go_roundw
          case rel => exact ⟨k + 1, cn, o.set k v, by omega, by go_num, rfl, hcc2, Lib.hid (HBl.out.set k v), Lib.hid (by rw [List.length_set]; exact HOl.out), HO2, HS, Lib.hid (by have hbe := HBe.out; (repeat (first | exact Below.refl _ _ | assumption | refine Below.setCell ?_ (by first | omega | (simp <;> omega)) _ | refine Below.alloc ?_ (by first | omega | (simp <;> omega)) _ | refine Below.drew ?_ | refine below_drewN' ?_ _)))⟩
          case measure => simp [intOf]; omega
      · obtain rfl : k = n := by omega
        have hok : Na.OK o := by have := HOk.out; rwa [List.take_of_length_le (by rw [HOl.out]; exact Nat.le_refl _)] at this
        have hval : Na.val o = Na.val l - Na.val m := by
          have e1 := HInv.out
          have e3 := Na.val_lt o hok
          rw [HOl.out] at e3
          rw [List.take_of_length_le (l := o) (by rw [HOl.out]; exact Nat.le_refl _), List.take_of_length_le (l := q) (by rw [HQ.out]; exact Nat.le_refl _), List.take_of_length_le (l := r) (by have := HR.out; omega), V1.out, V2.out] at e1
          have hge := HGE.out
          rcases (show cc = 0 ∨ cc = 1 by omega) with rfl | rfl
          · omega
          · omega
        have hcut : Na.cut o = Na.limbs (Na.val l - Na.val m) := by rw [Na.cut, hval]
        have HF := na_cut_any (some ⟨g, 0, none⟩) k o wr (HBl.out.sl hok (by rw [HOl.out]; exact Nat.le_refl _)) (by rw [HOl.out]; omega)
        have HSl : Sl wr (some ⟨g, 0, none⟩) k (Na.cut o) := (HBl.out.sl hok (by rw [HOl.out]; exact Nat.le_refl _)).cut
        rw [HOl.out, hcut] at HF
        rw [hcut] at HSl
        have HF' := Lib.hid HF
        clear hval hcut HF
        go_wp2_with (first | (go_at_call 38; (with_reducible refine (HF'.out).mono ?_); rintro e w' ⟨rfl, rfl⟩))
        refine bodyPost_ret (v := .tuple #[.slice (some ⟨g, 0, none⟩) (Na.limbs (Na.val l - Na.val m)).length k, .int .i64 0]) (by simp [results, Tryz.results21, go_sem]) rfl ⟨some ⟨g, 0, none⟩, k, ?_, ?_, HBl.out.own (by omega), HBe.out⟩ <;> rw [E2.out]
        exact HSl

theorem na_sub_any (a : Option Addr) (c : Nat) (l : List Nat) (b : Option Addr) (d : Nat) (m : List Nat) (w : World) (h : Sl w a c l) (h' : Sl w b d m) (hn : l.length ≤ 1000000) (hm : m.length ≤ 1000000) :
    Calls Tryz.prog 21 #[.slice a l.length c, .slice b m.length d] w (GivesE (Na.sub l m) w) := by
  cases e : (Na.big l || Na.big m) with
  | true => exact na_sub_big a c l b d m w h h' hn hm e
  | false => exact na_sub_ok a c l b d m w h h' hn hm e
end Go.Proofs.YtcdndcbfmlnpjaaGreatDoor
