/- The reference: Digits. -/
import Derived.Test.YtcdndcbfmlnpjaaGreatDoorZ13
import Derived.Maps.AppendAt
import Derived.Deep.RegionWith
import Derived.Test.YtcdndcbfmlnpjaaGreatDoorZ12
import Derived.Test.YtcdndcbfmlnpjaaGreatDoorZ1
namespace Go.Proofs.YtcdndcbfmlnpjaaGreatDoor
set_option linter.all false
open Go.RowKit

theorem Row.set {w : World} {B g n c : Nat} {l : List Nat} (h : Row w B (.slice (some ⟨g, 0, none⟩) n c) l) (hn : n = l.length) (j x : Nat) :
    Row (w.setCell ⟨g, j, none⟩ (.int .u32 (x : Int))) B (.slice (some ⟨g, 0, none⟩) n c) (l.set j x) ∧ w.grownBy (w.setCell ⟨g, j, none⟩ (.int .u32 (x : Int))) (some g) := by
  subst hn
  obtain ⟨h1, h2⟩ := World.ownsRow.stored h j (.int .u32 (x : Int))
  refine ⟨?_, h2⟩
  show (w.setCell _ _).ownsRow _ _ _ _ _ _
  rw [List.length_set, u32s, List.map_set]
  exact h1
theorem RowB.kept {w w' : World} {B : Nat} {v : Value} {l : List UInt8} {row : Option Nat} (h : RowB w B v l) (hg : w.grownBy w' row) (hne : v.ownBlock = none ∨ v.ownBlock ≠ row) : RowB w' B v l := ⟨h.1, World.ownsRow.kept h.2 hg hne⟩
theorem Row.kept {w w' : World} {B : Nat} {v : Value} {l : List Nat} {row : Option Nat} (h : Row w B v l) (hg : w.grownBy w' row) (hne : v.ownBlock = none ∨ v.ownBlock ≠ row) : Row w' B v l := World.ownsRow.kept h hg hne
theorem RowB.on {w w' : World} {B : Nat} {v : Value} {l : List UInt8} (h : RowB w B v l) (hb : Below w.heap.size w w') : RowB w' B v l :=
  h.kept (row := none) ⟨hb.os, hb.tape, hb.output, hb.size, fun k hk _ => hb.block k hk⟩ (by cases v.ownBlock <;> simp)
theorem RowB.lt' {w : World} {B : Nat} {v : Value} {l : List UInt8} (h : RowB w B v l) : ∀ k, v.ownBlock = Option.some k → B ≤ k ∧ k < w.heap.size := World.ownsRow.lt h.2
/-- Two rows do not meet. -/
def Far (x l : Value) : Prop := ∀ k, l.ownBlock = some k → x.ownBlock ≠ some k
theorem Far.ne {l : Value} {g n c : Nat} (h : Far (.slice (some ⟨g, 0, none⟩) n c) l) : l.ownBlock = none ∨ l.ownBlock ≠ some g := by
  cases e : l.ownBlock with
  | none => exact Or.inl rfl
  | some k => exact Or.inr (fun e2 => h k e e2.symm)
theorem Row.far {w0 w : World} {B : Nat} {x l : Value} {m : List Nat} {lb : List UInt8} (hl : RowB w0 B l lb) (hx : Row w w0.heap.size x m) : Far x l := by
  intro k hk e
  have h1 := hl.lt' k hk
  have h2 := hx.lt k e
  omega

theorem Na.dec_low {N v r u : Nat} {lb : List UInt8} (hv : v ≠ 0) (inv : Lib.decDigits N = Lib.decDigits v ++ lb.reverse) (hr : r = v % 10) (hu : u = v / 10) :
    if u = 0 then (lb ++ [UInt8.ofNat (48 + r)]).reverse = Lib.decDigits N else Lib.decDigits N = Lib.decDigits u ++ (lb ++ [UInt8.ofNat (48 + r)]).reverse := by
  rw [List.reverse_append, inv]
  by_cases h : u = 0
  · rw [if_pos h, Lib.decDigits, dif_pos (by omega), hr, Nat.mod_eq_of_lt (by omega)]; rfl
  · rw [if_neg h, Lib.decDigits, dif_neg (by omega), hu, hr, List.append_assoc]; rfl

theorem Na.dec_pos (n : Nat) : 0 < (Lib.decDigits n).length := by rw [Lib.decDigits]; split <;> simp
def numLen : Value → Nat
  | .slice _ n _ => n
  | _ => 0
def rdigLoop (N : Nat) (w : World) (xv lv : Value) (wr : World) : Prop := ∃ (v : Nat) (a : Option Addr) (c : Nat) (lb : List UInt8), xv = .slice a (Na.limbs v).length c ∧ (Na.limbs v).length ≤ 100000 ∧ Hid (Row wr w.heap.size xv (Na.limbs v)) ∧ Hid (RowB wr w.heap.size lv lb) ∧ Hid (Far xv lv) ∧
  Hid (if v = 0 then lb.reverse = Lib.decDigits N else Lib.decDigits N = Lib.decDigits v ++ lb.reverse) ∧ Hid (Below w.heap.size w wr)
def rdivLoop (V B g n c : Nat) (lv : Value) (lb : List UInt8) (w : World) (rv iv : Value) (wr : World) : Prop := ∃ (k r : Nat) (o : List Nat), k ≤ n ∧ iv = .int .i64 ((k : Int) - 1) ∧ rv = .int .u64 r ∧ r < 10 ∧ Hid (Row wr B (.slice (some ⟨g, 0, none⟩) n c) o) ∧ Hid (o.length = n) ∧ Hid (Na.OK o) ∧
  Hid (V + 10 * Na.val (o.take k) = Na.val (o.take k) + Na.B ^ k * r + 10 * Na.val (o.take n)) ∧ Hid (RowB wr B lv lb) ∧ Hid (Below B w wr)
def rrevLoop (L B : Nat) (lb : List UInt8) (w : World) (ov iv : Value) (wr : World) : Prop := ∃ (k : Nat), k ≤ L ∧ iv = .int .i64 ((k : Int) - 1) ∧ Hid (RowB wr B ov (lb.drop k).reverse) ∧ Hid (Below B w wr)

set_option maxHeartbeats 1000000 in
theorem r1_digits_zero (a : Option Addr) (c : Nat) (l : List Nat) (w : World) (h : Sl w a c l) (hz : a = none → c = 0) (hn : l.length ≤ 100000) (h0 : Na.val l = 0) :
    Calls Tryz.prog 36 #[.slice a l.length c] w (RetB (.string ⟨(Lib.decDigits (Na.val l)).toArray⟩) w) := by
  have h1 := r1_trim_any a c l w h hz (by omega)
  rw [(Na.cut_nil_iff l).2 h0] at h1
  have H1 := Lib.hid (show Calls Tryz.prog 10 #[.slice a l.length c] w (GivesZ [] w) from h1)
  have e2 := Lib.hid (show (⟨(Lib.decDigits (Na.val l)).toArray⟩ : ByteArray) = ⟨#[48]⟩ by rw [h0, Lib.decDigits, dif_pos (by decide)]; rfl)
  clear h1 h0
  go_enter Tryz.func36, Tryz.ntmps36
  go_wp2_with (first | (go_at_call 10; (with_reducible refine (H1.out).mono ?_); rintro e w1 ⟨a1, c1, rfl, -, -, -, hb⟩))
  go_ret
  exact RetB.of (by rw [e2.out]; rfl) hb

theorem RowB.cell {w : World} {B g n c : Nat} {lb : List UInt8} (h : RowB w B (.slice (Option.some ⟨g, 0, none⟩) n c) lb) (j : Nat) (hj : j < lb.length) : w.cell? ⟨g, j, none⟩ = Option.some (.int .u8 (lb[j].toNat : Int)) := by
  obtain ⟨⟨a', cap', e⟩, h2⟩ := h
  cases e
  rw [World.ownsRow.cellAt h2 j (by omega), List.getElem?_map, List.getElem?_eq_getElem hj]; rfl
theorem Row.at' {w : World} {B n c : Nat} {a : Option Addr} {l : List Nat} (h : Row w B (.slice a n c) l) (h0 : 0 < n) : ∃ g, a = some ⟨g, 0, none⟩ ∧ B ≤ g := by
  rcases h.2 with ⟨e, e2⟩ | ⟨g, cap, cur, e, hb, _⟩
  · cases e; omega
  · cases e; exact ⟨g, rfl, hb⟩
theorem Far.ne2 {x l : Value} (h : Far x l) : x.ownBlock = none ∨ x.ownBlock ≠ l.ownBlock := by
  cases hx : x.ownBlock with
  | none => exact Or.inl rfl
  | some k => exact Or.inr (fun e => h k e.symm hx)

theorem app_u8 {w : World} {ops : Array Oper} {rest : List Oper} {o : Oper} {act : Act} {Q : Exit → Act → World → Prop} (hgd : o.guard = none) (s x : Operand)
    (hop : o.op = .call { callee := .builtin .append, args := #[s, x], argTypes := #[88, 88] }) (B : Nat) (v : Value) (l : List UInt8) (hs : act.eval s = v) (hown : RowB w B v l) (ad : Addr) (y : UInt8) (z : Int) (hy : z = (y.toNat : Int)) (hx : act.eval x = .slice (some ad) 1 1)
    (hc : ∀ j u, [Value.int .u8 z][j]? = some u → w.cell? (ad.add j) = some u) (hlen : l.length ≤ 1000000000) (hB : B ≤ w.heap.size)
    (hK : ∀ v' w', Hid (RowB w' B v' (l ++ [y])) → Hid (w.grownBy w' v.ownBlock) → Hid (∀ B' w0, Below B' w0 w → B' ≤ B → Below B' w0 w') → wpList Tryz.prog ops Q rest (act.put o.dst v') w') : wpList Tryz.prog ops Q (o :: rest) act w := by
  obtain ⟨i0, hi, hz0, hz1, hz2⟩ := info_parts Tryz.infoU8
  refine wpList_append_own w hgd s x _ hop B 5 i0 (.int .u8 0) 1 1 Tryz.underlying88 hi hz0 hz1 hz2 rfl (by decide) v l.length _ hs hown.2 ad 1 1 [.int .u8 z] hx rfl hc (by simp [Value.oneCell']) (by unfold maxLen; omega) (by omega) hB ?_
  intro v' w' h1 h2 _
  refine hK v' w' (Lib.hid (RowB.of h1 (by simp) (by simp [hy]))) (Lib.hid h2) (Lib.hid fun B' w0 hb hB' => hb.grown h2 (by omega) (fun k e => by have := (hown.lt' k e).1; omega))

theorem dec_byte {r : Nat} (h : r < 10) : (48 : Int) + (r : Int) = ((UInt8.ofNat (48 + r)).toNat : Int) := by
  rw [UInt8.toNat_ofNat_of_lt' (by show 48 + r < 256; omega)]; omega
theorem drop_rev (l : List UInt8) (j : Nat) (h : j < l.length) : (l.drop (j + 1)).reverse ++ [l[j]] = (l.drop j).reverse := by
  rw [List.drop_eq_getElem_cons h, List.reverse_cons]

set_option maxRecDepth 100000 in
set_option maxHeartbeats 4000000 in
theorem r1_digits_pos (a : Option Addr) (c : Nat) (l : List Nat) (w : World) (h : Sl w a c l) (hz : a = none → c = 0) (hn : l.length ≤ 50000) (h0 : Na.val l ≠ 0) :
    Calls Tryz.prog 36 #[.slice a l.length c] w (RetB (.string ⟨(Lib.decDigits (Na.val l)).toArray⟩) w) := by
  have h1 := r1_trim_any a c l w h hz (by omega)
  have hdl := dec_len_le l h.ok
  have hlen : (Na.cut l).length ≤ 50000 := Nat.le_trans (Na.rt_le h.ok).1 hn
  have hpos : 0 < (Na.cut l).length := by
    rcases Nat.eq_zero_or_pos (Na.cut l).length with e | e
    · exact absurd ((Na.cut_nil_iff l).1 (List.eq_nil_of_length_eq_zero e)) h0
    · exact e
  obtain ⟨N, hN⟩ : ∃ N, N = Na.val l := ⟨_, rfl⟩
  have hcut : Na.cut l = Na.limbs N := by rw [hN]; rfl
  rw [hcut] at h1 hlen hpos
  rw [← hN] at hdl h0 ⊢
  obtain ⟨L, hL⟩ : ∃ L, L = (Lib.decDigits N).length := ⟨_, rfl⟩
  rw [← hL] at hdl
  have hL2 : L ≤ 600000 := by omega
  obtain ⟨R, hR⟩ : ∃ R : ByteArray, R = ⟨(Lib.decDigits N).toArray⟩ := ⟨_, rfl⟩
  rw [← hR]
  have H1 := Lib.hid h1; have HR := Lib.hid hR; have HL := Lib.hid hL; have H0 := Lib.hid h0
  have hz0 : (((Na.limbs N).length : Int) == 0) = false := by simp only [beq_eq_false_iff_ne, ne_eq]; omega
  clear h1 hR hL h0 hN hcut hdl hz h
  go_enter Tryz.func36, Tryz.ntmps36
  go_wp2_with (first | (go_at_call 10; (with_reducible refine (H1.out).mono ?_); rintro e w1 ⟨a1, c1, rfl, s1, z1, r1, hb⟩))
  have HAt := Lib.hid (show rdigLoop N w (.slice a1 (Na.limbs N).length c1) (.slice none 0 0) w1 from ⟨N, a1, c1, [], rfl, by omega, Lib.hid r1, Lib.hid (RowB.nil _ _), Lib.hid (fun k e => by cases e), Lib.hid (by rw [if_neg H0.out]; simp), Lib.hid hb⟩)
  clear s1 z1 r1 hb hz0 hlen hpos H1 H0
  go_loopw [3, 4] (rdigLoop N w) (fun _ lv _ => L + 1 - numLen lv)
  case atStart => exact HAt.out
  case round =>
    clear HAt
    obtain ⟨v, a, c, lb, rfl, hlen, HX, HLb, HFar, HInv, HBe⟩ := hrel
    have hsz := HBe.out.size
    by_cases hv : v = 0
    · subst hv
      have e0 := Lib.hid (show (Na.limbs 0).length = 0 by rw [Na.limbs_zero]; rfl)
      rw [e0.out]
      have hrv := HInv.out
      rw [if_pos rfl] at hrv
      have hll : lb.length = L := by rw [HL.out, ← hrv, List.length_reverse]
      obtain ⟨al, cl, hlv⟩ := HLb.out.shape
      rw [hll] at hlv
      subst hlv
      have HRv := Lib.hid hrv
      have HLL := Lib.hid hll
      have HAt := Lib.hid (show rrevLoop L wr.heap.size lb wr (.slice none 0 0) (.int .i64 ((L : Int) - 1)) wr from ⟨L, Nat.le_refl _, rfl, Lib.hid (by rw [List.drop_of_length_le (by rw [HLL.out]; exact Nat.le_refl _)]; exact RowB.nil _ _), Lib.hid (Below.refl _ _)⟩)
      clear hrv HInv hll
      obtain ⟨wo, rfl⟩ : ∃ wo : World, wo = wr := ⟨_, rfl⟩
      go_wp2_with fail
      go_loopw [8, 9] (rrevLoop L wo.heap.size lb wo) (fun _ i _ => (intOf i + 1).toNat)
      case atStart => exact HAt.out
      case round =>
        clear HAt
        obtain ⟨k, hk, rfl, HOb, HBo⟩ := hrel
        cases k with
        | zero =>
          have hrow := HOb.out
          rw [List.drop_zero, HRv.out] at hrow
          obtain ⟨av, cv, rfl⟩ := hrow.shape
          have hstr : (convert 88 9 (.slice av (Lib.decDigits N).length cv)).run Tryz.prog wr = .ok (.string R) wr := by
            rw [HR.out]; exact hrow.string (Na.dec_pos N)
          have hB := HBe.out.trans (HBo.out.mono hsz)
          clear hrow
          go_wp2
          go_ret
          exact RetB.of rfl hB
        | succ j =>
          have hji : (((j + 1 : Nat) : Int) - 1) = (j : Int) := by omega
          rw [hji]
          have hjl : j < lb.length := by rw [HLL.out]; omega
          obtain ⟨gl, cl', e, hgl, hgl2⟩ := HLb.out.some (by omega)
          simp only [Value.slice.injEq] at e
          obtain ⟨rfl, -, rfl⟩ := e
          have hcell := RowB.cell (HLb.out.on HBo.out) j hjl
          have HDR := Lib.hid (drop_rev lb j hjl)
          obtain ⟨y, hy⟩ : ∃ y, lb[j]'hjl = y := ⟨_, rfl⟩
          rw [hy] at hcell HDR
          have hobl : (lb.drop (j + 1)).reverse.length ≤ 1000000000 := by rw [List.length_reverse, List.length_drop, HLL.out]; omega
          have hyl : (y.toNat : Int) < 256 := by have := y.toNat_lt; omega
          clear hy
          go_wp2_with (first | (at_builtin; refine app_u8 rfl _ _ rfl wo.heap.size u8 _ rfl ⟨HOb.out.1, HOb.out.2.alloc _⟩ ⟨wr.heap.size, 0, none⟩ y _ rfl rfl (cell_one_new _ _ _) hobl (by have := HBo.out.size; simp; omega) ?_; intro v2 w2 hr2 hg2 hgb2))
          have hB2 := hgb2.out _ _ (HBo.out.alloc HBo.out.size _) (Nat.le_refl _)
          go_wp2_with fail
          go_roundw
          case rel => exact ⟨j, by omega, rfl, Lib.hid (by rw [← HDR.out]; exact hr2.out), Lib.hid hB2⟩
          case measure => simp [intOf]
    · have hpos : 0 < (Na.limbs v).length := by
        rcases Nat.eq_zero_or_pos (Na.limbs v).length with e | e
        · exact absurd (Na.limbs_nil.1 (List.eq_nil_of_length_eq_zero e)) hv
        · exact e
      have hinv := HInv.out
      rw [if_neg hv] at hinv
      have hS := congrArg List.length hinv
      rw [List.length_append, List.length_reverse, ← HL.out] at hS
      have hdp := Na.dec_pos v
      have hlbL : lb.length < L := by omega
      obtain ⟨g, rfl, hg⟩ := HX.out.at' hpos
      obtain ⟨al, cl, rfl⟩ := HLb.out.shape
      obtain ⟨n, hne⟩ : ∃ n, (Na.limbs v).length = n := ⟨_, rfl⟩
      have HNE := Lib.hid hne
      have HV := Lib.hid hv
      have HIN := Lib.hid hinv
      rw [hne] at HX hlen hpos HFar ⊢
      have HAt := Lib.hid (show rdivLoop v w.heap.size g n c (.slice al lb.length cl) lb wr (.int .u64 0) (.int .i64 ((n : Int) - 1)) wr from ⟨n, 0, Na.limbs v, Nat.le_refl _, rfl, rfl, by decide, HX, Lib.hid hne, Lib.hid (Na.ok_limbs v), Lib.hid (by rw [List.take_of_length_le (by omega), Na.val_limbs]; simp), HLb, Lib.hid (Below.refl _ _)⟩)
      clear hinv hS hdp hne hv HInv
      obtain ⟨wo, rfl⟩ : ∃ wo : World, wo = wr := ⟨_, rfl⟩
      go_wp2_with fail
      go_loopw [5, 6] (rdivLoop v w.heap.size g n c (.slice al lb.length cl) lb wo) (fun _ i _ => (intOf i + 1).toNat)
      case atStart => exact HAt.out
      case round =>
        clear HAt HX HLb
        obtain ⟨k, r, o, hk, rfl, rfl, hr, HX, HOl, HOk, HIv, HLb, HBo⟩ := hrel
        have hg2 := HX.out.lt g rfl
        cases k with
        | zero =>
          have hend := Na.short_end v 10 (Na.val (o.take n)) r hr (by have := HIv.out; simpa [Na.val] using this)
          rw [List.take_of_length_le (by rw [HOl.out]; exact Nat.le_refl _)] at hend
          obtain ⟨u, hu⟩ : ∃ u, u = v / 10 := ⟨_, rfl⟩
          have HDL := Lib.hid (Na.dec_low HV.out HIN.out hend.2 hu)
          have hcutv : Na.cut o = Na.limbs u := by rw [Na.cut, hend.1, hu]
          have hul : (Na.limbs u).length ≤ 100000 := by rw [← hcutv]; have := (Na.rt_le HOk.out).1; rw [Na.rt] at this; rw [HOl.out] at this; omega
          have HTR := Lib.hid (fun w2 (hx : Row w2 w.heap.size (.slice (some ⟨g, 0, none⟩) n c) o) => (by
            obtain ⟨a', c', e, hs, hzz⟩ := hx.slz HOk.out
            simp only [Value.slice.injEq] at e
            obtain ⟨rfl, -, rfl⟩ := e
            have := r1_trim_any (some ⟨g, 0, none⟩) c o w2 hs hzz (by rw [HOl.out]; omega)
            rw [HOl.out, hcutv] at this; exact this : Calls Tryz.prog 10 #[.slice (some ⟨g, 0, none⟩) n c] w2 (GivesZ (Na.limbs u) w2)))
          have HDB := Lib.hid (dec_byte hr)
          have HFN := Lib.hid HFar.out.ne2
          have HB1 := Lib.hid (HBe.out.trans HBo.out)
          have hszr := HB1.out.size
          have hr10 : (48 : Int) + (r : Int) < 256 := by omega
          clear hend hcutv hu
          go_wp2_with (first | (at_builtin; refine app_u8 rfl _ _ rfl w.heap.size (.slice al lb.length cl) lb rfl ⟨HLb.out.1, HLb.out.2.alloc _⟩ ⟨wr.heap.size, 0, none⟩ (UInt8.ofNat (48 + r)) _ HDB.out rfl (cell_one_new _ _ _) (by omega) (by simp; omega) ?_; intro v2 w2 hr2 hgr2 hgb2; have hx2 := (HX.out.alloc _).kept hgr2.out HFN.out) | (go_at_call 10; (with_reducible refine (HTR.out _ hx2).mono ?_); rintro e w3 ⟨a3, c3, rfl, -, -, r3, hb3⟩))
          have hB2 : Below w.heap.size w w2 := hgb2.out _ _ (HB1.out.alloc hszr _) (Nat.le_refl _)
          have hB3 := hB2.trans (hb3.mono hB2.size)
          go_roundw
          case rel => exact ⟨u, a3, c3, lb ++ [UInt8.ofNat (48 + r)], rfl, hul, Lib.hid (r3.mono hB2.size), Lib.hid (hr2.out.on hb3), Lib.hid (Row.far hr2.out r3), HDL, Lib.hid hB3⟩
          case measure =>
            obtain ⟨a9, c9, e9⟩ := hr2.out.shape
            rw [e9]; simp [numLen]; omega
        | succ j =>
          have hji : (((j + 1 : Nat) : Int) - 1) = (j : Int) := by omega
          rw [hji]
          have hjo : j < o.length := by rw [HOl.out]; omega
          have hx' := HX.out
          have co : wr.cell? ⟨g, j, none⟩ = some (.int .u32 (o[j] : Int)) := by
            rw [World.ownsRow.cellAt (n := n) (cap := c) (by have := hx'; unfold Row at this; rw [HOl.out] at this; exact this) j (by omega), u32s_get o j hjo]
          have fo : wr.frozen? ⟨g, j, none⟩ = false := World.ownsRow.frozenAt (n := n) (cap := c) (by have := hx'; unfold Row at this; rw [HOl.out] at this; exact this) j
          have hzl : o[j] < 4294967296 := HOk.out _ (List.getElem_mem hjo)
          obtain ⟨z, hze⟩ : ∃ z, o[j]'hjo = z := ⟨_, rfl⟩
          rw [hze] at co hzl
          have HST := Lib.hid (Na.short_step v 10 o n j r z (by omega) hjo hze HIv.out)
          have hs1 := Na.short_lt r z 10 hr hzl
          have hs2 : (r * 4294967296 + z) % 10 < 10 := Nat.mod_lt _ (by decide)
          have hs3 : r * 4294967296 + z < 18446744073709551616 := by omega
          obtain ⟨s, hs⟩ : ∃ s, s = r * 4294967296 + z := ⟨_, rfl⟩
          rw [← hs] at HST hs1 hs2 hs3
          have hsi : (r : Int) * 4294967296 + (z : Int) = (s : Int) := by omega
          obtain ⟨y, hy⟩ : ∃ v, v = s / 10 := ⟨_, rfl⟩
          obtain ⟨r2, hr2⟩ : ∃ v, v = s % 10 := ⟨_, rfl⟩
          rw [← hy, ← hr2] at HST
          rw [← hy] at hs1
          rw [← hr2] at hs2
          have hvi : (s : Int) / 10 = (y : Int) := by omega
          have hri : (s : Int) % 10 = (r2 : Int) := by omega
          have HSET := Lib.hid (hx'.set (by rw [HOl.out]) j y)
          have HFN := Lib.hid HFar.out.ne
          clear hze hs hy hr2 hx'
          go_wp2_with fail
          go_roundw
          case rel => exact ⟨j, r2, o.set j y, by omega, rfl, by first | rfl | rw [hri], hs2, Lib.hid HSET.out.1, Lib.hid (by rw [List.length_set]; exact HOl.out), Lib.hid (Na.ok_set HOk.out _ _ hs1), HST, Lib.hid (HLb.out.kept HSET.out.2 HFN.out), Lib.hid (by have hbo := HBo.out; exact hbo.setCell hg2.1 _)⟩
          case measure => simp [intOf]

theorem r1_digits_any (a : Option Addr) (c : Nat) (l : List Nat) (w : World) (h : Sl w a c l) (hz : a = none → c = 0) (hn : l.length ≤ 50000) :
    Calls Tryz.prog 36 #[.slice a l.length c] w (RetB (.string ⟨(Lib.decDigits (Na.val l)).toArray⟩) w) := by
  by_cases h0 : Na.val l = 0
  · exact r1_digits_zero a c l w h hz (by omega) h0
  · exact r1_digits_pos a c l w h hz hn h0
end Go.Proofs.YtcdndcbfmlnpjaaGreatDoor

/- The reference: Parse. -/
namespace Go.Proofs.YtcdndcbfmlnpjaaGreatDoor
set_option linter.all false
open Go.RowKit

theorem isD_int (c : UInt8) : Na.isD c = (decide (48 ≤ (c.toNat : Int)) && decide ((c.toNat : Int) ≤ 57)) := by
  simp only [Na.isD]; congr 1 <;> apply decide_eq_decide.2 <;> omega

theorem Sl.drew {w : World} {a : Option Addr} {c : Nat} {l : List Nat} (h : Sl w a c l) : Sl w.drew a c l := h.on ((Below.refl _ _).drew)

theorem lit_ten (w : World) : Sl (w.alloc (Obj.cells #[Value.int IntKind.u32 10] 63)) (some ⟨w.heap.size, 0, none⟩) 1 [10] := lit_sl w 10 (by decide)

def rparLoop (s : ByteArray) (w : World) (xv iv : Value) (wr : World) : Prop := ∃ (k x : Nat) (a : Option Addr) (c : Nat), k ≤ s.size ∧ iv = .int .i64 k ∧ xv = .slice a (Na.limbs x).length c ∧ Hid (x = Na.num (s.data.toList.take k)) ∧ (Na.limbs x).length ≤ 256 ∧ Hid (Sl wr a c (Na.limbs x)) ∧ Hid (a = none → c = 0) ∧ Hid (Below w.heap.size w wr)

set_option maxRecDepth 100000 in
set_option maxHeartbeats 4000000 in
theorem r1_parse_any (s : ByteArray) (w : World) (hs : s.size ≤ 1000000) : Calls Tryz.prog 34 #[.string s] w (GvF (Na.parse s.data.toList) w) := by
  by_cases h0 : s.size = 0
  · have e0 : s.data.toList = [] := List.eq_nil_of_length_eq_zero (by rw [bs_length]; exact h0)
    have e := Lib.hid (gvf_nil 3 (show Na.parse s.data.toList = ([], 3) from if_pos (Or.inl e0)) (Below.refl w.heap.size w))
    have h1 : s.toList.isEmpty = true := isEmpty_of_zero h0
    have h2 : s.toList = [] := List.isEmpty_iff.1 h1
    clear e0 h0
    go_enter Tryz.func34, Tryz.ntmps34
    go_wp2
    refine bodyPost_ret (v := .tuple #[.slice none 0 0, .int .i64 3]) (by simp [results, Tryz.results34, go_sem]) rfl e.out
  · have h1 : s.toList.isEmpty = false := isEmpty_of_pos (by omega)
    have hne : s.data.toList ≠ [] := fun e => h0 (by have := congrArg List.length e; rwa [bs_length] at this)
    have HN := Lib.hid hne
    have hpos : 0 < s.size := by omega
    clear hne h0
    go_enter Tryz.func34, Tryz.ntmps34
    go_wp2_with fail
    go_loop [4] (fun i => ∃ k : Nat, k ≤ s.size ∧ i = .int .i64 k ∧ (s.data.toList.take k).all Na.isD = true) (fun i => s.size - (intOf i).toNat)
    case atStart => exact ⟨0, Nat.zero_le _, rfl, rfl⟩
    case round =>
      obtain ⟨k, hk, rfl, hall⟩ := hrel
      have HA := Lib.hid hall; clear hall
      by_cases hlt : k < s.size
      · have hsn := Lib.hid (all_take_snoc s k hlt Na.isD)
        have hdc := Lib.hid (all_drop_cons s k hlt Na.isD)
        have hno : Na.isD s[k] = false → GvF (Na.parse s.data.toList) w (.returned (.tuple #[.slice none 0 0, .int .i64 3])) w := fun h => gvf_nil 3 (if_pos (Or.inr (by
          rw [← List.take_append_drop k s.data.toList, List.all_append, hdc.out, h]; simp))) (Below.refl _ _)
        have HNO := Lib.hid hno; clear hno
        have hi := isD_int s[k]
        by_cases hlo : (s[k].toNat : Int) < 48
        · have hb : Na.isD s[k] = false := by rw [hi, decide_eq_false (by omega)]; rfl
          have hx := Lib.hid (HNO.out hb)
          clear hi hb
          go_wp2
          refine bodyPost_ret (v := .tuple #[.slice none 0 0, .int .i64 3]) (by simp [results, Tryz.results34, go_sem]) rfl hx.out
        · have hlo' : decide ((s[k].toNat : Int) < 48) = false := decide_eq_false hlo
          by_cases hhi : 57 < (s[k].toNat : Int)
          · have hb : Na.isD s[k] = false := by rw [hi, decide_eq_false (p := (s[k].toNat : Int) ≤ 57) (by omega)]; simp
            have hx := Lib.hid (HNO.out hb)
            clear hi hb
            go_wp2
            refine bodyPost_ret (v := .tuple #[.slice none 0 0, .int .i64 3]) (by simp [results, Tryz.results34, go_sem]) rfl hx.out
          · have hb := Lib.hid (show Na.isD s[k] = true by rw [hi, decide_eq_true (p := (s[k].toNat : Int) ≤ 57) (by omega), decide_eq_true (p := 48 ≤ (s[k].toNat : Int)) (by omega)]; rfl)
            clear hi
            go_wp2
            go_round
            case rel => exact ⟨k + 1, by omega, by go_num, by rw [hsn.out, HA.out, hb.out]; rfl⟩
            case measure => simp [intOf]; omega
      · have hd : s.data.toList.all Na.isD = true := by have := HA.out; rwa [List.take_of_length_le (by rw [bs_length]; omega)] at this
        have HD := Lib.hid hd
        have E2 := Lib.hid (show Na.parse s.data.toList = Na.fits (Na.num s.data.toList) from if_neg (by rw [hd]; rintro (e | e); exact HN.out e; cases e))
        clear hd HA
        go_wp2_with fail
        go_loopw [5, 6] (rparLoop s w) (fun _ i _ => s.size - (intOf i).toNat)
        case atStart => exact ⟨0, 0, none, 0, Nat.zero_le _, rfl, by rw [Na.limbs_zero]; rfl, Lib.hid rfl, by rw [Na.limbs_zero]; simp, Lib.hid (by rw [Na.limbs_zero]; exact Sl.nil _ _ _), Lib.hid (fun _ => rfl), Lib.hid (Below.refl _ _)⟩
        case round =>
          obtain ⟨k, x, a, c, hk, rfl, rfl, HX, hlen, HSl, HZ, HBe⟩ := hrel
          have hszw := HBe.out.size
          by_cases hlt : k < s.size
          · have hdig : Na.isD s[k] = true := List.all_eq_true.1 HD.out _ (List.mem_of_getElem? (bs_getElem? s k hlt))
            rw [isD_int, Bool.and_eq_true, decide_eq_true_eq, decide_eq_true_eq] at hdig
            obtain ⟨hd1, hd2⟩ := hdig
            obtain ⟨d, hd⟩ : ∃ d, d = s[k].toNat - 48 := ⟨_, rfl⟩
            have hdi : (s[k].toNat : Int) - 48 = (d : Int) := by omega
            have hd9 : d ≤ 9 := by omega
            have hw1 : IntKind.u8.wrap (d : Int) = (d : Int) := by rw [IntKind.wrap_u8]; omega
            have hw2 : IntKind.u32.wrap (d : Int) = (d : Int) := by rw [IntKind.wrap_u32]; omega
            have hdl : d < 4294967296 := by omega
            obtain ⟨y, hy⟩ : ∃ y, y = 10 * x + d := ⟨_, rfl⟩
            have HY := Lib.hid (show y = Na.num (s.data.toList.take (k + 1)) by rw [List.take_add_one, bs_getElem? s k hlt]; show y = Na.num (_ ++ [s[k]]); rw [Na.num_snoc, ← HX.out, hy, hd])
            have htm := fun wr a2 c2 (h1 : Sl wr a c (Na.limbs x)) (h2 : Sl wr a2 c2 [10]) => r1_times_any a c (Na.limbs x) a2 c2 [10] wr h1 h2 (by omega) (by simp)
            rw [Na.val_limbs, show Na.val [10] = 10 by simp [Na.val]] at htm
            have hlx : (Na.limbs (x * 10)).length ≤ 257 := by
              have h1 := Na.val_lt (Na.limbs x) (Na.ok_limbs _)
              rw [Na.val_limbs] at h1
              have h3 := Na.len_prod h1 (show 10 < Na.B ^ 1 by decide)
              omega
            have hpl := fun wr a1 c1 a2 c2 (h1 : Sl wr a1 c1 (Na.limbs (x * 10))) (h2 : Sl wr a2 c2 [d]) => r1_plus_any a1 c1 (Na.limbs (x * 10)) a2 c2 [d] wr h1 h2 (by omega) (by simp)
            rw [Na.val_limbs, show Na.val [d] = d by simp [Na.val], show x * 10 + d = y by omega] at hpl
            have hly : (Na.limbs y).length ≤ 600 := by
              have h1 := Na.val_lt (Na.limbs (x * 10)) (Na.ok_limbs _)
              rw [Na.val_limbs] at h1
              have h2 : (d : Nat) < Na.B ^ (Na.limbs (x * 10)).length ∨ x * 10 = 0 := by
                rcases Nat.eq_zero_or_pos (x * 10) with e | e
                · exact Or.inr e
                · left
                  refine Nat.lt_of_lt_of_le (show d < Na.B ^ 1 by rw [Nat.pow_one]; exact hdl) (Nat.pow_le_pow_right (by decide) ?_)
                  rcases Nat.eq_zero_or_pos (Na.limbs (x * 10)).length with e2 | e2
                  · have := Na.limbs_nil.1 (List.eq_nil_of_length_eq_zero e2); omega
                  · exact e2
              rcases h2 with h2 | h2
              · have h3 := Na.len_sum h1 h2
                rw [show x * 10 + d = y by omega] at h3
                omega
              · have := Na.limbs_len_le y 1 (by rw [Nat.pow_one]; show y < 4294967296; omega)
                omega
            have HTM := Lib.hid (show ∀ wr a2 c2, Sl wr a c (Na.limbs x) → Sl wr a2 c2 [10] → Calls Tryz.prog 48 #[.slice a (Na.limbs x).length c, .slice a2 1 c2] wr (GivesZ (Na.limbs (x * 10)) wr) from htm)
            have HPL := Lib.hid (show ∀ wr a1 c1 a2 c2, Sl wr a1 c1 (Na.limbs (x * 10)) → Sl wr a2 c2 [d] → Calls Tryz.prog 45 #[.slice a1 (Na.limbs (x * 10)).length c1, .slice a2 1 c2] wr (GivesZ (Na.limbs y) wr) from hpl)
            have hbigd : Na.big (Na.limbs y) = decide (256 < (Na.limbs y).length) := by rw [Na.big, Na.rt_limbs]
            have hbg := fun wr a c (s : Sl wr a c (Na.limbs y)) (z : a = none → c = 0) => r1_big_any a c _ wr s z (by omega)
            rw [hbigd] at hbg
            have hypre : y ≤ Na.num s.data.toList := by rw [HY.out]; exact Na.num_pre _ _
            clear htm hpl hlx hy hd hbigd
            go_upto_region 12 with (fail)
            go_cut [5] (fun xv w' => ∃ a c, xv = .slice a (Na.limbs y).length c ∧ Hid (Sl w' a c (Na.limbs y)) ∧ Hid (a = none → c = 0) ∧ Hid (Below w.heap.size w w'))
            case first =>
              clear hbg hypre
              go_region_with (first
                | (go_at_call 48; (with_reducible refine (HTM.out _ _ _ ?_ ?_).mono ?_); exact HSl.out.on (by (repeat (first | exact Below.refl _ _ | assumption | refine Below.setCell ?_ (by first | omega | (simp <;> omega)) _ | refine Below.alloc ?_ (by first | omega | (simp <;> omega)) _ | refine Below.drew ?_ | refine below_drewN' ?_ _))); (first | exact (lit_ten _).drew | (have h := (lit_ten (wr.alloc (Obj.cells #[Value.int IntKind.u32 (d : Int)] 63))).drew; rw [World.size_alloc] at h; exact h) | exact ((lit_ten _).on ((Below.refl _ _).alloc (Nat.le_refl _) _)).drew); rintro e w1 ⟨a1, c1, rfl, s1, z1, -, hb1⟩; have hB1 : Below w.heap.size w w1 := Below.trans (by have hbe := HBe.out; (repeat (first | exact Below.refl _ _ | assumption | refine Below.setCell ?_ (by first | omega | (simp <;> omega)) _ | refine Below.alloc ?_ (by first | omega | (simp <;> omega)) _ | refine Below.drew ?_ | refine below_drewN' ?_ _))) (hb1.mono (by (try simp only [size_drew', World.size_alloc]); omega)))
                | (go_at_call 45; (with_reducible refine (HPL.out _ _ _ _ _ ?_ ?_).mono ?_); (first | exact s1 | exact s1.on ((Below.refl _ _).alloc (Nat.le_refl _) _)); (first | exact lit_sl _ d hdl | (have h := ((lit_sl (wr.alloc (Obj.cells #[Value.int IntKind.u32 10] 63)) d hdl).drew).on hb1; rw [World.size_alloc] at h; exact h) | exact ((lit_sl _ d hdl).drew).on hb1 | exact (((lit_sl _ d hdl).on ((Below.refl _ _).alloc (Nat.le_refl _) _)).drew).on hb1); rintro e w2 ⟨a2, c2, rfl, s2, z2, -, hb2⟩; have hB2 : Below w.heap.size w w2 := Below.trans (by have hsz1 := hB1.size; (repeat (first | exact Below.refl _ _ | assumption | refine Below.setCell ?_ (by first | omega | (simp <;> omega)) _ | refine Below.alloc ?_ (by first | omega | (simp <;> omega)) _ | refine Below.drew ?_ | refine below_drewN' ?_ _))) (hb2.mono (by have := hB1.size; (try simp only [World.size_alloc]); omega))))
              all_goals (go_wp2; go_meet)
              all_goals exact ⟨a2, c2, rfl, Lib.hid s2, Lib.hid z2, Lib.hid hB2⟩
            case rest => as_aux_lemma =>
              obtain ⟨a2, c2, rfl, HS2, HZ2, HB2⟩ := hcut
              clear HTM HPL
              by_cases hov : 256 < (Na.limbs y).length
              · have HBG := Lib.hid (hbg _ _ _ HS2.out HZ2.out)
                rw [decide_eq_true hov] at HBG
                have EE := Lib.hid (show Na.parse s.data.toList = ([], 2) by rw [E2.out]; exact Na.fits_more (a := y) (if_pos hov) hypre)
                clear hbg hypre hov
                go_wp2_with (first | (go_at_call 43; (with_reducible refine (HBG.out).mono ?_); rintro e w3 ⟨rfl, hb3⟩))
                refine bodyPost_ret (v := .tuple #[.slice none 0 0, .int .i64 2]) (by simp [results, Tryz.results34, go_sem]) rfl (gvf_nil 2 EE.out (HB2.out.trans (hb3.mono HB2.out.size)))
              · have HBG := Lib.hid (hbg _ _ _ HS2.out HZ2.out)
                rw [decide_eq_false hov] at HBG
                have hov2 : (Na.limbs y).length ≤ 256 := by omega
                have HOV := Lib.hid hov2
                clear hbg hypre hov hov2 hly
                go_wp2_with (first | (go_at_call 43; (with_reducible refine (HBG.out).mono ?_); rintro e w3 ⟨rfl, hb3⟩))
                have hs3 := HS2.out.on hb3
                have hB3 := HB2.out.trans (hb3.mono HB2.out.size)
                go_roundw
                case rel => exact ⟨k + 1, y, a2, c2, by omega, by go_num, rfl, HY, HOV.out, Lib.hid hs3, HZ2, Lib.hid hB3⟩
                case measure => simp [intOf]; omega
          · obtain rfl : k = s.size := by omega
            have EE := Lib.hid (show Na.parse s.data.toList = (Na.limbs x, 0) by
              have hx : x = Na.num s.data.toList := by have := HX.out; rwa [List.take_of_length_le (by rw [bs_length]; exact Nat.le_refl _)] at this
              rw [E2.out, Na.fits, ← hx, if_neg (by omega)])
            go_wp2_with fail
            refine bodyPost_ret (v := .tuple #[.slice a (Na.limbs x).length c, .int .i64 0]) (by simp [results, Tryz.results34, go_sem]) rfl (by rw [EE.out]; exact ⟨a, c, rfl, HSl.out, HBe.out⟩)
end Go.Proofs.YtcdndcbfmlnpjaaGreatDoor

/- A number is written and read in digits as the chapter says. -/
namespace Go.Proofs.YtcdndcbfmlnpjaaGreatDoor
set_option linter.all false
open Go.RowKit

set_option maxRecDepth 100000 in
set_option maxHeartbeats 1000000 in
theorem l1_digits_out (a : Option Addr) (c m : Nat) (s : ByteArray) (w : World) (ht : Tab w) (hm : m ≤ 9223372036854775807) (hs : s.size ≤ 9223372036854775807) (h : 120 < m ∨ 3000 < s.size) :
    Calls Tryz.prog 6 #[.slice a m c, .string s] w (RetB (.bool true) w) := by
  have HS := Lib.hid (l1_shown_any w ht)
  by_cases h1 : 120 < m
  · clear h
    go_enter Tryz.func6, Tryz.ntmps6
    go_wp2_with (go_at_call 7; (with_reducible refine (HS.out).mono ?_); rintro e w1 ⟨rfl, hb_w1⟩; have hB_w1 : Below (w).heap.size (w) w1 := Below.trans (by (repeat (first | exact Below.refl _ _ | assumption | refine Below.setCell ?_ (by first | omega | (simp <;> omega)) _ | refine Below.alloc ?_ (by first | omega | (simp <;> omega)) _ | refine Below.drew ?_ | refine below_drewN' ?_ _))) (hb_w1.mono (by first | omega | (simp <;> omega))); obtain ⟨hc_w1, hf_w1⟩ := bcell hb_w1; have hz_w1 := hb_w1.size; (try simp only [size_drew', size_drewN', World.size_alloc, World.size_setCell] at hz_w1))
    go_ret
    exact RetB.of rfl hB_w1
  · have h2 : 3000 < s.size := by omega
    clear h
    go_enter Tryz.func6, Tryz.ntmps6
    go_wp2_with (go_at_call 7; (with_reducible refine (HS.out).mono ?_); rintro e w1 ⟨rfl, hb_w1⟩; have hB_w1 : Below (w).heap.size (w) w1 := Below.trans (by (repeat (first | exact Below.refl _ _ | assumption | refine Below.setCell ?_ (by first | omega | (simp <;> omega)) _ | refine Below.alloc ?_ (by first | omega | (simp <;> omega)) _ | refine Below.drew ?_ | refine below_drewN' ?_ _))) (hb_w1.mono (by first | omega | (simp <;> omega))); obtain ⟨hc_w1, hf_w1⟩ := bcell hb_w1; have hz_w1 := hb_w1.size; (try simp only [size_drew', size_drewN', World.size_alloc, World.size_setCell] at hz_w1))
    go_ret
    exact RetB.of rfl hB_w1

theorem Na.parse_len1 (l : List UInt8) : (Na.parse l).1.length ≤ 1000000 := by
  rw [Na.parse]; split
  · simp
  · exact Nat.le_trans (Na.fits_len _) (by decide)

set_option maxRecDepth 100000 in
set_option maxHeartbeats 4000000 in
theorem l1_digits_walk (a1 : Option Addr) (c1 : Nat) (L1 : List Nat) (s : ByteArray) (w : World) (ht : Tab w) (s1 : Sl w a1 c1 L1) (z1 : a1 = none → c1 = 0) (h1 : L1.length ≤ 120) (h2 : s.size ≤ 3000) :
    Calls Tryz.prog 6 #[.slice a1 L1.length c1, .string s] w (RetB (.bool true) w) := by
  have HS := Lib.hid (l1_shown_any w ht)
  have lx := Na.parse_len1 s.data.toList
  have hx := fun wr => (na_parse_any s wr (by omega)).mono fun _ _ hg => hg.f
  have hy := fun wr => r1_parse_any s wr (by omega)
  obtain ⟨⟨xl, xe⟩, hxx⟩ : ∃ x, x = Na.parse s.data.toList := ⟨_, rfl⟩
  rw [← hxx] at lx hx hy
  obtain ⟨R, hR⟩ : ∃ R : ByteArray, R = ⟨(Lib.decDigits (Na.val L1)).toArray⟩ := ⟨_, rfl⟩
  have HD := Lib.hid (fun wr (hs : Sl wr a1 c1 L1) (hb : Below w.heap.size w wr) => (by
    have := na_digits_any a1 c1 L1 wr hs (by omega) (ht.below hb)
    rw [← hR] at this; exact this : Calls Tryz.prog 35 #[.slice a1 L1.length c1] wr (RetB (.string R) wr)))
  have HE := Lib.hid (fun wr (hs : Sl wr a1 c1 L1) => (by
    have := r1_digits_any a1 c1 L1 wr hs z1 (by omega)
    rw [← hR] at this; exact this : Calls Tryz.prog 36 #[.slice a1 L1.length c1] wr (RetB (.string R) wr)))
  have HX := Lib.hid hx; have HY := Lib.hid hy
  have HS1 := Lib.hid (fun w a c b d => same_self (l := xl) lx w a c b d)
  clear hx hy hxx lx hR
  go_enter Tryz.func6, Tryz.ntmps6
  go_wp2_with (first
    | (go_at_call 7; (with_reducible refine (HS.out).mono ?_); rintro e w1 ⟨rfl, hb1⟩; have hB1 : Below w.heap.size w w1 := hb1; replace s1 := s1.on hb1)
    | (go_at_call 33; (with_reducible refine (HX.out _).mono ?_); rintro e w2 ⟨ad_x, ca_x, rfl, sx, hb2⟩; have hB2 : Below w.heap.size w w2 := hB1.trans (hb2.mono hB1.size); replace s1 := s1.on hb2)
    | (go_at_call 34; (with_reducible refine (HY.out _).mono ?_); rintro e w3 ⟨ad_y, ca_y, rfl, sy, hb3⟩; have hB3 : Below w.heap.size w w3 := hB2.trans (hb3.mono hB2.size); replace s1 := s1.on hb3; replace sx := sx.on hb3)
    | (go_at_call 8; (with_reducible refine (HS1.out _ _ _ _ _ sx sy).mono ?_); rintro e w4 ⟨rfl, hb4⟩; have hB4 : Below w.heap.size w w4 := hB3.trans (hb4.mono hB3.size); replace s1 := s1.on hb4; replace sx := sx.on hb4; replace sy := sy.on hb4)
    | (go_at_call 35; (with_reducible refine (HD.out _ s1 hB4).mono ?_); rintro e w5 ⟨rfl, hb5⟩; have hB5 : Below w.heap.size w w5 := hB4.trans (hb5.mono hB4.size); replace s1 := s1.on hb5)
    | (go_at_call 36; (with_reducible refine (HE.out _ s1).mono ?_); rintro e w6 ⟨rfl, hb6⟩; have hB6 : Below w.heap.size w w6 := hB5.trans (hb6.mono hB5.size); replace s1 := s1.on hb6))
  go_ret
  exact RetB.of rfl hB6

theorem l1_digits_any (a1 : Option Addr) (c1 : Nat) (L1 : List Nat) (s : ByteArray) (w : World) (ht : Tab w) (s1 : Sl w a1 c1 L1) (z1 : a1 = none → c1 = 0) (hn1 : L1.length ≤ 9223372036854775807) (hs : s.size ≤ 9223372036854775807) :
    Calls Tryz.prog 6 #[.slice a1 L1.length c1, .string s] w (RetB (.bool true) w) := by
  by_cases h : 120 < L1.length ∨ 3000 < s.size
  · exact l1_digits_out a1 c1 _ s w ht hn1 hs h
  · exact l1_digits_walk a1 c1 L1 s w ht s1 z1 (by omega) (by omega)
end Go.Proofs.YtcdndcbfmlnpjaaGreatDoor

/- What the cards of chapter 1 share, more: a slice, and that nil has no room. -/
namespace Go.Proofs.YtcdndcbfmlnpjaaGreatDoor
set_option linter.all false
open Go.ChangeShapes Go.WideShapes Go.ChangeAt Go.RowKit Go.WideMaps Go.WideElems Go.Joins
open Go.ChangeMaps (open_string shut_string)

set_option maxRecDepth 100000 in
theorem par_u32n {H : Type} {enc : TypeId × Value → H} {W : World} {r : Reach} {b0 : Nat} {v : Value} {d : DataW H} {p : List MemPlace} (hv : Value.okWide Tryz.prog W r b0 22 v) (h : DataW.Trod enc Tryz.prog W 0 (fun _ => true) true 22 v d p) :
    ∃ (a : Option Addr) (c : Nat) (l : List Nat), v = .slice a l.length c ∧ l.length ≤ 9223372036854775807 ∧ Sl W a c l ∧ (a = none → c = 0) := by
  obtain ⟨a0, len, cap, rfl⟩ := okWide_slice Tryz.underlying22 hv
  obtain ⟨fuel, hf⟩ := h
  rcases open_ints Tryz.underlying22 Tryz.underlying63 (show Tryz.prog.cellsOf 63 = 1 by kernel_rfl) hf with ⟨hcs, hx⟩ | ⟨a, len', cap', zs, hcs, _, hl, hm, hz, hx, hcell, hwz⟩
  · simp only [Value.cells, List.cons.injEq, Value.slice.injEq, and_true] at hcs
    obtain ⟨rfl, rfl, rfl⟩ := hcs
    exact ⟨none, 0, [], rfl, Nat.zero_le _, Sl.nil _ _ _, fun _ => rfl⟩
  · simp only [Value.cells, List.cons.injEq, Value.slice.injEq, and_true] at hcs
    obtain ⟨rfl, rfl, rfl⟩ := hcs
    simp only [if_true] at hz
    unfold maxLen at hm
    have hwf : ∀ k, k < zs.length → 0 ≤ zs.getD k 0 ∧ zs.getD k 0 < 4294967296 := fun k hk => wf_u32 (hwz _ (by
      rw [show zs.getD k 0 = zs[k] by simp [List.getD, hk]]; exact List.getElem_mem hk))
    have hlen : ((zs.take len).map Int.toNat).length = len := by simp; omega
    refine ⟨some a, cap, (zs.take len).map Int.toNat, by rw [hlen], by rw [hlen]; omega, ⟨fun h0 => ?_, by rw [hlen]; exact hl, fun x hx => ?_⟩, fun e => by cases e⟩
    · rw [hlen] at h0
      obtain ⟨b, off, rfl, hc⟩ := ints_at hcell (by omega)
      have hc0 := hc 0 (by omega)
      refine ⟨b, off, rfl, World.block_lt_of_cell? _ _ hc0, fun k hk => ?_⟩
      rw [hlen] at hk
      rw [hc k (by omega)]
      have h2 := hwf k (by omega)
      congr 2
      simp only [List.getElem_map, List.getElem_take]
      rw [show zs.getD k 0 = zs[k]'(by omega) by simp [List.getD, show k < zs.length by omega]] at h2 ⊢
      omega
    · obtain ⟨z, hz2, rfl⟩ := List.mem_map.1 hx
      have := wf_u32 (hwz z (List.mem_of_mem_take hz2))
      show z.toNat < 4294967296
      omega
end Go.Proofs.YtcdndcbfmlnpjaaGreatDoor
