/- The reference: Digits. -/
import Derived.Test.YtiglekomfgfilaaGreatDoorY17
import Derived.Maps.AppendAt
import Derived.Test.YtiglekomfgfilaaGreatDoorY14
import Derived.Test.YtiglekomfgfilaaGreatDoorY6
import Derived.Test.YtiglekomfgfilaaGreatDoorY15
namespace Go.Proofs.YtiglekomfgfilaaGreatDoor
set_option maxRecDepth 100000
set_option maxHeartbeats 4000000
set_option linter.all false
open Go.RowKit
theorem Row.set {w : World} {B g n c : Nat} {l : List Nat} (h : Row w B (.slice (some ⟨g, 0, none⟩) n c) l) (hn : n = l.length) (j x : Nat) :
    Row (w.setCell ⟨g, j, none⟩ (.int .u32 (x : Int))) B (.slice (some ⟨g, 0, none⟩) n c) (l.set j x) ∧ w.grownBy (w.setCell ⟨g, j, none⟩ (.int .u32 (x : Int))) (some g) := by
  subst hn
  obtain ⟨h1, h2⟩ := World.ownsRow.stored h j (.int .u32 (x : Int))
  refine ⟨?_, h2⟩
  show (w.setCell _ _).ownsRow _ _ _ _ _ _
  rw [List.length_set, u32s, List.map_set]
  exact h1
theorem RowB.kept {w w' : World} {B : Nat} {v : Value} {l : List UInt8} {row : Option Nat} (h : RowB w B v l) (hg : w.grownBy w' row) (hne : v.ownBlock = none ∨ v.ownBlock ≠ row) : RowB w' B v l := ⟨h.1, World.ownsRow.kept h.2 hg hne⟩
theorem Row.kept {w w' : World} {B : Nat} {v : Value} {l : List Nat} {row : Option Nat} (h : Row w B v l) (hg : w.grownBy w' row) (hne : v.ownBlock = none ∨ v.ownBlock ≠ row) : Row w' B v l := World.ownsRow.kept h hg hne
theorem RowB.on {w w' : World} {B : Nat} {v : Value} {l : List UInt8} (h : RowB w B v l) (hb : Below w.heap.size w w') : RowB w' B v l :=
  h.kept (row := none) ⟨hb.os, hb.tape, hb.output, hb.size, fun k hk _ => hb.block k hk⟩ (by cases v.ownBlock <;> simp)
theorem RowB.lt' {w : World} {B : Nat} {v : Value} {l : List UInt8} (h : RowB w B v l) : ∀ k, v.ownBlock = Option.some k → B ≤ k ∧ k < w.heap.size := World.ownsRow.lt h.2
def Far (x l : Value) : Prop := ∀ k, l.ownBlock = some k → x.ownBlock ≠ some k
theorem Far.ne {l : Value} {g n c : Nat} (h : Far (.slice (some ⟨g, 0, none⟩) n c) l) : l.ownBlock = none ∨ l.ownBlock ≠ some g := by
  cases e : l.ownBlock with
  | none => exact Or.inl rfl
  | some k => exact Or.inr (fun e2 => h k e e2.symm)
theorem Row.far {w0 w : World} {B : Nat} {x l : Value} {m : List Nat} {lb : List UInt8} (hl : RowB w0 B l lb) (hx : Row w w0.heap.size x m) : Far x l := by
  intro k hk e
  have h1 := hl.lt' k hk
  have h2 := hx.lt k e
  omega
theorem Na.dec_low {N v r u : Nat} {lb : List UInt8} (hv : v ≠ 0) (inv : Lib.decDigits N = Lib.decDigits v ++ lb.reverse) (hr : r = v % 10) (hu : u = v / 10) :
    if u = 0 then (lb ++ [UInt8.ofNat (48 + r)]).reverse = Lib.decDigits N else Lib.decDigits N = Lib.decDigits u ++ (lb ++ [UInt8.ofNat (48 + r)]).reverse := by
  rw [List.reverse_append, inv]
  by_cases h : u = 0
  · rw [if_pos h, Lib.decDigits, dif_pos (by omega), hr, Nat.mod_eq_of_lt (by omega)]; rfl
  · rw [if_neg h, Lib.decDigits, dif_neg (by omega), hu, hr, List.append_assoc]; rfl
theorem Na.dec_pos (n : Nat) : 0 < (Lib.decDigits n).length := by rw [Lib.decDigits]; split <;> simp
def numLen : Value → Nat
  | .slice _ n _ => n
  | _ => 0
def rdigLoop (N : Nat) (w : World) (xv lv : Value) (wr : World) : Prop := ∃ (v : Nat) (a : Option Addr) (c : Nat) (lb : List UInt8), xv = .slice a (Na.limbs v).length c ∧ (Na.limbs v).length ≤ 100000 ∧ Hid (Row wr w.heap.size xv (Na.limbs v)) ∧ Hid (RowB wr w.heap.size lv lb) ∧ Hid (Far xv lv) ∧
  Hid (if v = 0 then lb.reverse = Lib.decDigits N else Lib.decDigits N = Lib.decDigits v ++ lb.reverse) ∧ Hid (Below w.heap.size w wr)
def rdivLoop (V B g n c : Nat) (lv : Value) (lb : List UInt8) (w : World) (rv iv : Value) (wr : World) : Prop := ∃ (k r : Nat) (o : List Nat), k ≤ n ∧ iv = .int .i64 ((k : Int) - 1) ∧ rv = .int .u64 r ∧ r < 10 ∧ Hid (Row wr B (.slice (some ⟨g, 0, none⟩) n c) o) ∧ Hid (o.length = n) ∧ Hid (Na.OK o) ∧
  Hid (V + 10 * Na.val (o.take k) = Na.val (o.take k) + Na.B ^ k * r + 10 * Na.val (o.take n)) ∧ Hid (RowB wr B lv lb) ∧ Hid (Below B w wr)
def rrevLoop (L B : Nat) (lb : List UInt8) (w : World) (ov iv : Value) (wr : World) : Prop := ∃ (k : Nat), k ≤ L ∧ iv = .int .i64 ((k : Int) - 1) ∧ Hid (RowB wr B ov (lb.drop k).reverse) ∧ Hid (Below B w wr)
theorem r1_digits_zero (a : Option Addr) (c : Nat) (l : List Nat) (w : World) (h : Sl w a c l) (hz : a = none → c = 0) (hn : l.length ≤ 100000) (h0 : Na.val l = 0) :
    Calls Tryz.prog 87 #[.slice a l.length c] w (RetB (.string ⟨(Lib.decDigits (Na.val l)).toArray⟩) w) := by
  have h1 := r1_trim_any a c l w h hz (by omega)
  rw [(Na.cut_nil_iff l).2 h0] at h1
  have H1 := Lib.hid (show Calls Tryz.prog 83 #[.slice a l.length c] w (GivesZ [] w) from h1)
  have e2 := Lib.hid (show (⟨(Lib.decDigits (Na.val l)).toArray⟩ : ByteArray) = ⟨#[48]⟩ by rw [h0, Lib.decDigits, dif_pos (by decide)]; rfl)
  clear h1 h0
  go_enter Tryz.func87, Tryz.ntmps87
  go_wp2_with (first | (go_at_call 83; (with_reducible refine (H1.out).mono ?_); rintro e w1 ⟨a1, c1, rfl, -, -, -, hb⟩))
  go_ret
  exact RetB.of (by rw [e2.out]; rfl) hb
theorem RowB.cell {w : World} {B g n c : Nat} {lb : List UInt8} (h : RowB w B (.slice (Option.some ⟨g, 0, none⟩) n c) lb) (j : Nat) (hj : j < lb.length) : w.cell? ⟨g, j, none⟩ = Option.some (.int .u8 (lb[j].toNat : Int)) := by
  obtain ⟨⟨a', cap', e⟩, h2⟩ := h
  cases e
  rw [World.ownsRow.cellAt h2 j (by omega), List.getElem?_map, List.getElem?_eq_getElem hj]; rfl
theorem Row.at' {w : World} {B n c : Nat} {a : Option Addr} {l : List Nat} (h : Row w B (.slice a n c) l) (h0 : 0 < n) : ∃ g, a = some ⟨g, 0, none⟩ ∧ B ≤ g := by
  rcases h.2 with ⟨e, e2⟩ | ⟨g, cap, cur, e, hb, _⟩
  · cases e; omega
  · cases e; exact ⟨g, rfl, hb⟩
theorem Far.ne2 {x l : Value} (h : Far x l) : x.ownBlock = none ∨ x.ownBlock ≠ l.ownBlock := by
  cases hx : x.ownBlock with
  | none => exact Or.inl rfl
  | some k => exact Or.inr (fun e => h k e.symm hx)
theorem app_u8 {w : World} {ops : Array Oper} {rest : List Oper} {o : Oper} {act : Act} {Q : Exit → Act → World → Prop} (hgd : o.guard = none) (s x : Operand)
    (hop : o.op = .call { callee := .builtin .append, args := #[s, x], argTypes := #[110, 110] }) (B : Nat) (v : Value) (l : List UInt8) (hs : act.eval s = v) (hown : RowB w B v l) (ad : Addr) (y : UInt8) (z : Int) (hy : z = (y.toNat : Int)) (hx : act.eval x = .slice (some ad) 1 1)
    (hc : ∀ j u, [Value.int .u8 z][j]? = some u → w.cell? (ad.add j) = some u) (hlen : l.length ≤ 1000000000) (hB : B ≤ w.heap.size)
    (hK : ∀ v' w', Hid (RowB w' B v' (l ++ [y])) → Hid (w.grownBy w' v.ownBlock) → Hid (∀ B' w0, Below B' w0 w → B' ≤ B → Below B' w0 w') → wpList Tryz.prog ops Q rest (act.put o.dst v') w') : wpList Tryz.prog ops Q (o :: rest) act w := by
  obtain ⟨i0, hi, hz0, hz1, hz2⟩ := info_parts Tryz.infoU8
  refine wpList_append_own w hgd s x _ hop B 5 i0 (.int .u8 0) 1 1 Tryz.underlying110 hi hz0 hz1 hz2 rfl (by decide) v l.length _ hs hown.2 ad 1 1 [.int .u8 z] hx rfl hc (by simp [Value.oneCell']) (by unfold maxLen; omega) (by omega) hB ?_
  intro v' w' h1 h2 _
  refine hK v' w' (Lib.hid (RowB.of h1 (by simp) (by simp [hy]))) (Lib.hid h2) (Lib.hid fun B' w0 hb hB' => hb.grown h2 (by omega) (fun k e => by have := (hown.lt' k e).1; omega))
theorem dec_byte {r : Nat} (h : r < 10) : (48 : Int) + (r : Int) = ((UInt8.ofNat (48 + r)).toNat : Int) := by
  rw [UInt8.toNat_ofNat_of_lt' (by show 48 + r < 256; omega)]; omega
theorem drop_rev (l : List UInt8) (j : Nat) (h : j < l.length) : (l.drop (j + 1)).reverse ++ [l[j]] = (l.drop j).reverse := by
  rw [List.drop_eq_getElem_cons h, List.reverse_cons]
theorem r1_digits_pos (a : Option Addr) (c : Nat) (l : List Nat) (w : World) (h : Sl w a c l) (hz : a = none → c = 0) (hn : l.length ≤ 50000) (h0 : Na.val l ≠ 0) :
    Calls Tryz.prog 87 #[.slice a l.length c] w (RetB (.string ⟨(Lib.decDigits (Na.val l)).toArray⟩) w) := by
  have h1 := r1_trim_any a c l w h hz (by omega)
  have hdl := dec_len_le l h.ok
  have hlen : (Na.cut l).length ≤ 50000 := Nat.le_trans (Na.rt_le h.ok).1 hn
  have hpos : 0 < (Na.cut l).length := by
    rcases Nat.eq_zero_or_pos (Na.cut l).length with e | e
    · exact absurd ((Na.cut_nil_iff l).1 (List.eq_nil_of_length_eq_zero e)) h0
    · exact e
  obtain ⟨N, hN⟩ : ∃ N, N = Na.val l := ⟨_, rfl⟩
  have hcut : Na.cut l = Na.limbs N := by rw [hN]; rfl
  rw [hcut] at h1 hlen hpos
  rw [← hN] at hdl h0 ⊢
  obtain ⟨L, hL⟩ : ∃ L, L = (Lib.decDigits N).length := ⟨_, rfl⟩
  rw [← hL] at hdl
  have hL2 : L ≤ 600000 := by omega
  obtain ⟨R, hR⟩ : ∃ R : ByteArray, R = ⟨(Lib.decDigits N).toArray⟩ := ⟨_, rfl⟩
  rw [← hR]
  have H1 := Lib.hid h1; have HR := Lib.hid hR; have HL := Lib.hid hL; have H0 := Lib.hid h0
  have hz0 : (((Na.limbs N).length : Int) == 0) = false := by simp only [beq_eq_false_iff_ne, ne_eq]; omega
  clear h1 hR hL h0 hN hcut hdl hz h
  go_enter Tryz.func87, Tryz.ntmps87
  go_wp2_with (first | (go_at_call 83; (with_reducible refine (H1.out).mono ?_); rintro e w1 ⟨a1, c1, rfl, s1, z1, r1, hb⟩))
  have HAt := Lib.hid (show rdigLoop N w (.slice a1 (Na.limbs N).length c1) (.slice none 0 0) w1 from ⟨N, a1, c1, [], rfl, by omega, Lib.hid r1, Lib.hid (RowB.nil _ _), Lib.hid (fun k e => by cases e), Lib.hid (by rw [if_neg H0.out]; simp), Lib.hid hb⟩)
  clear s1 z1 r1 hb hz0 hlen hpos H1 H0
  go_loopw [3, 4] (rdigLoop N w) (fun _ lv _ => L + 1 - numLen lv)
  case atStart => exact HAt.out
  case round =>
    clear HAt
    obtain ⟨v, a, c, lb, rfl, hlen, HX, HLb, HFar, HInv, HBe⟩ := hrel
    have hsz := HBe.out.size
    by_cases hv : v = 0
    · subst hv
      have e0 := Lib.hid (show (Na.limbs 0).length = 0 by rw [Na.limbs_zero]; rfl)
      rw [e0.out]
      have hrv := HInv.out
      rw [if_pos rfl] at hrv
      have hll : lb.length = L := by rw [HL.out, ← hrv, List.length_reverse]
      obtain ⟨al, cl, hlv⟩ := HLb.out.shape
      rw [hll] at hlv
      subst hlv
      have HRv := Lib.hid hrv
      have HLL := Lib.hid hll
      have HAt := Lib.hid (show rrevLoop L wr.heap.size lb wr (.slice none 0 0) (.int .i64 ((L : Int) - 1)) wr from ⟨L, Nat.le_refl _, rfl, Lib.hid (by rw [List.drop_of_length_le (by rw [HLL.out]; exact Nat.le_refl _)]; exact RowB.nil _ _), Lib.hid (Below.refl _ _)⟩)
      clear hrv HInv hll
      obtain ⟨wo, rfl⟩ : ∃ wo : World, wo = wr := ⟨_, rfl⟩
      go_wp2_with fail
      go_loopw [8, 9] (rrevLoop L wo.heap.size lb wo) (fun _ i _ => (intOf i + 1).toNat)
      case atStart => exact HAt.out
      case round =>
        clear HAt
        obtain ⟨k, hk, rfl, HOb, HBo⟩ := hrel
        cases k with
        | zero =>
          have hrow := HOb.out
          rw [List.drop_zero, HRv.out] at hrow
          obtain ⟨av, cv, rfl⟩ := hrow.shape
          have hstr : (convert 110 9 (.slice av (Lib.decDigits N).length cv)).run Tryz.prog wr = .ok (.string R) wr := by
            rw [HR.out]; exact hrow.string (Na.dec_pos N)
          have hB := HBe.out.trans (HBo.out.mono hsz)
          clear hrow
          go_wp2
          go_ret
          exact RetB.of rfl hB
        | succ j =>
          have hji : (((j + 1 : Nat) : Int) - 1) = (j : Int) := by omega
          rw [hji]
          have hjl : j < lb.length := by rw [HLL.out]; omega
          obtain ⟨gl, cl', e, hgl, hgl2⟩ := HLb.out.some (by omega)
          simp only [Value.slice.injEq] at e
          obtain ⟨rfl, -, rfl⟩ := e
          have hcell := RowB.cell (HLb.out.on HBo.out) j hjl
          have HDR := Lib.hid (drop_rev lb j hjl)
          obtain ⟨y, hy⟩ : ∃ y, lb[j]'hjl = y := ⟨_, rfl⟩
          rw [hy] at hcell HDR
          have hobl : (lb.drop (j + 1)).reverse.length ≤ 1000000000 := by rw [List.length_reverse, List.length_drop, HLL.out]; omega
          have hyl : (y.toNat : Int) < 256 := by have := y.toNat_lt; omega
          clear hy
          go_wp2_with (first | (at_builtin; refine app_u8 rfl _ _ rfl wo.heap.size u8 _ rfl ⟨HOb.out.1, HOb.out.2.alloc _⟩ ⟨wr.heap.size, 0, none⟩ y _ rfl rfl (cell_one_new _ _ _) hobl (by have := HBo.out.size; simp; omega) ?_; intro v2 w2 hr2 hg2 hgb2))
          have hB2 := hgb2.out _ _ (HBo.out.alloc HBo.out.size _) (Nat.le_refl _)
          go_wp2_with fail
          go_roundw
          case rel => exact ⟨j, by omega, rfl, Lib.hid (by rw [← HDR.out]; exact hr2.out), Lib.hid hB2⟩
          case measure => simp [intOf]
    · have hpos : 0 < (Na.limbs v).length := by
        rcases Nat.eq_zero_or_pos (Na.limbs v).length with e | e
        · exact absurd (Na.limbs_nil.1 (List.eq_nil_of_length_eq_zero e)) hv
        · exact e
      have hinv := HInv.out
      rw [if_neg hv] at hinv
      have hS := congrArg List.length hinv
      rw [List.length_append, List.length_reverse, ← HL.out] at hS
      have hdp := Na.dec_pos v
      have hlbL : lb.length < L := by omega
      obtain ⟨g, rfl, hg⟩ := HX.out.at' hpos
      obtain ⟨al, cl, rfl⟩ := HLb.out.shape
      obtain ⟨n, hne⟩ : ∃ n, (Na.limbs v).length = n := ⟨_, rfl⟩
      have HNE := Lib.hid hne
      have HV := Lib.hid hv
      have HIN := Lib.hid hinv
      rw [hne] at HX hlen hpos HFar ⊢
      have HAt := Lib.hid (show rdivLoop v w.heap.size g n c (.slice al lb.length cl) lb wr (.int .u64 0) (.int .i64 ((n : Int) - 1)) wr from ⟨n, 0, Na.limbs v, Nat.le_refl _, rfl, rfl, by decide, HX, Lib.hid hne, Lib.hid (Na.ok_limbs v), Lib.hid (by rw [List.take_of_length_le (by omega), Na.val_limbs]; simp), HLb, Lib.hid (Below.refl _ _)⟩)
      clear hinv hS hdp hne hv HInv
      obtain ⟨wo, rfl⟩ : ∃ wo : World, wo = wr := ⟨_, rfl⟩
      go_wp2_with fail
      go_loopw [5, 6] (rdivLoop v w.heap.size g n c (.slice al lb.length cl) lb wo) (fun _ i _ => (intOf i + 1).toNat)
      case atStart => exact HAt.out
      case round =>
        clear HAt HX HLb
        obtain ⟨k, r, o, hk, rfl, rfl, hr, HX, HOl, HOk, HIv, HLb, HBo⟩ := hrel
        have hg2 := HX.out.lt g rfl
        cases k with
        | zero =>
          have hend := Na.short_end v 10 (Na.val (o.take n)) r hr (by have := HIv.out; simpa [Na.val] using this)
          rw [List.take_of_length_le (by rw [HOl.out]; exact Nat.le_refl _)] at hend
          obtain ⟨u, hu⟩ : ∃ u, u = v / 10 := ⟨_, rfl⟩
          have HDL := Lib.hid (Na.dec_low HV.out HIN.out hend.2 hu)
          have hcutv : Na.cut o = Na.limbs u := by rw [Na.cut, hend.1, hu]
          have hul : (Na.limbs u).length ≤ 100000 := by rw [← hcutv]; have := (Na.rt_le HOk.out).1; rw [Na.rt] at this; rw [HOl.out] at this; omega
          have HTR := Lib.hid (fun w2 (hx : Row w2 w.heap.size (.slice (some ⟨g, 0, none⟩) n c) o) => (by
            obtain ⟨a', c', e, hs, hzz⟩ := hx.slz HOk.out
            simp only [Value.slice.injEq] at e
            obtain ⟨rfl, -, rfl⟩ := e
            have := r1_trim_any (some ⟨g, 0, none⟩) c o w2 hs hzz (by rw [HOl.out]; omega)
            rw [HOl.out, hcutv] at this; exact this : Calls Tryz.prog 83 #[.slice (some ⟨g, 0, none⟩) n c] w2 (GivesZ (Na.limbs u) w2)))
          have HDB := Lib.hid (dec_byte hr)
          have HFN := Lib.hid HFar.out.ne2
          have HB1 := Lib.hid (HBe.out.trans HBo.out)
          have hszr := HB1.out.size
          have hr10 : (48 : Int) + (r : Int) < 256 := by omega
          clear hend hcutv hu
          go_wp2_with (first | (at_builtin; refine app_u8 rfl _ _ rfl w.heap.size (.slice al lb.length cl) lb rfl ⟨HLb.out.1, HLb.out.2.alloc _⟩ ⟨wr.heap.size, 0, none⟩ (UInt8.ofNat (48 + r)) _ HDB.out rfl (cell_one_new _ _ _) (by omega) (by simp; omega) ?_; intro v2 w2 hr2 hgr2 hgb2; have hx2 := (HX.out.alloc _).kept hgr2.out HFN.out) | (go_at_call 83; (with_reducible refine (HTR.out _ hx2).mono ?_); rintro e w3 ⟨a3, c3, rfl, -, -, r3, hb3⟩))
          have hB2 : Below w.heap.size w w2 := hgb2.out _ _ (HB1.out.alloc hszr _) (Nat.le_refl _)
          have hB3 := hB2.trans (hb3.mono hB2.size)
          go_roundw
          case rel => exact ⟨u, a3, c3, lb ++ [UInt8.ofNat (48 + r)], rfl, hul, Lib.hid (r3.mono hB2.size), Lib.hid (hr2.out.on hb3), Lib.hid (Row.far hr2.out r3), HDL, Lib.hid hB3⟩
          case measure =>
            obtain ⟨a9, c9, e9⟩ := hr2.out.shape
            rw [e9]; simp [numLen]; omega
        | succ j =>
          have hji : (((j + 1 : Nat) : Int) - 1) = (j : Int) := by omega
          rw [hji]
          have hjo : j < o.length := by rw [HOl.out]; omega
          have hx' := HX.out
          have co : wr.cell? ⟨g, j, none⟩ = some (.int .u32 (o[j] : Int)) := by
            rw [World.ownsRow.cellAt (n := n) (cap := c) (by have := hx'; unfold Row at this; rw [HOl.out] at this; exact this) j (by omega), u32s_get o j hjo]
          have fo : wr.frozen? ⟨g, j, none⟩ = false := World.ownsRow.frozenAt (n := n) (cap := c) (by have := hx'; unfold Row at this; rw [HOl.out] at this; exact this) j
          have hzl : o[j] < 4294967296 := HOk.out _ (List.getElem_mem hjo)
          obtain ⟨z, hze⟩ : ∃ z, o[j]'hjo = z := ⟨_, rfl⟩
          rw [hze] at co hzl
          have HST := Lib.hid (Na.short_step v 10 o n j r z (by omega) hjo hze HIv.out)
          have hs1 := Na.short_lt r z 10 hr hzl
          have hs2 : (r * 4294967296 + z) % 10 < 10 := Nat.mod_lt _ (by decide)
          have hs3 : r * 4294967296 + z < 18446744073709551616 := by omega
          obtain ⟨s, hs⟩ : ∃ s, s = r * 4294967296 + z := ⟨_, rfl⟩
          rw [← hs] at HST hs1 hs2 hs3
          have hsi : (r : Int) * 4294967296 + (z : Int) = (s : Int) := by omega
          obtain ⟨y, hy⟩ : ∃ v, v = s / 10 := ⟨_, rfl⟩
          obtain ⟨r2, hr2⟩ : ∃ v, v = s % 10 := ⟨_, rfl⟩
          rw [← hy, ← hr2] at HST
          rw [← hy] at hs1
          rw [← hr2] at hs2
          have hvi : (s : Int) / 10 = (y : Int) := by omega
          have hri : (s : Int) % 10 = (r2 : Int) := by omega
          have HSET := Lib.hid (hx'.set (by rw [HOl.out]) j y)
          have HFN := Lib.hid HFar.out.ne
          clear hze hs hy hr2 hx'
          go_wp2_with fail
          go_roundw
          case rel => exact ⟨j, r2, o.set j y, by omega, rfl, by first | rfl | rw [hri], hs2, Lib.hid HSET.out.1, Lib.hid (by rw [List.length_set]; exact HOl.out), Lib.hid (Na.ok_set HOk.out _ _ hs1), HST, Lib.hid (HLb.out.kept HSET.out.2 HFN.out), Lib.hid (by have hbo := HBo.out; exact hbo.setCell hg2.1 _)⟩
          case measure => simp [intOf]
theorem r1_digits_any (a : Option Addr) (c : Nat) (l : List Nat) (w : World) (h : Sl w a c l) (hz : a = none → c = 0) (hn : l.length ≤ 50000) :
    Calls Tryz.prog 87 #[.slice a l.length c] w (RetB (.string ⟨(Lib.decDigits (Na.val l)).toArray⟩) w) := by
  by_cases h0 : Na.val l = 0
  · exact r1_digits_zero a c l w h hz (by omega) h0
  · exact r1_digits_pos a c l w h hz hn h0
end Go.Proofs.YtiglekomfgfilaaGreatDoor

namespace Go.Proofs.YtiglekomfgfilaaGreatDoor
set_option maxRecDepth 100000
set_option maxHeartbeats 1000000
set_option linter.all false
open Go.RowKit
theorem r7_make_any (n : Bool) (s : ByteArray) (x : Int) (w : World) (hs : s.size ≤ 1000000000) (hx : -9223372036854775808 ≤ x ∧ x ≤ 9223372036854775807) :
    Calls Tryz.prog 24 #[.bool n, .string s, .int .i64 x] w (RetB (Dc.mk n s.data.toList x).val w) := by
  obtain ⟨hx1, hx2⟩ := hx
  go_enter Tryz.func24, Tryz.ntmps24
  go_wp2_with fail
  go_loop [8] (fun i => ∃ k : Nat, k ≤ s.size ∧ i = .int .i64 k ∧ (s.data.toList.take k).all Dc.isDig = true) (fun i => s.size - (intOf i).toNat)
  case atStart => exact ⟨0, Nat.zero_le _, rfl, rfl⟩
  case round =>
    obtain ⟨k, hk, rfl, hall⟩ := hrel
    have HA := Lib.hid hall; clear hall
    by_cases hlt : k < s.size
    · have hsn := Lib.hid (all_take_snoc s k hlt Dc.isDig)
      have hno : Dc.isDig s[k] = false → Dc.mk n s.data.toList x = ⟨false, [], 0, 3⟩ := fun h => Dc.mk_bad (by rw [show Dc.allDig s.data.toList = false from all_take_snoc_false s k hlt _ h]; simp)
      have HNO := Lib.hid hno; clear hno
      go_wp2_with (go_at_call 61; (with_reducible refine (r7_digit_any _ _).mono ?_); rintro e w' ⟨rfl, rfl⟩)
      · have hd : (!Dc.isDig s[k]) = true := by assumption
        (refine bodyPost_ret (v := Dc.Res.val ⟨false, [], 0, 3⟩) (by (simp [results, Tryz.results24, go_sem, Dc.Res.val]; done)) rfl (RetB.of (by rw [HNO.out (by simpa using hd)]) (by (repeat (first | exact Below.refl _ _ | assumption | refine Below.setCell ?_ (by first | omega | (simp <;> omega)) _ | refine Below.alloc ?_ (by first | omega | (simp <;> omega)) _ | refine Below.drew ?_ | refine below_drewN' ?_ _)))))
      · have hd : (!Dc.isDig s[k]) = false := by assumption
        go_round
        case rel => exact ⟨k + 1, by omega, by go_num, by rw [hsn.out, HA.out]; simpa using hd⟩
        case measure => simp [intOf]; omega
    · have hdig : Dc.allDig s.data.toList = true := by have := HA.out; rwa [List.take_of_length_le (by simp; omega)] at this
      have HD := Lib.hid hdig; clear hdig HA
      go_wp2_with fail
      go_loop [10] (fun i => ∃ f : Nat, f ≤ s.size ∧ i = .int .i64 f ∧ (s.data.toList.take f).all Dc.is0 = true) (fun i => s.size - (intOf i).toNat)
      case atStart => exact ⟨0, Nat.zero_le _, rfl, rfl⟩
      case round =>
        obtain ⟨f, hf, rfl, hall⟩ := hrel
        have HA := Lib.hid hall; clear hall
        by_cases hgo : f < s.size ∧ ∃ h : f < s.size, (s[f].toNat : Int) = 48
        · obtain ⟨hlt2, _, h48⟩ := hgo
          have hb : ((s[f].toNat : Int) == 48) = true := by simpa using h48
          have hsn := Lib.hid (all_take_snoc s f hlt2 Dc.is0)
          have H48 := Lib.hid ((Dc.is0_iff s[f]).2 h48); clear h48
          go_wp2
          go_round
          case rel => exact ⟨f + 1, by omega, by go_num, by rw [hsn.out, HA.out, H48.out]; rfl⟩
          case measure => simp [intOf]; omega
        · have hex : ∀ h : f < s.size, ((s[f].toNat : Int) == 48) = false := fun h => by
            have : ¬ (s[f].toNat : Int) = 48 := fun e => hgo ⟨h, h, e⟩
            simpa using this
          have HEX := Lib.hid hex
          clear hgo
          by_cases hlt2 : f < s.size
          · have hfb := hex hlt2; clear hex
            go_wp2_with fail
            go_loop [11, 12] (fun t m => ∃ q : Nat, f ≤ q ∧ q ≤ s.size ∧ t = .int .i64 q ∧ m = .int .i64 (s.size - q) ∧ (s.data.toList.drop q).all Dc.is0 = true) (fun t _ => (intOf t).toNat)
            case atStart => exact ⟨s.size, hf, Nat.le_refl _, rfl, by simp, by rw [List.drop_of_length_le (by simp)]; rfl⟩
            case round =>
              obtain ⟨q, hfq, hqs, rfl, rfl, hall⟩ := hrel
              have HB := Lib.hid hall; clear hall
              by_cases hgo2 : ∃ h : f < q, (s[q - 1].toNat : Int) = 48
              · obtain ⟨hlt3, h48⟩ := hgo2
                have hfs : f < s.size := by omega
                have hb3 : ((s[q - 1].toNat : Int) == 48) = true := by simpa using h48
                have H48 := Lib.hid ((Dc.is0_iff s[q - 1]).2 h48); clear h48
                have hdc := Lib.hid (all_drop_cons s (q - 1) (by omega) Dc.is0)
                go_wp2
                go_round
                case rel => exact ⟨q - 1, by omega, by omega, by congr 1; omega, by congr 1; omega, by rw [hdc.out, H48.out, show q - 1 + 1 = q by omega, HB.out]; rfl⟩
                case measure => simp [intOf]; omega
              · by_cases hlt3 : f < q
                · by_cases hfs : f < s.size
                  case neg => exfalso; omega
                  case pos =>
                    have h48 : ¬ (s[q - 1].toNat : Int) = 48 := fun e => hgo2 ⟨hlt3, e⟩
                    have hb3 : ((s[q - 1].toNat : Int) == 48) = false := by simpa using h48
                    have hcc := Dc.cut_core s f q hlt3 hqs HA.out HB.out (fun e => by have := HEX.out (by omega); rw [e] at this; simp at this) h48
                    have hne : Dc.core s.data.toList ≠ [] := by
                      rw [hcc.1]; intro e
                      have := congrArg List.length e
                      rw [bs_length, ByteArray.size_extract] at this; simp at this; omega
                    have hrc := Dc.right_core (x + Dc.tz s.data.toList) HD.out hne
                    have hcl : (Dc.core s.data.toList).length = q - f := by rw [hcc.1, bs_length, ByteArray.size_extract]; omega
                    rw [hcl, hcc.2] at hrc
                    clear hgo2
                    by_cases hok : q - f ≤ 1100 ∧ x ≤ 100000 ∧ -100000 - ((s.size : Int) - q) ≤ x ∧ x + ((s.size : Int) - q) ≤ 100000
                    · have hmk : Dc.mk n s.data.toList x = ⟨n, (s.extract f q).data.toList, x + ((s.size : Int) - q), 0⟩ := by
                        rw [Dc.mk_ok HD.out hne (by rw [hcc.2]; exact hrc.2 (by omega)), hcc.1, hcc.2]
                      have HM := Lib.hid hmk; clear hmk hrc hcc hne hcl h48
                      obtain ⟨k1, k2, k3, k4⟩ := hok
                      have k0 : ((f : Int) == q) = false := by simp; omega
                      go_wp2
                      (refine bodyPost_ret (v := .tuple #[.agg #[.bool n, .string (s.extract f q), .int .i64 (x + ((s.size : Int) - q))], .int .i64 0]) (by (simp [results, Tryz.results24, go_sem]; done)) rfl (RetB.of (by rw [HM.out]; rfl) (by (repeat (first | exact Below.refl _ _ | assumption | refine Below.setCell ?_ (by first | omega | (simp <;> omega)) _ | refine Below.alloc ?_ (by first | omega | (simp <;> omega)) _ | refine Below.drew ?_ | refine below_drewN' ?_ _)))))
                    · have hmk : Dc.mk n s.data.toList x = ⟨false, [], 0, 2⟩ := by
                        rw [Dc.mk_over HD.out hne (by rw [hcc.2]; intro e; exact hok (by have := hrc.1 e; omega))]
                      have HM := Lib.hid hmk; have HK := Lib.hid hok; clear hmk hrc hcc hne hcl h48 hok
                      have k0 : ((f : Int) == q) = false := by simp; omega
                      go_wp2
                      all_goals first
                        | (exfalso; exact HK.out (by omega))
                        | (refine bodyPost_ret (v := Dc.Res.val ⟨false, [], 0, 2⟩) (by (simp [results, Tryz.results24, go_sem, Dc.Res.val]; done)) rfl (RetB.of (by rw [HM.out]) (by (repeat (first | exact Below.refl _ _ | assumption | refine Below.setCell ?_ (by first | omega | (simp <;> omega)) _ | refine Below.alloc ?_ (by first | omega | (simp <;> omega)) _ | refine Below.drew ?_ | refine below_drewN' ?_ _)))))
                · obtain rfl : q = f := by omega
                  have hmk : Dc.mk n s.data.toList x = ⟨n, [], 0, 0⟩ := Dc.mk_zero HD.out (Dc.cut_core_zero _ q HA.out HB.out)
                  have HM := Lib.hid hmk; clear hmk hgo2
                  go_wp2
                  (refine bodyPost_ret (v := Dc.Res.val ⟨n, [], 0, 0⟩) (by (simp [results, Tryz.results24, go_sem, Dc.Res.val]; done)) rfl (RetB.of (by rw [HM.out]) (by (repeat (first | exact Below.refl _ _ | assumption | refine Below.setCell ?_ (by first | omega | (simp <;> omega)) _ | refine Below.alloc ?_ (by first | omega | (simp <;> omega)) _ | refine Below.drew ?_ | refine below_drewN' ?_ _)))))
          · clear hex
            have e : f = s.size := by omega
            subst e
            have hmk : Dc.mk n s.data.toList x = ⟨n, [], 0, 0⟩ := Dc.mk_zero HD.out (Dc.cut_core_zero _ _ HA.out (by rw [List.drop_of_length_le (by simp)]; rfl))
            have HM := Lib.hid hmk; clear hmk
            go_wp2_with fail
            go_loop [11, 12] (fun t m => t = .int .i64 s.size ∧ m = .int .i64 0) (fun _ _ => 0)
            case atStart => exact ⟨rfl, rfl⟩
            case round =>
              obtain ⟨rfl, rfl⟩ := hrel
              go_wp2
              (refine bodyPost_ret (v := Dc.Res.val ⟨n, [], 0, 0⟩) (by (simp [results, Tryz.results24, go_sem, Dc.Res.val]; done)) rfl (RetB.of (by rw [HM.out]) (by (repeat (first | exact Below.refl _ _ | assumption | refine Below.setCell ?_ (by first | omega | (simp <;> omega)) _ | refine Below.alloc ?_ (by first | omega | (simp <;> omega)) _ | refine Below.drew ?_ | refine below_drewN' ?_ _)))))
end Go.Proofs.YtiglekomfgfilaaGreatDoor

/- The reference: a natural times a power of two as a decimal. -/
namespace Go.Proofs.YtiglekomfgfilaaGreatDoor
set_option maxRecDepth 100000
set_option maxHeartbeats 4000000
set_option linter.all false
open Go.RowKit
attribute [local go_sem] Fl.dv
theorem Fl.make7_any (s : Bool) (v : Nat) (x : Int) (w : World) (hv : (Na.limbs v).length ≤ 1000) (hx : -9223372036854775808 ≤ x ∧ x ≤ 9223372036854775807) :
    Calls Tryz.prog 24 #[.bool s, .string ⟨(Lib.decDigits v).toArray⟩, .int .i64 x] w (RetB (.tuple #[Fl.dv (Dc.mk s (Lib.decDigits v) x), .int .i64 (Dc.mk s (Lib.decDigits v) x).e]) w) := by
  have h1 := dec_len_le (Na.limbs v) (Na.ok_limbs v)
  rw [Na.val_limbs] at h1
  exact r7_make_any s ⟨(Lib.decDigits v).toArray⟩ x w (by rw [size_mk]; omega) hx
theorem Fl.digits1_any (a : Option Addr) (c v : Nat) (w : World) (hs : Sl w a c (Na.limbs v)) (hz : a = none → c = 0) (hv : (Na.limbs v).length ≤ 1000) :
    Calls Tryz.prog 87 #[.slice a (Na.limbs v).length c] w (RetB (.string ⟨(Lib.decDigits v).toArray⟩) w) := by
  have := r1_digits_any a c (Na.limbs v) w hs hz (by omega)
  rwa [Na.val_limbs] at this
theorem r9_of_up (s : Bool) (a : Option Addr) (c n k : Nat) (w : World) (h : Sl w a c (Na.limbs n)) (hz : a = none → c = 0) (hn : n < Na.B ^ 2) (hk : k ≤ 1100) :
    Calls Tryz.prog 57 #[.bool s, .slice a (Na.limbs n).length c, .int .i64 k] w (RetB (Fl.dv (Fl.of s n k)) w) := by
  have hof : Fl.of s n k = Dc.mk s (Lib.decDigits (n * 2 ^ k)) 0 := by rw [Fl.of, if_pos (by omega), Int.toNat_natCast]
  have hln := Fl.len2 hn
  have hl := Fl.len_mul_pow n 2 k hn (by decide) (by omega)
  have hup := fun wr (hb : Below w.heap.size w wr) => r3_up_any a c (Na.limbs n) k wr (h.on hb) hz (by omega) (by omega)
  rw [Na.val_limbs] at hup
  rw [hof]
  obtain ⟨v, hv⟩ : ∃ v, v = n * 2 ^ k := ⟨_, rfl⟩
  rw [← hv] at hup hl ⊢
  have HD := Lib.hid (fun w1 a1 c1 (hs : Sl w1 a1 c1 (Na.limbs v)) (hz : a1 = none → c1 = 0) => Fl.digits1_any a1 c1 v w1 hs hz (by omega))
  have HM := Lib.hid (fun w1 => Fl.make7_any s v 0 w1 (by omega) (by omega))
  have HS := Lib.hid hup
  obtain ⟨S, hS⟩ : ∃ S : ByteArray, S = ⟨(Lib.decDigits v).toArray⟩ := ⟨_, rfl⟩
  obtain ⟨R, hR⟩ : ∃ R, R = Dc.mk s (Lib.decDigits v) 0 := ⟨_, rfl⟩
  rw [← hS] at HD HM
  rw [← hR] at HM ⊢
  clear hv hof hS hR hup
  go_enter Tryz.func57, Tryz.ntmps57
  go_wp2_with (first
    | (go_at_call 54; (with_reducible refine (HS.out _ ?_).mono ?_); exact (Below.refl _ _).alloc (Nat.le_refl _) _; rintro e w1 ⟨a1, c1, rfl, s1, z1, -, hb1⟩; have zz1 := (Z3.new w).on hb1; have hB1 : Below w.heap.size w w1 := Below.trans ((Below.refl _ _).alloc (Nat.le_refl _) _) (hb1.mono (by simp)))
    | (go_at_call 87; (with_reducible refine (HD.out _ _ _ s1 z1).mono ?_); rintro e w2 ⟨rfl, hb2⟩; have zz2 := zz1.on hb2; have hB2 := hB1.trans (hb2.mono hB1.size))
    | (go_at_call 24; (with_reducible refine (HM.out _).mono ?_); rintro e w3 ⟨rfl, hb3⟩; have hB3 := hB2.trans (hb3.mono hB2.size); have zz3 := zz2.on hb3; obtain ⟨y0, y1, y2, yf, yl⟩ := zz3; have yf0 := yf 0; have yf1 := yf 1; have yf2 := yf 2; have yn : ¬ w.heap.size = w3.heap.size := (by omega); have yn' : ¬ w3.heap.size = w.heap.size := (by omega)))
  refine bodyPost_ret (v := Fl.dv R) (by simp [results, Tryz.results57, go_sem, y0, y1, y2, yf0, yf1, yf2, yn, yn', yl]; done) rfl (RetB.of rfl (by (repeat (first | exact Below.refl _ _ | assumption | refine Below.setCell ?_ (by first | omega | (simp <;> omega)) _ | refine Below.alloc ?_ (by first | omega | (simp <;> omega)) _ | refine Below.drew ?_ | refine below_drewN' ?_ _))))
def halfLoop9 (n k : Nat) (w : World) (nv ev : Value) (wr : World) : Prop := ∃ (m j : Nat) (z : Int) (a : Option Addr) (c : Nat), nv = .slice a (Na.limbs m).length c ∧ ev = .int .i64 z ∧ Hid (z = -(j : Int)) ∧ j ≤ k ∧ m < Na.B ^ 2 ∧ Hid (Fl.halve k n = Fl.halve j m) ∧ Hid (Sl wr a c (Na.limbs m)) ∧ Hid (a = none → c = 0) ∧ Hid (Z3 wr w.heap.size) ∧ Hid (Below w.heap.size w wr)
theorem lit_two (w : World) : Sl (w.alloc (Obj.cells #[Value.int IntKind.u32 2] 81)) (some ⟨w.heap.size, 0, none⟩) 1 [2] := lit_sl w 2 (by decide)
theorem Na.bit0 (m : Nat) : Na.bit m 0 = decide (m % 2 = 1) := by rw [Na.bit, Nat.pow_zero, Nat.div_one]
theorem r9_of_down (s : Bool) (a : Option Addr) (c n k : Nat) (w : World) (h : Sl w a c (Na.limbs n)) (hz : a = none → c = 0) (hn : n < Na.B ^ 2) (hk0 : 0 < k) (hk : k ≤ 1100) :
    Calls Tryz.prog 57 #[.bool s, .slice a (Na.limbs n).length c, .int .i64 (-(k : Int))] w (RetB (Fl.dv (Fl.of s n (-(k : Int)))) w) := by
  have HOF := Lib.hid (show Fl.of s n (-(k : Int)) = Dc.mk s (Lib.decDigits ((Fl.halve k n).1 * 5 ^ (Fl.halve k n).2)) (-((Fl.halve k n).2 : Int)) by
    rw [Fl.of, if_neg (by omega), Int.neg_neg, Int.toNat_natCast])
  have H := Lib.hid h; have HZA := Lib.hid hz
  have hln := Fl.len2 hn
  obtain ⟨z0, hz0⟩ : ∃ z : Int, z = -(k : Int) := ⟨_, rfl⟩
  have hneg : ¬ 0 ≤ z0 := by omega
  have HZ0 := Lib.hid hz0
  rw [← hz0]; rw [← hz0] at HOF
  clear h hz hz0
  go_enter Tryz.func57, Tryz.ntmps57
  go_wp2_with fail
  go_loopw [1, 2] (halfLoop9 n k w) (fun _ e _ => (-(intOf e)).toNat)
  case atStart => exact ⟨n, k, z0, a, c, rfl, rfl, HZ0, Nat.le_refl _, hn, Lib.hid rfl, Lib.hid (H.out.on ((Below.refl _ _).alloc (Nat.le_refl _) _)), HZA, Lib.hid (Z3.new w), Lib.hid ((Below.refl _ _).alloc (Nat.le_refl _) _)⟩
  case round =>
    clear H hln HZ0 HZA
    obtain ⟨m, j, z, a, c, rfl, rfl, HZ, hj, hm, HH, HSl, HZA, HZR, HBe⟩ := hrel
    have hml := Fl.len2 hm
    have hz := HZ.out
    have hbit := fun i => r1_bit_any a c (Na.limbs m) i wr HSl.out (by omega)
    have hbit0 := hbit 0 (by omega)
    rw [Na.val_limbs, Na.bit0] at hbit0
    clear hbit
    by_cases hgo : 0 < j ∧ m ≠ 0 ∧ m % 2 = 0
    · obtain ⟨h1, h2, h3⟩ := hgo
      obtain ⟨j, rfl⟩ : ∃ t, j = t + 1 := ⟨j - 1, by omega⟩
      have hpos : 0 < (Na.limbs m).length := (Na.limbs_head h2).1
      rw [decide_eq_false (by omega)] at hbit0
      have HBT := Lib.hid (show Calls Tryz.prog 81 #[.slice a (Na.limbs m).length c, .int .i64 0] wr (Ret0 (.bool false) wr) from hbit0)
      have hzn : z < 0 := by omega
      have hz1 : z + 1 ≤ 0 := by omega
      have hz2 : -1200 ≤ z := by omega
      have hSA : Sl (wr.alloc (.cells #[Value.int .u32 2] 81)) a c (Na.limbs m) := HSl.out.on ((Below.refl _ _).alloc (Nat.le_refl _) _)
      have hpt := r1_parts_z a c (Na.limbs m) _ _ [2] _ hSA HZA.out (lit_two wr) (fun e => by cases e) (by omega) (by simp) (by simp [Na.val])
      rw [Na.val_limbs, show Na.val [2] = 2 by simp [Na.val]] at hpt
      have HPT := Lib.hid (show Calls Tryz.prog 53 #[.slice a (Na.limbs m).length c, .slice (some ⟨wr.heap.size, 0, none⟩) 1 1] (wr.alloc (.cells #[Value.int .u32 2] 81)) (GvPz (m / 2) (m % 2) (wr.alloc (.cells #[Value.int .u32 2] 81))) from hpt)
      have HBA := Lib.hid (HBe.out.alloc HBe.out.size (.cells #[Value.int .u32 2] 81))
      have HH2 := Lib.hid (HH.out.trans (Fl.halve_yes h2 h3))
      have HZZ := Lib.hid (show z + 1 = -(j : Int) by omega)
      clear hpt hSA h2 h3 hz h1 hbit0
      go_wp2_with (first | (go_at_call 81; (with_reducible refine (HBT.out).mono ?_); rintro e w' ⟨rfl, rfl⟩) | (go_at_call 53; (with_reducible refine (HPT.out).mono ?_); rintro e w1 ⟨a1, c1, a2, c2, rfl, s1, -, z1, -, hb1⟩; have hB1 := HBA.out.trans (hb1.mono HBA.out.size)))
      go_roundw
      case rel => exact ⟨m / 2, j, z + 1, a1, c1, rfl, rfl, HZZ, by omega, by omega, HH2, Lib.hid s1, Lib.hid z1, Lib.hid ((HZR.out.alloc _).on hb1), Lib.hid hB1⟩
      case measure => simp [intOf]; omega
    · have hend : Fl.halve k n = (m, j) := by
        rw [HH.out]
        cases j with
        | zero => rfl
        | succ j => exact Fl.halve_no (by omega)
      have hsp := HOF.out
      rw [hend] at hsp
      have hz3 : -1200 ≤ z ∧ z ≤ 0 := by omega
      obtain ⟨hz3, hz4⟩ := hz3
      have hzj : -z = (j : Int) := by omega
      have hzz : -(j : Int) = z := by omega
      by_cases hm0 : m = 0
      · have hl0 : (Na.limbs m).length = 0 := by rw [hm0, Na.limbs_zero]; rfl
        have HR := Lib.hid (show Fl.of s n z0 = ⟨s, [], 0, 0⟩ by
          rw [hsp, hm0, Nat.zero_mul, show Lib.decDigits 0 = [48] by rw [Lib.decDigits, dif_pos (by decide)]; rfl]
          exact Dc.mk_zero (by decide) (by decide))
        rw [hl0, decide_eq_false (show ¬ m % 2 = 1 by omega)] at hbit0
        have HBT := Lib.hid (show Calls Tryz.prog 81 #[.slice a 0 c, .int .i64 0] wr (Ret0 (.bool false) wr) from hbit0)
        have hzc : z = 0 ∨ z < 0 := by omega
        obtain ⟨y0, y1, y2, yf, yl⟩ := HZR.out; have yf0 := yf 0; have yf1 := yf 1; have yf2 := yf 2
        have hB := HBe.out
        clear hm0 hbit0 hsp hend hz HZ HH HOF hzz hgo hm hml
        rcases hzc with hz0 | hzn
        · have hznn : ¬ z < 0 := by omega
          clear hz0
          go_wp2
          refine bodyPost_ret (v := .agg #[.bool s, .string ⟨#[]⟩, .int .i64 0]) (by simp [results, Tryz.results57, go_sem, y0, y1, y2, yf0, yf1, yf2, yl]; done) rfl (RetB.of (by rw [HR.out]; first | done | rfl) (by (repeat (first | exact Below.refl _ _ | assumption | refine Below.setCell ?_ (by first | omega | (simp <;> omega)) _ | refine Below.alloc ?_ (by first | omega | (simp <;> omega)) _ | refine Below.drew ?_ | refine below_drewN' ?_ _))))
        · go_wp2_with (first | (go_at_call 81; (with_reducible refine (HBT.out).mono ?_); rintro e w' ⟨rfl, rfl⟩))
          refine bodyPost_ret (v := .agg #[.bool s, .string ⟨#[]⟩, .int .i64 0]) (by simp [results, Tryz.results57, go_sem, y0, y1, y2, yf0, yf1, yf2, yl]; done) rfl (RetB.of (by rw [HR.out]; first | done | rfl) (by (repeat (first | exact Below.refl _ _ | assumption | refine Below.setCell ?_ (by first | omega | (simp <;> omega)) _ | refine Below.alloc ?_ (by first | omega | (simp <;> omega)) _ | refine Below.drew ?_ | refine below_drewN' ?_ _))))
      · obtain ⟨v, hv⟩ : ∃ v, v = m * 5 ^ j := ⟨_, rfl⟩
        have hl := Fl.len_mul_pow m 5 j hm (by decide) (by omega)
        have hfl := Na.limbs_len_le _ _ (Nat.lt_of_le_of_lt (Fl.pow_le_B 5 j (by decide) (by omega)) (show Na.B ^ 120 < Na.B ^ 121 from Nat.pow_lt_pow_right (by decide) (by decide)))
        have HF := Lib.hid (fun w1 => r9_fives_any j w1 (by omega))
        have HM := Lib.hid (fun w1 a1 c1 (hs : Sl w1 a c (Na.limbs m)) (hs1 : Sl w1 a1 c1 (Na.limbs (5 ^ j))) => (by
          have := r1_times_any a c (Na.limbs m) a1 c1 (Na.limbs (5 ^ j)) w1 hs hs1 (by omega) (by omega)
          rw [Na.val_limbs, Na.val_limbs, ← hv] at this
          exact this : Calls Tryz.prog 50 #[.slice a (Na.limbs m).length c, .slice a1 (Na.limbs (5 ^ j)).length c1] w1 (GivesZ (Na.limbs v) w1)))
        rw [← hv] at hl hsp
        have HD := Lib.hid (fun w1 a1 c1 (hs : Sl w1 a1 c1 (Na.limbs v)) (hz : a1 = none → c1 = 0) => Fl.digits1_any a1 c1 v w1 hs hz (by omega))
        have HMK := Lib.hid (fun w1 => Fl.make7_any s v z w1 (by omega) (by omega))
        obtain ⟨S, hS⟩ : ∃ S : ByteArray, S = ⟨(Lib.decDigits v).toArray⟩ := ⟨_, rfl⟩
        obtain ⟨R, hR⟩ : ∃ R, R = Dc.mk s (Lib.decDigits v) z := ⟨_, rfl⟩
        rw [← hS] at HD HMK
        rw [← hR] at HMK
        have HR := Lib.hid (show Fl.of s n z0 = R by rw [hsp, hR]; show Dc.mk _ _ (-(j : Int)) = _; rw [hzz])
        have hpos : 0 < (Na.limbs m).length := (Na.limbs_head hm0).1
        have hpz : (((Na.limbs m).length : Int) == 0) = false := by simp only [beq_eq_false_iff_ne, ne_eq]; omega
        have hcase : z = 0 ∨ (z < 0 ∧ m % 2 = 1) := by omega
        have HBT0 := Lib.hid hbit0
        clear hv hS hR hsp hend hz HZ HH HOF hzz hgo hfl hbit0
        rcases hcase with hz0 | ⟨hzn, hm1⟩
        · have hznn : ¬ z < 0 := by omega
          have HBT := HBT0
          clear hz0 hm0
          go_wp2_with (first
            | (go_at_call 81; (with_reducible refine (HBT.out).mono ?_); rintro e w' ⟨rfl, rfl⟩)
            | (go_at_call 88; (with_reducible refine (HF.out _).mono ?_); rintro e w1 ⟨a1, c1, rfl, s1, z1, -, hb1⟩; have hB1 := HBe.out.trans (hb1.mono HBe.out.size))
            | (go_at_call 50; (with_reducible refine (HM.out _ _ _ (HSl.out.on hb1) s1).mono ?_); rintro e w2 ⟨a2, c2, rfl, s2, z2, -, hb2⟩; have hB2 := hB1.trans (hb2.mono hB1.size))
            | (go_at_call 87; (with_reducible refine (HD.out _ _ _ s2 z2).mono ?_); rintro e w3 ⟨rfl, hb3⟩; have hB3 := hB2.trans (hb3.mono hB2.size))
            | (go_at_call 24; (with_reducible refine (HMK.out _).mono ?_); rintro e w4 ⟨rfl, hb4⟩; have hB4 := hB3.trans (hb4.mono hB3.size); have zz4 := (((HZR.out.on hb1).on hb2).on hb3).on hb4; obtain ⟨y0, y1, y2, yf, yl⟩ := zz4; have yf0 := yf 0; have yf1 := yf 1; have yf2 := yf 2; have yn : ¬ w.heap.size = w4.heap.size := (by omega); have yn' : ¬ w4.heap.size = w.heap.size := (by omega)))
          refine bodyPost_ret (v := Fl.dv R) (by simp [results, Tryz.results57, go_sem, y0, y1, y2, yf0, yf1, yf2, yn, yn', yl]; done) rfl (RetB.of (by rw [HR.out]) (by (repeat (first | exact Below.refl _ _ | assumption | refine Below.setCell ?_ (by first | omega | (simp <;> omega)) _ | refine Below.alloc ?_ (by first | omega | (simp <;> omega)) _ | refine Below.drew ?_ | refine below_drewN' ?_ _))))
        · have hb1 := HBT0.out
          rw [decide_eq_true hm1] at hb1
          have HBT := Lib.hid (show Calls Tryz.prog 81 #[.slice a (Na.limbs m).length c, .int .i64 0] wr (Ret0 (.bool true) wr) from hb1)
          clear hb1 hm1 hm0 HBT0
          go_wp2_with (first
            | (go_at_call 81; (with_reducible refine (HBT.out).mono ?_); rintro e w' ⟨rfl, rfl⟩)
            | (go_at_call 88; (with_reducible refine (HF.out _).mono ?_); rintro e w1 ⟨a1, c1, rfl, s1, z1, -, hb1⟩; have hB1 := HBe.out.trans (hb1.mono HBe.out.size))
            | (go_at_call 50; (with_reducible refine (HM.out _ _ _ (HSl.out.on hb1) s1).mono ?_); rintro e w2 ⟨a2, c2, rfl, s2, z2, -, hb2⟩; have hB2 := hB1.trans (hb2.mono hB1.size))
            | (go_at_call 87; (with_reducible refine (HD.out _ _ _ s2 z2).mono ?_); rintro e w3 ⟨rfl, hb3⟩; have hB3 := hB2.trans (hb3.mono hB2.size))
            | (go_at_call 24; (with_reducible refine (HMK.out _).mono ?_); rintro e w4 ⟨rfl, hb4⟩; have hB4 := hB3.trans (hb4.mono hB3.size); have zz4 := (((HZR.out.on hb1).on hb2).on hb3).on hb4; obtain ⟨y0, y1, y2, yf, yl⟩ := zz4; have yf0 := yf 0; have yf1 := yf 1; have yf2 := yf 2; have yn : ¬ w.heap.size = w4.heap.size := (by omega); have yn' : ¬ w4.heap.size = w.heap.size := (by omega)))
          refine bodyPost_ret (v := Fl.dv R) (by simp [results, Tryz.results57, go_sem, y0, y1, y2, yf0, yf1, yf2, yn, yn', yl]; done) rfl (RetB.of (by rw [HR.out]) (by (repeat (first | exact Below.refl _ _ | assumption | refine Below.setCell ?_ (by first | omega | (simp <;> omega)) _ | refine Below.alloc ?_ (by first | omega | (simp <;> omega)) _ | refine Below.drew ?_ | refine below_drewN' ?_ _))))
theorem r9_of_any (s : Bool) (a : Option Addr) (c n : Nat) (e : Int) (w : World) (h : Sl w a c (Na.limbs n)) (hz : a = none → c = 0) (hn : n < Na.B ^ 2) (he : -1100 ≤ e ∧ e ≤ 1100) :
    Calls Tryz.prog 57 #[.bool s, .slice a (Na.limbs n).length c, .int .i64 e] w (RetB (Fl.dv (Fl.of s n e)) w) := by
  by_cases h0 : 0 ≤ e
  · obtain ⟨k, rfl⟩ : ∃ k : Nat, e = k := ⟨e.toNat, by omega⟩
    exact r9_of_up s a c n k w h hz hn (by omega)
  · obtain ⟨k, rfl⟩ : ∃ k : Nat, e = -(k : Int) := ⟨(-e).toNat, by omega⟩
    exact r9_of_down s a c n k w h hz hn (by omega) (by omega)
end Go.Proofs.YtiglekomfgfilaaGreatDoor
