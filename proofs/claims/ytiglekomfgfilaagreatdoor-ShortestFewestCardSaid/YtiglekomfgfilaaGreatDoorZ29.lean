/- The Writer in the program: first, Dec, Fifteen. -/
import Derived.Test.YtiglekomfgfilaaGreatDoorZ28
import Derived.Test.YtiglekomfgfilaaGreatDoorZ21
import Derived.Test.YtiglekomfgfilaaGreatDoorZ5
import Derived.Test.YtiglekomfgfilaaGreatDoorZ20
import Derived.Test.YtiglekomfgfilaaGreatDoorZ7
import Derived.Deep.DeepCutAuto
import Derived.Lib.AppendIntMem
namespace Go.Proofs.YtiglekomfgfilaaGreatDoor
set_option maxRecDepth 100000
set_option maxHeartbeats 8000000
set_option linter.all false
open Go.RowKit
theorem Fl.search_some {n : Bool} {l : Dc.Bs} {X : Int} {bb k m : Nat} {r : Dc.Res} (h : Fl.tryN n l X bb m = some r) (hlast : k = 0 → r = Dc.sig n l X m 0) : Fl.search n l X bb k m = r := by
  cases k with
  | zero => rw [Fl.search]; exact (hlast rfl).symm
  | succ k => rw [Fl.search, h]
theorem Fl.search_none {n : Bool} {l : Dc.Bs} {X : Int} {bb k m : Nat} (h : Fl.tryN n l X bb m = none) : Fl.search n l X bb (k + 1) m = Fl.search n l X bb k (m + 1) := by rw [Fl.search, h]
theorem Fl.try_last {n : Bool} {l : Dc.Bs} {X : Int} {bb : Nat} (h : Fl.bits (Dc.sig n l X 17 0).l (Dc.sig n l X 17 0).x = bb) : Fl.tryN n l X bb 17 = some (Dc.sig n l X 17 0) := by
  unfold Fl.tryN
  exact if_pos (decide_eq_true h)
theorem frozen_setCells (b : Nat) (a : Addr) : ∀ (us : List Value) (o : Nat) (w : World), (w.setCells b o us).frozen? a = w.frozen? a
  | [], _, _ => rfl
  | v :: us, o, w => by rw [World.setCells, frozen_setCells b a us]; exact World.frozen?_setCell ..
theorem CF.other {w : World} {b b' : Nat} {vs : List Value} (us : List Value) (c : CF w b vs) (hne : b ≠ b') : CF (w.setCells b' 0 us) b vs :=
  ⟨c.1.other us hne, fun o => (frozen_setCells ..).trans (c.2 o)⟩
theorem Rdr.setCells {w : World} {b b' : Nat} (us : List Value) (h : Rdr w b) (hne : b ≠ b') : Rdr (w.setCells b' 0 us) b := by
  have hc : ∀ o', (w.setCells b' 0 us).cell? ⟨b, o', none⟩ = w.cell? ⟨b, o', none⟩ := fun o' => World.cell?_setCells_out _ _ _ _ _ (fun e => absurd e hne)
  exact ⟨by rw [size_setCells]; exact h.lt, fun o' => (frozen_setCells ..).trans (h.free o'), fun n h1 h2 => (h.slot n h1 h2).imp (fun s => s.same hc) (fun s => s.same hc)⟩
theorem Wtr.setCells {w : World} {v b b' : Nat} (us : List Value) (h : Wtr w v b) (hv : v ≠ b') (hb : b ≠ b') : Wtr (w.setCells b' 0 us) v b :=
  ⟨(World.cell?_setCells_out _ _ _ _ _ (fun e => absurd e hv)).trans h.cell, by rw [size_setCells]; exact h.lt, h.ne, h.rd.setCells us hb⟩
theorem Caught.setCells {w : World} {gd gv gx v b x b' : Nat} {n : Bool} {s : ByteArray} {X : Int} (us : List Value) (h : Caught w gd gv gx v b x n s X) (h1 : gd ≠ b') (h2 : gv ≠ b') (h3 : gx ≠ b') (h4 : v ≠ b') (h5 : b ≠ b') : Caught (w.setCells b' 0 us) gd gv gx v b x n s X :=
  ⟨h.cd.other us h1, h.cv.other us h2, h.cx.other us h3, h.wt.setCells us h4 h5, h.nd, h.nv, h.nx⟩
def firstLoop (gd gv gx v b x : Nat) (n : Bool) (s : ByteArray) (X : Int) (bb g6 g7 : Nat) (W : World) (iv : Value) (wr : World) : Prop :=
  ∃ m : Nat, 1 ≤ m ∧ m ≤ 17 ∧ iv = .int .i64 m ∧ Hid (Fl.short n s.data.toList X bb = Fl.search n s.data.toList X bb (17 - m) m) ∧ Hid (Caught wr gd gv gx v b x n s X) ∧ Hid (CF wr g6 (dcs false ⟨#[]⟩ 0)) ∧ Hid (∃ n1 S1 X1, CF wr g7 (dcs n1 S1 X1)) ∧ Hid (Onl b W wr)
theorem sh_first_any (gd gv gx v b x : Nat) (s : ByteArray) (X : Int) (W : World) (hx : x < 18446744073709551616) (hr : Dc.right s.data.toList X = true) (hne : s.data.toList ≠ []) (hX : -2000 ≤ X ∧ X ≤ 2000) (hC : Caught W gd gv gx v b x (Fl.neg x) s X)
    (h17 : Fl.bits (Dc.sig (Fl.neg x) s.data.toList X 17 0).l (Dc.sig (Fl.neg x) s.data.toList X 17 0).x = x % 9223372036854775808) :
    Calls Tryz.prog 29 #[.int .i64 1, .int .i64 17, .func (.func 30) #[] #[.pointer (some ⟨gd, 0, none⟩), .pointer (some ⟨gv, 0, none⟩), .pointer (some ⟨gx, 0, none⟩)]] W (RetR b (drv (Fl.short (Fl.neg x) s.data.toList X (x % 9223372036854775808))) W) := by
  have htry := fun (k : Nat) (hk : 1 ≤ k ∧ k ≤ 17) w1 (h : Caught w1 gd gv gx v b x (Fl.neg x) s X) => sh_try_any k gd gv gx v b x s X w1 hk hx hr hne hX h
  have hlast := Fl.try_last h17
  obtain ⟨n, hn⟩ : ∃ n, n = Fl.neg x := ⟨_, rfl⟩
  obtain ⟨bb, hbb⟩ : ∃ n, n = x % 9223372036854775808 := ⟨_, rfl⟩
  rw [← hn, ← hbb] at htry hlast
  rw [← hn] at hC
  rw [← hn, ← hbb]
  obtain ⟨R, hR⟩ : ∃ R, R = Fl.short n s.data.toList X bb := ⟨_, rfl⟩
  rw [← hR]
  have HR := Lib.hid hR
  have hbl := hC.wt.rd.lt
  have hb0 : Below W.heap.size W ((W.alloc (Obj.cells #[Value.bool false, Value.string ⟨#[]⟩, Value.int IntKind.i64 0] 27)).alloc (Obj.cells #[Value.bool false, Value.string ⟨#[]⟩, Value.int IntKind.i64 0] 27)) := ((Below.refl _ _).alloc (Nat.le_refl _) _).alloc (by simp) _
  have hC0 := hC.on hb0
  have f6 := (CF.new W (dcs false ⟨#[]⟩ 0) 27).alloc (.cells #[.bool false, .string ⟨#[]⟩, .int .i64 0] 27)
  have f7 : CF ((W.alloc (Obj.cells #[Value.bool false, Value.string ⟨#[]⟩, Value.int IntKind.i64 0] 27)).alloc (Obj.cells #[Value.bool false, Value.string ⟨#[]⟩, Value.int IntKind.i64 0] 27)) (W.heap.size + 1) (dcs false ⟨#[]⟩ 0) := by
    have h := CF.new (W.alloc (Obj.cells #[Value.bool false, Value.string ⟨#[]⟩, Value.int IntKind.i64 0] 27)) (dcs false ⟨#[]⟩ 0) 27
    rw [World.size_alloc] at h; exact h
  have ho0 := Onl.of hbl hb0
  have HT := Lib.hid htry; have HL := Lib.hid hlast
  have HC0 := Lib.hid hC0; have HF6 := Lib.hid f6; have HF7 : Hid (∃ n1 S1 X1, CF ((W.alloc (Obj.cells #[Value.bool false, Value.string ⟨#[]⟩, Value.int IntKind.i64 0] 27)).alloc (Obj.cells #[Value.bool false, Value.string ⟨#[]⟩, Value.int IntKind.i64 0] 27)) (W.heap.size + 1) (dcs n1 S1 X1)) := Lib.hid ⟨_, _, _, f7⟩
  have HO0 := Lib.hid ho0
  have hne7 : gd ≠ W.heap.size + 1 ∧ gv ≠ W.heap.size + 1 ∧ gx ≠ W.heap.size + 1 ∧ v ≠ W.heap.size + 1 ∧ b ≠ W.heap.size + 1 := by
    have k1 := hC.cd.1; have k2 := hC.cv.1; have k3 := hC.cx.1; have k4 := hC.wt.lt; omega
  have HNE := Lib.hid hne7
  clear hne7 htry hlast hC0 f6 f7 ho0 hb0 hC hR hr hne h17 hn hbb
  go_enter Tryz.func29, Tryz.ntmps29
  go_wp2_with fail
  obtain ⟨g6, hg6⟩ : ∃ g, g = W.heap.size := ⟨_, rfl⟩
  obtain ⟨g7, hg7⟩ : ∃ g, g = W.heap.size + 1 := ⟨_, rfl⟩
  have hgg : W.heap.size ≤ g6 ∧ W.heap.size ≤ g7 ∧ g6 ≠ b ∧ g7 ≠ b ∧ g6 ≠ g7 := by omega
  rw [← hg7] at HF7 HNE
  rw [← hg6] at HF6
  rw [← hg7, ← hg6]
  clear hg6 hg7
  obtain ⟨gq1, gq2, gq3, gq4, gq5⟩ := hgg
  go_loopw [8] (firstLoop gd gv gx v b x n s X bb g6 g7 W) (fun iv _ => 18 - (intOf iv).toNat)
  case atStart => exact ⟨1, by omega, by omega, rfl, Lib.hid rfl, HC0, HF6, HF7, HO0⟩
  case round =>
    clear HC0 HF6 HF7 HO0
    obtain ⟨m, hm1, hm2, rfl, HS, HC, HF6, HF7, HO⟩ := hrel
    have hgd7 : gd ≠ g7 ∧ gv ≠ g7 ∧ gx ≠ g7 ∧ v ≠ g7 ∧ b ≠ g7 := HNE.out
    have ht := HT.out m ⟨hm1, hm2⟩
    obtain ⟨n1, S1, X1, f7⟩ := HF7.out
    cases hq : Fl.tryN n s.data.toList X bb m with
    | some r =>
      have he : R = r := by
        rw [HR.out, HS.out]
        refine Fl.search_some hq fun h0 => ?_
        have hm17 : m = 17 := by omega
        subst hm17
        have hq' := HL.out
        rw [hq] at hq'
        exact Option.some.inj hq'
      rw [Fl.tryV, hq] at ht
      simp only at ht
      have HE := Lib.hid he
      clear he
      obtain ⟨rn, hrn⟩ : ∃ q, q = r.n := ⟨_, rfl⟩
      obtain ⟨rS, hrS⟩ : ∃ q : ByteArray, q = ⟨r.l.toArray⟩ := ⟨_, rfl⟩
      obtain ⟨rX, hrX⟩ : ∃ q, q = r.x := ⟨_, rfl⟩
      unfold drv dag at ht
      rw [← hrn, ← hrS, ← hrX] at ht
      have HV := Lib.hid (show drv R = .agg #[.bool rn, .string rS, .int .i64 rX] by rw [HE.out, drv, dag, hrn, hrS, hrX])
      clear hrn hrS hrX
      have HTM := Lib.hid ht
      have hgdl := HC.out.cd.1; have hgvl := HC.out.cv.1; have hgxl := HC.out.cx.1; have hvl := HC.out.wt.lt
      clear ht hq
      go_upto_region 7 with (first
        | (go_at_call 30; (with_reducible refine (HTM.out _ HC.out).mono ?_); rintro e w2 ⟨rfl, ho2, rd2⟩; have C2 := (HC.out.onl ho2 rd2).on ((Below.refl w2.heap.size w2).alloc (Nat.le_refl _) (.cells #[.bool rn, .string rS, .int .i64 rX] 27)); have f62 := (HF6.out.onl ho2 gq3).alloc (.cells #[.bool rn, .string rS, .int .i64 rX] 27); have f72 := (f7.onl ho2 gq4).alloc (.cells #[.bool rn, .string rS, .int .i64 rX] 27); have o2 := (HO.out.trans ho2).more hbl ((Below.refl w2.heap.size w2).alloc (Nat.le_refl _) (.cells #[.bool rn, .string rS, .int .i64 rX] 27)); have fz0 := f72.2 0; have fz1 := f72.2 1; have fz2 := f72.2 2; have fl := f72.1.1; have fr0 := f72.1.get 0 rfl; have fr1 := f72.1.get 1 rfl; have fr2 := f72.1.get 2 rfl; have w2z := ho2.size))
      obtain ⟨Y, hY⟩ : ∃ Y, Y = (w2.alloc (.cells #[.bool rn, .string rS, .int .i64 rX] 27)).setCells g7 0 (dcs rn rS rX) := ⟨_, rfl⟩
      change Code.wp _ _ _ _ ((w2.alloc (.cells #[.bool rn, .string rS, .int .i64 rX] 27)).setCells g7 0 (dcs rn rS rX))
      rw [← hY]
      have D7 : CF Y g7 (dcs rn rS rX) := by rw [hY]; exact f72.stored _ rfl
      have D6 : CF Y g6 (dcs false ⟨#[]⟩ 0) := by rw [hY]; exact f62.other _ gq5
      have CY : Caught Y gd gv gx v b x n s X := by rw [hY]; exact C2.setCells _ (by omega) (by omega) (by omega) (by omega) (by omega)
      have OY : Onl b W Y := by rw [hY]; exact o2.own (below_setCells gq2 _ _ (Below.refl _ _)) hbl
      have h70 := D7.1.get 0 rfl; have h71 := D7.1.get 1 rfl; have h72 := D7.1.get 2 rfl; have h7l := D7.1.1
      have h60 := D6.1.get 0 rfl; have h61 := D6.1.get 1 rfl; have h62 := D6.1.get 2 rfl; have h6l := D6.1.1; have h6f0 := D6.2 0; have h6f1 := D6.2 1; have h6f2 := D6.2 2
      have HD7 := Lib.hid D7; have HD6 := Lib.hid D6; have HCY := Lib.hid CY; have HOY := Lib.hid OY
      clear hY D7 D6 CY OY fz0 fz1 fz2 fl fr0 fr1 fr2 f72 f62 o2 C2 ho2 rd2 f7
      go_wp2_with fail
      obtain ⟨Z, hZ⟩ : ∃ Z, Z = Y.setCells g6 0 (dcs rn rS rX) := ⟨_, rfl⟩
      change bodyPost _ _ _ _ _ (Y.setCells g6 0 (dcs rn rS rX))
      rw [← hZ]
      have D : Cs Z g6 (dcs rn rS rX) := by rw [hZ]; exact Cs.stored _ HD6.out.1 rfl
      have bZ : Below W.heap.size Y Z := by rw [hZ]; exact below_setCells gq1 _ _ (Below.refl _ _)
      have u0 := D.get 0 rfl; have u1 := D.get 1 rfl; have u2 := D.get 2 rfl; have ul := D.1
      refine bodyPost_ret (v := .agg #[.bool rn, .string rS, .int .i64 rX]) (by (simp [results, Tryz.results29, go_sem, u0, u1, u2]; done)) rfl ⟨by rw [HV.out], HOY.out.own bZ hbl, HCY.out.wt.rd.below bZ hbl⟩
    | none =>
      have hm16 : m < 17 := by
        rcases Nat.lt_or_ge m 17 with h | h
        · exact h
        · exfalso
          have hm17 : m = 17 := by omega
          subst hm17
          have hq' := HL.out
          rw [hq] at hq'; cases hq'
      have hs2 : Fl.short n s.data.toList X bb = Fl.search n s.data.toList X bb (17 - (m + 1)) (m + 1) := by
        rw [HS.out, show 17 - m = (17 - (m + 1)) + 1 by omega]
        exact Fl.search_none hq
      have HS2 := Lib.hid hs2
      rw [Fl.tryV, hq] at ht
      simp only at ht
      clear hs2
      obtain ⟨rn, hrn⟩ : ∃ q, q = (Dc.sig n s.data.toList X m 0).n := ⟨_, rfl⟩
      obtain ⟨rS, hrS⟩ : ∃ q : ByteArray, q = ⟨(Dc.sig n s.data.toList X m 0).l.toArray⟩ := ⟨_, rfl⟩
      obtain ⟨rX, hrX⟩ : ∃ q, q = (Dc.sig n s.data.toList X m 0).x := ⟨_, rfl⟩
      unfold drv dag at ht
      rw [← hrn, ← hrS, ← hrX] at ht
      clear hrn hrS hrX
      have HTM := Lib.hid ht
      have hgdl := HC.out.cd.1; have hgvl := HC.out.cv.1; have hgxl := HC.out.cx.1; have hvl := HC.out.wt.lt
      clear ht hq
      go_upto_region 7 with (first
        | (go_at_call 30; (with_reducible refine (HTM.out _ HC.out).mono ?_); rintro e w2 ⟨rfl, ho2, rd2⟩; have C2 := (HC.out.onl ho2 rd2).on ((Below.refl w2.heap.size w2).alloc (Nat.le_refl _) (.cells #[.bool rn, .string rS, .int .i64 rX] 27)); have f62 := (HF6.out.onl ho2 gq3).alloc (.cells #[.bool rn, .string rS, .int .i64 rX] 27); have f72 := (f7.onl ho2 gq4).alloc (.cells #[.bool rn, .string rS, .int .i64 rX] 27); have o2 := (HO.out.trans ho2).more hbl ((Below.refl w2.heap.size w2).alloc (Nat.le_refl _) (.cells #[.bool rn, .string rS, .int .i64 rX] 27)); have fz0 := f72.2 0; have fz1 := f72.2 1; have fz2 := f72.2 2; have fl := f72.1.1; have fr0 := f72.1.get 0 rfl; have fr1 := f72.1.get 1 rfl; have fr2 := f72.1.get 2 rfl; have w2z := ho2.size))
      obtain ⟨Y, hY⟩ : ∃ Y, Y = (w2.alloc (.cells #[.bool rn, .string rS, .int .i64 rX] 27)).setCells g7 0 (dcs rn rS rX) := ⟨_, rfl⟩
      change Code.wp _ _ _ _ ((w2.alloc (.cells #[.bool rn, .string rS, .int .i64 rX] 27)).setCells g7 0 (dcs rn rS rX))
      rw [← hY]
      have D7 : CF Y g7 (dcs rn rS rX) := by rw [hY]; exact f72.stored _ rfl
      have D6 : CF Y g6 (dcs false ⟨#[]⟩ 0) := by rw [hY]; exact f62.other _ gq5
      have CY : Caught Y gd gv gx v b x n s X := by rw [hY]; exact C2.setCells _ (by omega) (by omega) (by omega) (by omega) (by omega)
      have OY : Onl b W Y := by rw [hY]; exact o2.own (below_setCells gq2 _ _ (Below.refl _ _)) hbl
      have h70 := D7.1.get 0 rfl; have h71 := D7.1.get 1 rfl; have h72 := D7.1.get 2 rfl; have h7l := D7.1.1
      have h60 := D6.1.get 0 rfl; have h61 := D6.1.get 1 rfl; have h62 := D6.1.get 2 rfl; have h6l := D6.1.1; have h6f0 := D6.2 0; have h6f1 := D6.2 1; have h6f2 := D6.2 2
      have HD7 := Lib.hid D7; have HD6 := Lib.hid D6; have HCY := Lib.hid CY; have HOY := Lib.hid OY
      clear hY D7 D6 CY OY fz0 fz1 fz2 fl fr0 fr1 fr2 f72 f62 o2 C2 ho2 rd2 f7
      go_wp2_with fail
      go_roundw
      case rel => exact ⟨m + 1, by omega, by omega, by go_num, HS2, HCY, HD6, Lib.hid ⟨rn, rS, rX, HD7.out⟩, HOY⟩
      case measure => simp [intOf]; omega
end Go.Proofs.YtiglekomfgfilaaGreatDoor

/- The Writer in the program: Dec, Fifteen. -/
namespace Go.Proofs.YtiglekomfgfilaaGreatDoor
set_option maxRecDepth 100000
set_option maxHeartbeats 8000000
set_option linter.all false
open Go.RowKit
theorem drv_val (r : Dc.Res) : r.val = .tuple #[drv r, .int .i64 r.e] := rfl
theorem sh_dec_end (v b x : Nat) (W : World) (ht : Tab W) (hx : x < 18446744073709551616) (hW : Wtr W v b) (hc : 3 ≤ Fl.kind x ∨ (Fl.kind x < 3 ∧ (Fl.dec x).l = [])) :
    Calls Tryz.prog 10 #[.pointer (some ⟨v, 0, none⟩), .int .u64 x] W (RetR b (.tuple #[drv (Fl.wdec x), .int .i64 (Fl.wdec x).e]) W) := by
  have hv : Fl.wdec x = Fl.dec x := by
    rcases hc with h | ⟨h, h2⟩
    · rw [Fl.wdec, if_pos h, Fl.dec, if_pos h]
    · rw [Fl.wdec, if_neg (by omega), if_pos h2]
  rw [hv]
  have hd := fun w1 (hb : Below W.heap.size W w1) => ex_dec_any x hx w1 (ht.below hb)
  rw [drv_val] at hd
  have hce : (Fl.dec x).e = 11 ∨ ((Fl.dec x).e = 0 ∧ (⟨(Fl.dec x).l.toArray⟩ : ByteArray).toList.isEmpty = true) := by
    rcases hc with h | ⟨h, h2⟩
    · left; rw [Fl.dec, if_pos h]
    · right; exact ⟨(Fl.decx_fine x h).1, by rw [h2]; exact isEmpty_of_zero (by decide)⟩
  rcases hq : Fl.dec x with ⟨n, l, X, e⟩
  rw [hq] at hd hce
  simp only at hce
  unfold drv dag at hd ⊢
  simp only at hd ⊢
  obtain ⟨S, hS⟩ : ∃ S : ByteArray, S = ⟨l.toArray⟩ := ⟨_, rfl⟩
  rw [← hS] at hd hce ⊢
  have hbl := hW.rd.lt
  have hbox : Below W.heap.size W (((W.alloc (Obj.cells #[.pointer (some ⟨v, 0, none⟩)] 24)).alloc (Obj.cells #[.int .u64 x] 22)).alloc (Obj.cells #[.bool false, .string ⟨#[]⟩, .int .i64 0] 27)) := (((Below.refl _ _).alloc (Nat.le_refl _) _).alloc (by simp) _).alloc (by simp; omega) _
  have f4 : CF (((W.alloc (Obj.cells #[.pointer (some ⟨v, 0, none⟩)] 24)).alloc (Obj.cells #[.int .u64 x] 22)).alloc (Obj.cells #[.bool false, .string ⟨#[]⟩, .int .i64 0] 27)) (W.heap.size + 1 + 1) (dcs false ⟨#[]⟩ 0) := by
    have h := CF.new ((W.alloc (Obj.cells #[.pointer (some ⟨v, 0, none⟩)] 24)).alloc (Obj.cells #[.int .u64 x] 22)) (dcs false ⟨#[]⟩ 0) 27
    rw [World.size_alloc, World.size_alloc] at h; exact h
  have x3 : Cs (((W.alloc (Obj.cells #[.pointer (some ⟨v, 0, none⟩)] 24)).alloc (Obj.cells #[.int .u64 x] 22)).alloc (Obj.cells #[.bool false, .string ⟨#[]⟩, .int .i64 0] 27)) (W.heap.size + 1) [.int .u64 x] := by
    have h := Cs.new (W.alloc (Obj.cells #[.pointer (some ⟨v, 0, none⟩)] 24)) [.int .u64 x] 22
    rw [World.size_alloc] at h; exact h.alloc _
  have HD := Lib.hid hd
  have HF := Lib.hid (fun w' (h : Below W.heap.size W w') => (⟨hW.rd.onl h, hW.rd.on h⟩ : Onl b W w' ∧ Rdr w' b))
  have hfin : ∀ w1, Below W.heap.size W w1 → CF w1 (W.heap.size + 1 + 1) (dcs false ⟨#[]⟩ 0) → RetR b (.tuple #[.agg #[.bool n, .string S, .int .i64 X], .int .i64 e]) W (.returned (.tuple #[.agg #[.bool n, .string S, .int .i64 X], .int .i64 e])) (w1.setCells (W.heap.size + 1 + 1) 0 (dcs n S X)) ∧ Cs (w1.setCells (W.heap.size + 1 + 1) 0 (dcs n S X)) (W.heap.size + 1 + 1) (dcs n S X) := fun w1 h1 h2 =>
    ⟨⟨rfl, HF.out _ (below_setCells (by omega) _ _ h1)⟩, Cs.stored _ h2.1 rfl⟩
  have HFIN := Lib.hid hfin
  have x30 := x3.get 0 rfl; have x3l := x3.1
  clear hfin hd hS hq hv hW
  have hcc : e = 11 ∨ e = 0 ∧ S.toList.isEmpty = true := hce
  clear hce hc
  rcases hcc with rfl | ⟨rfl, c⟩
  all_goals (
    go_enter Tryz.func10, Tryz.ntmps10
    go_upto_region 3 with (first
      | (go_at_call 28; (with_reducible refine (HD.out _ hbox).mono ?_); rintro e w1 ⟨rfl, hb1⟩; have hB1 := hbox.trans (hb1.mono hbox.size); have f1 := f4.on hb1; have hz1 := hB1.size))
    have hBY : Below W.heap.size W (w1.alloc (.cells #[.bool n, .string S, .int .i64 X] 27)) := hB1.alloc hz1 _
    have fY := f1.alloc (.cells #[.bool n, .string S, .int .i64 X] 27)
    have dY := Cs.new w1 (dcs n S X) 27
    change Cs (w1.alloc (.cells #[.bool n, .string S, .int .i64 X] 27)) _ _ at dY
    obtain ⟨V, hV⟩ : ∃ V, V = w1.alloc (.cells #[.bool n, .string S, .int .i64 X] 27) := ⟨_, rfl⟩
    rw [← hV] at hBY fY dY ⊢
    obtain ⟨g4, hg4⟩ : ∃ g, g = W.heap.size + 1 + 1 := ⟨_, rfl⟩
    obtain ⟨hr, D⟩ := HFIN.out _ hBY (by rw [← hg4] at fY ⊢; exact fY)
    rw [← hg4] at hr D fY ⊢
    have r0 := fY.1.get 0 rfl; have r1 := fY.1.get 1 rfl; have r2 := fY.1.get 2 rfl; have rl := fY.1.1; have z0 := fY.2 0; have z1 := fY.2 1; have z2 := fY.2 2
    have y0 := dY.get 0 rfl; have y1 := dY.get 1 rfl; have y2 := dY.get 2 rfl; have yl := dY.1
    have HR := Lib.hid hr; have HD2 := Lib.hid D
    clear hr D fY dY hBY hB1 hb1 f1 hz1 f4 hbox hV hg4 x30 x3l x3
    go_wp2_with fail
    have u0 := HD2.out.get 0 rfl; have u1 := HD2.out.get 1 rfl; have u2 := HD2.out.get 2 rfl; have ul := HD2.out.1
    have hr := HR.out
    obtain ⟨Z, hZ⟩ : ∃ Z, Z = V.setCells g4 0 (dcs n S X) := ⟨_, rfl⟩
    change bodyPost _ _ _ _ _ (V.setCells g4 0 (dcs n S X))
    rw [← hZ] at u0 u1 u2 ul hr ⊢
    clear hZ
    refine bodyPost_ret (v := .tuple #[.agg #[.bool n, .string S, .int .i64 X], .int .i64 _]) (by (simp [results, Tryz.results10, go_sem, u0, u1, u2]; done)) rfl hr)
end Go.Proofs.YtiglekomfgfilaaGreatDoor

/- The Writer in the program: Dec of a number that is not nought; Dec whole; Fifteen. -/
namespace Go.Proofs.YtiglekomfgfilaaGreatDoor
set_option maxRecDepth 100000
set_option maxHeartbeats 8000000
set_option linter.all false
open Go.RowKit
theorem sh_dec_full (v b x : Nat) (W : World) (ht : Tab W) (hx : x < 18446744073709551616) (hW : Wtr W v b) (hk : Fl.kind x < 3) (hne : (Fl.dec x).l ≠ []) :
    Calls Tryz.prog 10 #[.pointer (some ⟨v, 0, none⟩), .int .u64 x] W (RetR b (.tuple #[drv (Fl.wdec x), .int .i64 (Fl.wdec x).e]) W) := by
  obtain ⟨d1, d2, d3, d4, d5, d6, d7⟩ := Fl.decx_fine x hk
  obtain ⟨k1, -⟩ := Fl.wdec_fine x hk
  have hv : Fl.wdec x = Fl.short (Fl.neg x) (Fl.dec x).l (Fl.dec x).x (x % 9223372036854775808) := by rw [Fl.wdec, if_neg (by omega), if_neg hne]
  rw [k1]
  have h17 := Fl.seventeen (s := Fl.neg x) (Nat.le_of_lt (Fl.V_le_inf hk)) d3 hne (by omega) d6
  have hd := fun w1 (hb : Below W.heap.size W w1) => ex_dec_any x hx w1 (ht.below hb)
  rw [drv_val] at hd
  rcases hq : Fl.dec x with ⟨n, l, X, e⟩
  rw [hq] at hd d1 d2 d3 d4 d5 h17 hne hv
  simp only at d1 d2 d3 d4 d5 h17 hne hv
  subst d1
  unfold drv dag at hd
  simp only at hd
  obtain ⟨S, hS⟩ : ∃ S : ByteArray, S = ⟨l.toArray⟩ := ⟨_, rfl⟩
  have hSl : S.data.toList = l := by rw [hS]
  rw [← hS] at hd
  rw [← hSl] at d3 h17 hne hv
  have hemp := isEmpty_of_pos (s := S) (by
    rcases Nat.eq_zero_or_pos S.size with h | h
    · exact absurd (List.eq_nil_of_length_eq_zero (by rw [bs_length]; exact h)) hne
    · exact h)
  have hfirst := fun gd gv gx w1 (h : Caught w1 gd gv gx v b x (Fl.neg x) S X) => sh_first_any gd gv gx v b x S X w1 hx d3 hne ⟨d4, d5⟩ h h17
  rw [← hv] at hfirst
  subst d2
  obtain ⟨n, hn⟩ : ∃ n, n = Fl.neg x := ⟨_, rfl⟩
  rw [← hn] at hd hfirst
  obtain ⟨rn, hrn⟩ : ∃ q, q = (Fl.wdec x).n := ⟨_, rfl⟩
  obtain ⟨rS, hrS⟩ : ∃ q : ByteArray, q = ⟨(Fl.wdec x).l.toArray⟩ := ⟨_, rfl⟩
  obtain ⟨rX, hrX⟩ : ∃ q, q = (Fl.wdec x).x := ⟨_, rfl⟩
  unfold drv dag at hfirst ⊢
  rw [← hrn, ← hrS, ← hrX] at hfirst ⊢
  have hbl := hW.rd.lt
  have hbox : Below W.heap.size W (((W.alloc (Obj.cells #[.pointer (some ⟨v, 0, none⟩)] 24)).alloc (Obj.cells #[.int .u64 x] 22)).alloc (Obj.cells #[.bool false, .string ⟨#[]⟩, .int .i64 0] 27)) := (((Below.refl _ _).alloc (Nat.le_refl _) _).alloc (by simp) _).alloc (by simp; omega) _
  have f4 : CF (((W.alloc (Obj.cells #[.pointer (some ⟨v, 0, none⟩)] 24)).alloc (Obj.cells #[.int .u64 x] 22)).alloc (Obj.cells #[.bool false, .string ⟨#[]⟩, .int .i64 0] 27)) (W.heap.size + 1 + 1) (dcs false ⟨#[]⟩ 0) := by
    have h := CF.new ((W.alloc (Obj.cells #[.pointer (some ⟨v, 0, none⟩)] 24)).alloc (Obj.cells #[.int .u64 x] 22)) (dcs false ⟨#[]⟩ 0) 27
    rw [World.size_alloc, World.size_alloc] at h; exact h
  have x3 : Cs (((W.alloc (Obj.cells #[.pointer (some ⟨v, 0, none⟩)] 24)).alloc (Obj.cells #[.int .u64 x] 22)).alloc (Obj.cells #[.bool false, .string ⟨#[]⟩, .int .i64 0] 27)) (W.heap.size + 1) [.int .u64 x] := by
    have h := Cs.new (W.alloc (Obj.cells #[.pointer (some ⟨v, 0, none⟩)] 24)) [.int .u64 x] 22
    rw [World.size_alloc] at h; exact h.alloc _
  have x2 : Cs (((W.alloc (Obj.cells #[.pointer (some ⟨v, 0, none⟩)] 24)).alloc (Obj.cells #[.int .u64 x] 22)).alloc (Obj.cells #[.bool false, .string ⟨#[]⟩, .int .i64 0] 27)) W.heap.size [.pointer (some ⟨v, 0, none⟩)] :=
    ((Cs.new W [.pointer (some ⟨v, 0, none⟩)] 24).alloc _).alloc _
  have HD := Lib.hid hd; have HFI := Lib.hid hfirst; have HW := Lib.hid hW
  have x30 := x3.get 0 rfl; have x3l := x3.1
  clear hd hfirst hW hn hrn hrS hrX hv hS hSl d3 hne h17 k1 hq d4 d5 d6 d7 ht hk
  go_enter Tryz.func10, Tryz.ntmps10
  go_upto_region 4 with (first
    | (go_at_call 28; (with_reducible refine (HD.out _ hbox).mono ?_); rintro e w1 ⟨rfl, hb1⟩; have hB1 := hbox.trans (hb1.mono hbox.size); have f1 := f4.on hb1; have c3 := x3.on hb1; have c2 := x2.on hb1; have hz1 := hB1.size; have hzz := hb1.size))
  have hz3 : W.heap.size + 3 ≤ w1.heap.size := by simpa using hzz
  have hBY : Below W.heap.size W (w1.alloc (.cells #[.bool n, .string S, .int .i64 X] 27)) := hB1.alloc hz1 _
  have fY := f1.alloc (.cells #[.bool n, .string S, .int .i64 X] 27)
  have cY : Caught (w1.alloc (.cells #[.bool n, .string S, .int .i64 X] 27)) w1.heap.size W.heap.size (W.heap.size + 1) v b x n S X :=
    ⟨Cs.new w1 (dcs n S X) 27, c2.alloc _, c3.alloc _, HW.out.on hBY, by omega, by omega, by omega⟩
  obtain ⟨V, hV⟩ : ∃ V, V = w1.alloc (.cells #[.bool n, .string S, .int .i64 X] 27) := ⟨_, rfl⟩
  rw [← hV] at hBY fY cY ⊢
  obtain ⟨g6, hg6⟩ : ∃ g, g = w1.heap.size := ⟨_, rfl⟩
  obtain ⟨g4, hg4⟩ : ∃ g, g = W.heap.size + 1 + 1 := ⟨_, rfl⟩
  obtain ⟨g3, hg3⟩ : ∃ g, g = W.heap.size + 1 := ⟨_, rfl⟩
  obtain ⟨g2, hg2⟩ : ∃ g, g = W.heap.size := ⟨_, rfl⟩
  rw [← hg6, ← hg3] at cY
  have cY : Caught V g6 g2 g3 v b x n S X := by rw [hg2]; exact cY
  rw [← hg4] at fY
  have hgg : g4 ≠ b ∧ W.heap.size ≤ g4 := by omega
  rw [← hg6, ← hg4, ← hg3, ← hg2]
  have HOV := Lib.hid (Onl.of hbl hBY)
  have HCY := Lib.hid cY; have HFY := Lib.hid fY
  clear hV hg6 hg4 hg3 hg2 hB1 hb1 f1 c3 c2 hz1 hzz hz3 hbox f4 x3 x2 x30 x3l cY fY hBY HD HW
  go_wp2_with (first
    | (go_at_call 29; (with_reducible refine (HFI.out _ _ _ _ HCY.out).mono ?_); rintro e w2 ⟨rfl, ho2, rd2⟩; have f2 := HFY.out.onl ho2 hgg.1; have r0 := f2.1.get 0 rfl; have r1 := f2.1.get 1 rfl; have r2 := f2.1.get 2 rfl; have rl := f2.1.1; have z0 := f2.2 0; have z1 := f2.2 1; have z2 := f2.2 2; have HF2 := Lib.hid f2; have HO2 := Lib.hid (HOV.out.trans ho2); have HRD := Lib.hid rd2; clear f2 ho2 rd2))
  obtain ⟨Z, hZ⟩ : ∃ Z, Z = w2.setCells g4 0 (dcs rn rS rX) := ⟨_, rfl⟩
  change bodyPost _ _ _ _ _ (w2.setCells g4 0 (dcs rn rS rX))
  have D : Cs Z g4 (dcs rn rS rX) := by rw [hZ]; exact Cs.stored _ HF2.out.1 rfl
  have bZ : Below W.heap.size w2 Z := by rw [hZ]; exact below_setCells hgg.2 _ _ (Below.refl _ _)
  rw [← hZ]
  have u0 := D.get 0 rfl; have u1 := D.get 1 rfl; have u2 := D.get 2 rfl; have ul := D.1
  refine bodyPost_ret (v := .tuple #[.agg #[.bool rn, .string rS, .int .i64 rX], .int .i64 0]) (by (simp [results, Tryz.results10, go_sem, u0, u1, u2]; done)) rfl ⟨rfl, HO2.out.own bZ hbl, HRD.out.below bZ hbl⟩
theorem sh_dec_any (v b x : Nat) (W : World) (ht : Tab W) (hx : x < 18446744073709551616) (hW : Wtr W v b) :
    Calls Tryz.prog 10 #[.pointer (some ⟨v, 0, none⟩), .int .u64 x] W (RetR b (.tuple #[drv (Fl.wdec x), .int .i64 (Fl.wdec x).e]) W) := by
  by_cases hk : 3 ≤ Fl.kind x
  · exact sh_dec_end v b x W ht hx hW (Or.inl hk)
  · by_cases hne : (Fl.dec x).l = []
    · exact sh_dec_end v b x W ht hx hW (Or.inr ⟨by omega, hne⟩)
    · exact sh_dec_full v b x W ht hx hW (by omega) hne
end Go.Proofs.YtiglekomfgfilaaGreatDoor

namespace Go.Proofs.YtiglekomfgfilaaGreatDoor
set_option maxRecDepth 100000
set_option maxHeartbeats 2000000
set_option linter.all false
open Go.RowKit
attribute [local go_sem] Dc.Res.val
theorem box3 {w w1 : World} {a b c : Value} {t : TypeId} {B : Nat} (hb : Below B (w.alloc (.cells #[a, b, c] t)) w1) (hB : w.heap.size < B) :
    w1.cell? ⟨w.heap.size, 0, none⟩ = some a ∧ w1.cell? ⟨w.heap.size, 1, none⟩ = some b ∧ w1.cell? ⟨w.heap.size, 2, none⟩ = some c := by
  refine ⟨?_, ?_, ?_⟩ <;> (rw [hb.cell (p := ⟨w.heap.size, _, none⟩) hB]; simp [go_sem])
theorem d_print_body (n : Bool) (s V : ByteArray) (x : Int) (w : World) (hs : s.size ≤ 1100) (hx : -100000 ≤ x ∧ x ≤ 100000) (hV : V = if n then ⟨#[45]⟩ else ⟨#[]⟩) (ht : Tab w) (hr : Dc.right s.data.toList x = true) :
    Calls Tryz.prog 42 #[.agg #[.bool n, .string s, .int .i64 x]] w (RetB (.string ⟨(Dc.body V.data.toList s.data.toList ((s.size : Int) + x)).toArray⟩) w) := by
  have hright := fun w => d_right_any n s x w (by omega)
  rw [hr] at hright
  have hpt := fun w => d_point_any n s x w (by omega)
  have hpe : Dc.point s.data.toList x = (s.size : Int) + x := by rw [Dc.point_eq, if_pos hr]
  rw [hpe] at hpt
  obtain ⟨p, hp⟩ : ∃ p, p = (s.size : Int) + x := ⟨_, rfl⟩
  obtain ⟨r, hrr⟩ : ∃ r : ByteArray, r = ⟨(Dc.body V.data.toList s.data.toList p).toArray⟩ := ⟨_, rfl⟩
  have hpb : -100000 ≤ p ∧ p ≤ 110000 := by omega
  rw [← hp, ← hrr]
  rw [← hp] at hpt
  obtain ⟨hp1, hp2⟩ := hpb
  have hVs : V.size ≤ 1 := by rw [hV]; cases n <;> decide
  have hb0 : Below w.heap.size w (w.alloc (.cells #[.bool n, .string s, .int .i64 x] 27)) := (Below.refl _ _).alloc (Nat.le_refl _) _
  have HB0 := Lib.hid hb0; have HRT := Lib.hid hright; have HPT := Lib.hid hpt; have HRR := Lib.hid hrr; have HVV := Lib.hid hV; have HT := Lib.hid ht
  clear hb0 hright hpt hrr hV hr hp hpe hx ht
  go_enter Tryz.func42, Tryz.ntmps42
  go_upto_if 10 with (go_at_call 20; (with_reducible refine (HRT.out _).mono ?_); rintro e w1 ⟨rfl, hb_w1⟩; have hB_w1 : Below (w.alloc (.cells #[.bool n, .string s, .int .i64 x] 27)).heap.size (w.alloc (.cells #[.bool n, .string s, .int .i64 x] 27)) w1 := Below.trans (by (repeat (first | exact Below.refl _ _ | assumption | refine Below.setCell ?_ (by first | omega | (simp <;> omega)) _ | refine Below.alloc ?_ (by first | omega | (simp <;> omega)) _ | refine Below.drew ?_ | refine below_drewN' ?_ _))) (hb_w1.mono (by first | omega | (simp <;> omega))); obtain ⟨hc_w1, hf_w1⟩ := bcell hb_w1; have hz_w1 := hb_w1.size; (try simp only [zD, zN, zA, zS] at hz_w1); have hk := own6 hb_w1 (w.heap.size) (by (try simp only [zD, zN, zA, zS]); omega); obtain ⟨hl0_w1, hm0_w1, hn0_w1, hq0_w1, hr0_w1, hg0_w1⟩ := hk)
  go_cut [3] (fun a wr => a = .string V ∧ wr = w1)
  case first =>
    have hvv := HVV.out
    cases n
    · have e : V = ⟨#[]⟩ := hvv
      subst e
      go_wp2; go_meet; exact ⟨rfl, rfl⟩
    · have e : V = ⟨#[45]⟩ := hvv
      subst e
      go_wp2; go_meet; exact ⟨rfl, rfl⟩
  case rest =>
    obtain ⟨rfl, hwc⟩ := hcut
    subst hwc
    obtain ⟨k0, k1, k2⟩ := box3 hB_w1 (by simp)
    go_wp2_with fail
    go_region_held3 (fun w' => w'.cell? ⟨w.heap.size, 0, none⟩ = some (.bool n) ∧ w'.cell? ⟨w.heap.size, 1, none⟩ = some (.string s) ∧ w'.cell? ⟨w.heap.size, 2, none⟩ = some (.int .i64 x)) (first | go_keep | exact box3 hB_w2 (by simp)) (first | (go_at_call 73; (with_reducible refine (HPT.out _).mono ?_); rintro e w2 ⟨rfl, hb_w2⟩; have hB_w2 : Below (w.alloc (.cells #[.bool n, .string s, .int .i64 x] 27)).heap.size (w.alloc (.cells #[.bool n, .string s, .int .i64 x] 27)) w2 := Below.trans (by (repeat (first | exact Below.refl _ _ | assumption | refine Below.setCell ?_ (by first | omega | (simp <;> omega)) _ | refine Below.alloc ?_ (by first | omega | (simp <;> omega)) _ | refine Below.drew ?_ | refine below_drewN' ?_ _))) (hb_w2.mono (by first | omega | (simp <;> omega))); obtain ⟨hc_w2, hf_w2⟩ := bcell hb_w2; have hz_w2 := hb_w2.size; (try simp only [zD, zN, zA, zS] at hz_w2); have hk := own6 hb_w2 (w.heap.size) (by (try simp only [zD, zN, zA, zS]); omega); obtain ⟨hl0_w2, hm0_w2, hn0_w2, hq0_w2, hr0_w2, hg0_w2⟩ := hk))
    have k3 := box3 hB_w2 (by simp)
    obtain ⟨m0, m1, m2⟩ := k3
    clear k0 k1 k2
    have hBw := HB0.out.trans (hB_w2.mono (by simp))
    by_cases c0 : s.size = 0
    · have e0 : ((s.size : Int) == 0) = true := beq_iff_eq.2 (by omega)
      have hf : V ++ ⟨#[48]⟩ = r := by
        rw [HRR.out]; refine Dc.ba_eq _ _ ?_
        rw [Dc.ba_app, Dc.body, if_pos (List.length_eq_zero_iff.1 (by simpa using c0))]
      have HF := Lib.hid hf; have HC0 := Lib.hid c0; clear c0 hf
      replace c0 : s.size ≤ 0 := by have := HC0.out; omega
      go_wp2
      go_ret
      exact RetB.of (congrArg Value.string HF.out) hBw
    · have e0 : ((s.size : Int) == 0) = false := beq_eq_false_iff_ne.2 (by omega)
      have hne : s.data.toList ≠ [] := fun e => c0 (by have := congrArg List.length e; rwa [bs_length] at this)
      have hl : s.data.toList.length = s.size := bs_length s
      have hbody := HRR.out
      rw [Dc.body, if_neg hne, hl] at hbody
      have HBD := Lib.hid hbody; have HL := Lib.hid hl; clear hbody hne hl
      have hc0 : 0 < s.size := by omega
      clear c0
      by_cases c1 : 1 ≤ p ∧ p ≤ 21
      · obtain ⟨c1, c2⟩ := c1
        by_cases c3 : (s.size : Int) ≤ p
        · obtain ⟨Z, hZ⟩ : ∃ Z : ByteArray, Z = ⟨(Lib.repeatL [48] (p - s.size).toNat).toArray⟩ := ⟨_, rfl⟩
          have hzs : Z.size ≤ 21 := by rw [hZ, size_mk, Lib.repeatL_length]; simp; omega
          have hrep : ∀ w, Calls Tryz.prog 74 #[.string ⟨#[48]⟩, .int .i64 (p - s.size)] w (RetB (.string Z) w) := fun w => by rw [hZ]; exact rep0i _ w (by omega)
          have hf : V ++ s ++ Z = r := by
            rw [HBD.out, if_pos ⟨c1, c2, c3⟩]; refine Dc.ba_eq _ _ ?_
            rw [Dc.ba_app, Dc.ba_app, hZ]
          have HF := Lib.hid hf; have HP := Lib.hid hrep; clear hf hrep hZ
          have s1 : ¬ 9223372036854775807 < V.size + s.size := by omega
          have s2 : ¬ 9223372036854775807 < V.size + s.size + Z.size := by omega
          have hwr : IntKind.i64.wrap (p - s.size) = p - s.size := IntWalk.i64_in _ (by omega)
          go_wp2_with fail
          go_region_held3 (fun w' => w'.cell? ⟨w.heap.size, 0, none⟩ = some (.bool n) ∧ w'.cell? ⟨w.heap.size, 1, none⟩ = some (.string s) ∧ w'.cell? ⟨w.heap.size, 2, none⟩ = some (.int .i64 x)) (first | go_keep | exact box3 hB_w3 (by simp)) (first | (go_at_call 74; (with_reducible refine (HP.out _).mono ?_); rintro e w3 ⟨rfl, hb_w3⟩; have hB_w3 : Below (w.alloc (.cells #[.bool n, .string s, .int .i64 x] 27)).heap.size (w.alloc (.cells #[.bool n, .string s, .int .i64 x] 27)) w3 := Below.trans (by (repeat (first | exact Below.refl _ _ | assumption | refine Below.setCell ?_ (by first | omega | (simp <;> omega)) _ | refine Below.alloc ?_ (by first | omega | (simp <;> omega)) _ | refine Below.drew ?_ | refine below_drewN' ?_ _))) (hb_w3.mono (by first | omega | (simp <;> omega))); obtain ⟨hc_w3, hf_w3⟩ := bcell hb_w3; have hz_w3 := hb_w3.size; (try simp only [zD, zN, zA, zS] at hz_w3); have hk := own6 hb_w3 (w.heap.size) (by (try simp only [zD, zN, zA, zS]); omega); obtain ⟨hl0_w3, hm0_w3, hn0_w3, hq0_w3, hr0_w3, hg0_w3⟩ := hk))
          go_wp2
          go_ret
          exact RetB.of (congrArg Value.string HF.out) (HB0.out.trans (hB_w3.mono (by simp)))
        · have hK : (s.extract 0 p.toNat).data.toList = s.data.toList.take p.toNat := by rw [Lib.extract_data, List.drop_zero, Nat.sub_zero]
          have hR : (s.extract p.toNat s.size).data.toList = s.data.toList.drop p.toNat := Lib.extract_to_end s p.toNat
          obtain ⟨K, hKe⟩ : ∃ K, K = s.extract 0 p.toNat := ⟨_, rfl⟩
          obtain ⟨R, hRe⟩ : ∃ R, R = s.extract p.toNat s.size := ⟨_, rfl⟩
          have hKs : K.size ≤ 1100 := by rw [hKe, ByteArray.size_extract]; omega
          have hRs : R.size ≤ 1100 := by rw [hRe, ByteArray.size_extract]; omega
          have hsl : ∀ w : World, (Instr.slice 9 (.string s) none (some (.int .i64 p)) none).run Tryz.prog w = .ok (.string K) w := fun w => by
            rw [hKe, run_slice_string_to_if w _ s .i64 p Tryz.underlying9, if_pos (by omega)]
          have hsr : ∀ w : World, (Instr.slice 9 (.string s) (some (.int .i64 p)) none none).run Tryz.prog w = .ok (.string R) w := fun w => by
            rw [hRe, run_slice_string_from_if w _ s .i64 p Tryz.underlying9, if_pos (by omega)]
          have hf : V ++ K ++ ⟨#[46]⟩ ++ R = r := by
            rw [HBD.out, if_neg (fun h => c3 h.2.2), if_pos ⟨c1, c2⟩]; refine Dc.ba_eq _ _ ?_
            rw [Dc.ba_app, Dc.ba_app, Dc.ba_app, hKe, hRe, hK, hR]
          have HF := Lib.hid hf; clear hf hKe hRe hK hR
          have s1 : ¬ 9223372036854775807 < V.size + K.size := by omega
          have s2 : ¬ 9223372036854775807 < V.size + K.size + 1 := by omega
          have s3 : ¬ 9223372036854775807 < V.size + K.size + 1 + R.size := by omega
          go_wp2_with fail
          go_quiet (fail)
          go_wp2
          go_ret
          exact RetB.of (congrArg Value.string HF.out) (by (repeat (first | exact Below.refl _ _ | assumption | refine Below.setCell ?_ (by first | omega | (simp <;> omega)) _ | refine Below.alloc ?_ (by first | omega | (simp <;> omega)) _ | refine Below.drew ?_ | refine below_drewN' ?_ _)))
      · by_cases c2 : -5 ≤ p ∧ p ≤ 0
        · obtain ⟨c3, c4⟩ := c2
          obtain ⟨Z, hZ⟩ : ∃ Z : ByteArray, Z = ⟨(Lib.repeatL [48] (-p).toNat).toArray⟩ := ⟨_, rfl⟩
          have hzs : Z.size ≤ 21 := by rw [hZ, size_mk, Lib.repeatL_length]; simp; omega
          have hrep : ∀ w, Calls Tryz.prog 74 #[.string ⟨#[48]⟩, .int .i64 (-p)] w (RetB (.string Z) w) := fun w => by rw [hZ]; exact rep0i _ w (by omega)
          have hf : V ++ ⟨#[48, 46]⟩ ++ Z ++ s = r := by
            rw [HBD.out, if_neg (fun h => c1 ⟨h.1, h.2.1⟩), if_neg c1, if_pos ⟨c3, c4⟩]; refine Dc.ba_eq _ _ ?_
            rw [Dc.ba_app, Dc.ba_app, Dc.ba_app, hZ]
          have HF := Lib.hid hf; have HP := Lib.hid hrep; clear hf hrep hZ c1
          have s1 : ¬ 9223372036854775807 < V.size + 2 := by omega
          have s2 : ¬ 9223372036854775807 < V.size + 2 + Z.size := by omega
          have s3 : ¬ 9223372036854775807 < V.size + 2 + Z.size + s.size := by omega
          have hwr : IntKind.i64.wrap (-p) = -p := IntWalk.i64_in _ (by omega)
          go_wp2_with fail
          go_region_held3 (fun w' => w'.cell? ⟨w.heap.size, 0, none⟩ = some (.bool n) ∧ w'.cell? ⟨w.heap.size, 1, none⟩ = some (.string s) ∧ w'.cell? ⟨w.heap.size, 2, none⟩ = some (.int .i64 x)) (first | go_keep | exact box3 hB_w3 (by simp)) (first | (go_at_call 74; (with_reducible refine (HP.out _).mono ?_); rintro e w3 ⟨rfl, hb_w3⟩; have hB_w3 : Below (w.alloc (.cells #[.bool n, .string s, .int .i64 x] 27)).heap.size (w.alloc (.cells #[.bool n, .string s, .int .i64 x] 27)) w3 := Below.trans (by (repeat (first | exact Below.refl _ _ | assumption | refine Below.setCell ?_ (by first | omega | (simp <;> omega)) _ | refine Below.alloc ?_ (by first | omega | (simp <;> omega)) _ | refine Below.drew ?_ | refine below_drewN' ?_ _))) (hb_w3.mono (by first | omega | (simp <;> omega))); obtain ⟨hc_w3, hf_w3⟩ := bcell hb_w3; have hz_w3 := hb_w3.size; (try simp only [zD, zN, zA, zS] at hz_w3); have hk := own6 hb_w3 (w.heap.size) (by (try simp only [zD, zN, zA, zS]); omega); obtain ⟨hl0_w3, hm0_w3, hn0_w3, hq0_w3, hr0_w3, hg0_w3⟩ := hk))
          go_wp2
          go_ret
          exact RetB.of (congrArg Value.string HF.out) (HB0.out.trans (hB_w3.mono (by simp)))
        · have hbody := HBD.out
          rw [if_neg (fun h => c1 ⟨h.1, h.2.1⟩), if_neg c1, if_neg c2] at hbody
          have HBX := Lib.hid hbody
          have hgo : p < -5 ∨ 21 < p := by omega
          have HGO := Lib.hid hgo; clear hbody c1 c2 hgo
          obtain ⟨K, hKe⟩ : ∃ K, K = s.extract 0 1 := ⟨_, rfl⟩
          obtain ⟨R, hRe⟩ : ∃ R, R = s.extract 1 s.size := ⟨_, rfl⟩
          have hKs : K.size ≤ 1100 := by rw [hKe, ByteArray.size_extract]; omega
          have hRs : R.size ≤ 1100 := by rw [hRe, ByteArray.size_extract]; omega
          have hsl : ∀ w : World, (Instr.slice 9 (.string s) none (some (.int .i64 1)) none).run Tryz.prog w = .ok (.string K) w := fun w => by
            rw [hKe, run_slice_string_to_if w _ s .i64 1 Tryz.underlying9, if_pos (by omega)]; rfl
          have hsr : ∀ w : World, (Instr.slice 9 (.string s) (some (.int .i64 1)) none none).run Tryz.prog w = .ok (.string R) w := fun w => by
            rw [hRe, run_slice_string_from_if w _ s .i64 1 Tryz.underlying9, if_pos (by omega)]; rfl
          have hK : K.data.toList = s.data.toList.take 1 := by rw [hKe, Lib.extract_data, List.drop_zero]
          have hR : R.data.toList = s.data.toList.drop 1 := by rw [hRe]; exact Lib.extract_to_end s 1
          obtain ⟨U, hU⟩ : ∃ U : ByteArray, U = if 1 < s.size then V ++ K ++ (⟨#[46]⟩ ++ R) else V ++ K := ⟨_, rfl⟩
          have hUs : U.size ≤ 3000 := by
            have h46 : (⟨#[46]⟩ : ByteArray).size = 1 := rfl
            rw [hU]; split <;> simp only [ByteArray.size_append, h46] <;> omega
          have hUl : U.data.toList = if 1 < s.size then V.data.toList ++ s.data.toList.take 1 ++ ([46] ++ s.data.toList.drop 1) else V.data.toList ++ s.data.toList.take 1 := by
            rw [hU]
            split
            · rw [Dc.ba_app, Dc.ba_app, Dc.ba_app, hK, hR]
            · rw [Dc.ba_app, hK]
          have HUU := Lib.hid hU; have HUL := Lib.hid hUl
          clear hU hUl hKe hRe hK hR
          have s1 : ¬ 9223372036854775807 < V.size + K.size := by omega
          have s2 : ¬ 9223372036854775807 < 1 + R.size := by omega
          have s3 : ¬ 9223372036854775807 < V.size + K.size + (1 + R.size) := by omega
          have s4 : ¬ 9223372036854775807 < U.size + 2 := by omega
          have n1 : ¬ (1 ≤ p ∧ p ≤ 21) := by have := HGO.out; omega
          have n2 : ¬ (-5 ≤ p ∧ p ≤ 0) := by have := HGO.out; omega
          rcases HGO.out with hg | hg
          · obtain ⟨I, hI⟩ : ∃ I : ByteArray, I = ⟨(Lib.itoa (1 - p)).toArray⟩ := ⟨_, rfl⟩
            have hIs : I.size ≤ 30 := by rw [hI, size_mk]; exact Dc.itoa_len _ (by omega)
            have hit : ∀ w1, Below w.heap.size w w1 → Calls Tryz.prog 75 #[.int .i64 (1 - p)] w1 (RetB (.string I) w1) := fun w1 hb => by rw [hI]; exact itoa_any _ w1 (by omega) (by omega) (HT.out.on hb)
            have hf : U ++ ⟨#[101, 45]⟩ ++ I = r := by
              rw [HBX.out, if_pos (by omega)]; refine Dc.ba_eq _ _ ?_
              rw [Dc.ba_app, Dc.ba_app, hI, HUL.out]
            have HF := Lib.hid hf; have HI := Lib.hid hit; clear hf hit hI n1 n2
            have s5 : ¬ 9223372036854775807 < U.size + 2 + I.size := by omega
            go_upto_if 83 with (fail)
            go_cut [3] (fun a wr => a = .string U ∧ wr = w2)
            case first =>
              by_cases c9 : 1 < s.size
              · have hu := HUU.out; rw [if_pos c9] at hu
                have HU2 := Lib.hid hu; clear hu
                go_wp2; go_meet
                exact ⟨by rw [HU2.out], rfl⟩
              · have hu := HUU.out; rw [if_neg c9] at hu
                have HU2 := Lib.hid hu; clear hu
                go_wp2; go_meet
                exact ⟨by rw [HU2.out], rfl⟩
            case rest =>
              obtain ⟨rfl, hwc⟩ := hcut
              subst hwc
              go_wp2_with (go_at_call 75; (with_reducible refine (HI.out _ hBw).mono ?_); rintro e w5 ⟨rfl, hb_w5⟩; have hB_w5 : Below (w).heap.size (w) w5 := Below.trans (by (repeat (first | exact Below.refl _ _ | assumption | refine Below.setCell ?_ (by first | omega | (simp <;> omega)) _ | refine Below.alloc ?_ (by first | omega | (simp <;> omega)) _ | refine Below.drew ?_ | refine below_drewN' ?_ _))) (hb_w5.mono (by first | omega | (simp <;> omega))); obtain ⟨hc_w5, hf_w5⟩ := bcell hb_w5; have hz_w5 := hb_w5.size; (try simp only [zD, zN, zA, zS] at hz_w5); have hk := own6 hb_w5 (w.heap.size) (by (try simp only [zD, zN, zA, zS]); omega); obtain ⟨hl0_w5, hm0_w5, hn0_w5, hq0_w5, hr0_w5, hg0_w5⟩ := hk)
              go_ret
              exact RetB.of (congrArg Value.string HF.out) hB_w5
          · obtain ⟨I, hI⟩ : ∃ I : ByteArray, I = ⟨(Lib.itoa (p - 1)).toArray⟩ := ⟨_, rfl⟩
            have hIs : I.size ≤ 30 := by rw [hI, size_mk]; exact Dc.itoa_len _ (by omega)
            have hit : ∀ w1, Below w.heap.size w w1 → Calls Tryz.prog 75 #[.int .i64 (p - 1)] w1 (RetB (.string I) w1) := fun w1 hb => by rw [hI]; exact itoa_any _ w1 (by omega) (by omega) (HT.out.on hb)
            have hf : U ++ ⟨#[101, 43]⟩ ++ I = r := by
              rw [HBX.out, if_neg (by omega)]; refine Dc.ba_eq _ _ ?_
              rw [Dc.ba_app, Dc.ba_app, hI, HUL.out]
            have HF := Lib.hid hf; have HI := Lib.hid hit; clear hf hit hI n1 n2
            have s5 : ¬ 9223372036854775807 < U.size + 2 + I.size := by omega
            go_upto_if 83 with (fail)
            go_cut [3] (fun a wr => a = .string U ∧ wr = w2)
            case first =>
              by_cases c9 : 1 < s.size
              · have hu := HUU.out; rw [if_pos c9] at hu
                have HU2 := Lib.hid hu; clear hu
                go_wp2; go_meet
                exact ⟨by rw [HU2.out], rfl⟩
              · have hu := HUU.out; rw [if_neg c9] at hu
                have HU2 := Lib.hid hu; clear hu
                go_wp2; go_meet
                exact ⟨by rw [HU2.out], rfl⟩
            case rest =>
              obtain ⟨rfl, hwc⟩ := hcut
              subst hwc
              go_wp2_with (go_at_call 75; (with_reducible refine (HI.out _ hBw).mono ?_); rintro e w5 ⟨rfl, hb_w5⟩; have hB_w5 : Below (w).heap.size (w) w5 := Below.trans (by (repeat (first | exact Below.refl _ _ | assumption | refine Below.setCell ?_ (by first | omega | (simp <;> omega)) _ | refine Below.alloc ?_ (by first | omega | (simp <;> omega)) _ | refine Below.drew ?_ | refine below_drewN' ?_ _))) (hb_w5.mono (by first | omega | (simp <;> omega))); obtain ⟨hc_w5, hf_w5⟩ := bcell hb_w5; have hz_w5 := hb_w5.size; (try simp only [zD, zN, zA, zS] at hz_w5); have hk := own6 hb_w5 (w.heap.size) (by (try simp only [zD, zN, zA, zS]); omega); obtain ⟨hl0_w5, hm0_w5, hn0_w5, hq0_w5, hr0_w5, hg0_w5⟩ := hk)
              go_ret
              exact RetB.of (congrArg Value.string HF.out) hB_w5
theorem d_print_any (n : Bool) (s : ByteArray) (x : Int) (w : World) (hs : s.size ≤ 1000000) (hx : -9223372036854775808 ≤ x ∧ x ≤ 9223372036854775807) (ht : Tab w) :
    Calls Tryz.prog 42 #[.agg #[.bool n, .string s, .int .i64 x]] w (RetB (.string ⟨(Dc.print n s.data.toList x).toArray⟩) w) := by
  have hright := fun w => d_right_any n s x w (by omega)
  cases hr : Dc.right s.data.toList x with
  | true =>
    have hl := Dc.right_len hr
    have hxx := Dc.right_exp hr
    rw [bs_length] at hl
    have := d_print_body n s (if n then ⟨#[45]⟩ else ⟨#[]⟩) x w hl hxx rfl ht hr
    rw [Dc.print, if_pos hr, bs_length]
    cases n
    · exact this
    · exact this
  | false =>
    rw [hr] at hright
    rw [Dc.print, if_neg (by rw [hr]; simp)]
    have HR := Lib.hid hright; clear hright hr
    go_enter Tryz.func42, Tryz.ntmps42
    go_wp2_with (go_at_call 20; (with_reducible refine (HR.out _).mono ?_); rintro e w1 ⟨rfl, hb_w1⟩; have hB_w1 : Below (w).heap.size (w) w1 := Below.trans (by (repeat (first | exact Below.refl _ _ | assumption | refine Below.setCell ?_ (by first | omega | (simp <;> omega)) _ | refine Below.alloc ?_ (by first | omega | (simp <;> omega)) _ | refine Below.drew ?_ | refine below_drewN' ?_ _))) (hb_w1.mono (by first | omega | (simp <;> omega))); obtain ⟨hc_w1, hf_w1⟩ := bcell hb_w1; have hz_w1 := hb_w1.size; (try simp only [zD, zN, zA, zS] at hz_w1); have hk := own6 hb_w1 (w.heap.size) (by (try simp only [zD, zN, zA, zS]); omega); obtain ⟨hl0_w1, hm0_w1, hn0_w1, hq0_w1, hr0_w1, hg0_w1⟩ := hk)
    go_ret
    exact RetB.of rfl hB_w1
end Go.Proofs.YtiglekomfgfilaaGreatDoor
