/- What was written is read as it was; what is handed in is not changed, and shares nothing with what is answered. -/
import Derived.Test.YtcdndcbfmlnpjaaDoorL32
import Derived.Test.YtcdndcbfmlnpjaaDoorN28
import Derived.Test.YtcdndcbfmlnpjaaDoorNj
import Derived.Outline
namespace Go.Proofs.YtcdndcbfmlnpjaaDoor
set_option linter.all false
open Go.RowKit

/-- Limbs that may be written: they lie in blocks from B on, ahead of T. -/
def Nums (w : World) (B T : Nat) (a : Option Addr) (n : Nat) : Prop := 0 < n → ∃ b o, a = some ⟨b, o, none⟩ ∧ B ≤ b ∧ b < T ∧ ∀ k, k < n → w.frozen? ⟨b, o + k, none⟩ = false ∧ ∃ x : Nat, x < 4294967296 ∧ w.cell? ⟨b, o + k, none⟩ = some (.int .u32 (x : Int))
theorem Nums.of {w : World} {B : Nat} {a : Option Addr} {c : Nat} {l : List Nat} (h : Sl w a c l) (ho : Own w B a l.length) : Nums w B w.heap.size a l.length := fun h0 => by
  obtain ⟨b, o, e, hlt, hc⟩ := h.plain h0
  obtain ⟨b', o', e', hb, hf⟩ := ho h0
  rw [e] at e'
  obtain ⟨rfl, rfl⟩ : b = b' ∧ o = o' := by cases e'; exact ⟨rfl, rfl⟩
  exact ⟨b, o, e, hb, hlt, fun k hk => ⟨hf k hk, l[k], h.ok _ (List.getElem_mem hk), hc k hk⟩⟩
theorem Nums.on {w w' : World} {B T : Nat} {a : Option Addr} {n : Nat} (h : Nums w B T a n) (hb : Below T w w') : Nums w' B T a n := fun h0 => by
  obtain ⟨b, o, e, h1, h2, h3⟩ := h h0
  exact ⟨b, o, e, h1, h2, fun k hk => ⟨(hb.frozen (p := ⟨b, o + k, none⟩) h2).trans (h3 k hk).1, (h3 k hk).2.imp fun x hx => ⟨hx.1, (hb.cell (p := ⟨b, o + k, none⟩) h2).trans hx.2⟩⟩⟩
theorem Nums.mono {w : World} {B B' T T' : Nat} {a : Option Addr} {n : Nat} (h : Nums w B T a n) (hB : B' ≤ B) (hT : T ≤ T') : Nums w B' T' a n := fun h0 => by
  obtain ⟨b, o, e, h1, h2, h3⟩ := h h0
  exact ⟨b, o, e, by omega, by omega, h3⟩
theorem Nums.set {w : World} {B T : Nat} {a : Option Addr} {n : Nat} (h : Nums w B T a n) (p : Addr) (y : Nat) (hy : y < 4294967296) : Nums (w.setCell p (.int .u32 (y : Int))) B T a n := fun h0 => by
  obtain ⟨b, o, e, h1, h2, h3⟩ := h h0
  refine ⟨b, o, e, h1, h2, fun k hk => ⟨(World.frozen?_setCell _ _ _ _).trans (h3 k hk).1, ?_⟩⟩
  obtain ⟨x, hx, hc⟩ := (h3 k hk).2
  by_cases hp : p = ⟨b, o + k, none⟩
  · subst hp; exact ⟨y, hy, World.cell?_setCell_same _ _ _ hc⟩
  · exact ⟨x, hx, by rw [World.cell?_setCell_other _ _ _ _ hp]; exact hc⟩
theorem Nums.drew {w : World} {B T : Nat} {a : Option Addr} {n : Nat} (h : Nums w B T a n) : Nums w.drew B T a n := h

def GvOE (w : World) (e : Ending) (w' : World) : Prop := ∃ a n c er, e = .returned (.tuple #[.slice a n c, .int .i64 er]) ∧ n ≤ 1000000 ∧ Nums w' w.heap.size w'.heap.size a n ∧ Below w.heap.size w w'
theorem GivesE.own {q : List Nat × Int} {w w' : World} {e : Ending} (h : GivesE q w e w') (hl : q.1.length ≤ 1000000) : GvOE w e w' := by
  obtain ⟨a, c, rfl, hs, ho, hb⟩ := h
  exact ⟨a, _, c, _, rfl, hl, Nums.of hs ho, hb⟩
def GvOS (w : World) (e : Ending) (w' : World) : Prop := ∃ a n c lo er, e = .returned (.tuple #[.slice a n c, .bool lo, .int .i64 er]) ∧ n ≤ 1000000 ∧ Nums w' w.heap.size w'.heap.size a n ∧ Below w.heap.size w w'
theorem GivesS.own {q : List Nat × Bool × Int} {w w' : World} {e : Ending} (h : GivesS q w e w') (hl : q.1.length ≤ 1000000) : GvOS w e w' := by
  obtain ⟨a, c, rfl, hs, ho, hb⟩ := h
  exact ⟨a, _, c, _, _, rfl, hl, Nums.of hs ho, hb⟩
def GvOQ (w : World) (e : Ending) (w' : World) : Prop := ∃ a n c a' n' c' er, e = .returned (.tuple #[.slice a n c, .slice a' n' c', .int .i64 er]) ∧ n' ≤ 1000000 ∧ Nums w' w.heap.size w'.heap.size a' n' ∧ Below w.heap.size w w'
theorem GivesQ.own {q : List Nat × List Nat × Int} {w w' : World} {e : Ending} (h : GivesQ q w e w') (hl : q.2.1.length ≤ 1000000) : GvOQ w e w' := by
  obtain ⟨a, c, a', c', rfl, _, _, hs, ho, hb⟩ := h
  exact ⟨a, _, c, a', _, c', _, rfl, hl, Nums.of hs ho, hb⟩
def GvOT (n : Nat) (w : World) (e : Ending) (w' : World) : Prop := ∃ a, e = .returned (.slice a (Na.limbs n).length (Na.limbs n).length) ∧ Sl w' a (Na.limbs n).length (Na.limbs n) ∧ Nums w' w.heap.size w'.heap.size a (Na.limbs n).length ∧ Below w.heap.size w w'

theorem Nums.step {w w' : World} {B : Nat} {a : Option Addr} {n : Nat} (h : Nums w B w.heap.size a n) (hb : Below w.heap.size w w') : Nums w' B w'.heap.size a n := (h.on hb).mono (Nat.le_refl _) hb.size
theorem Na.add_len (l m : List Nat) : (Na.add l m).1.length ≤ 1000000 := by
  rw [Na.add]; split
  · simp
  · exact Nat.le_trans (Na.fits_len _) (by decide)
theorem Na.sub_len {l m : List Nat} (h : ∀ x, x ≤ Na.val l → (Na.limbs x).length ≤ 1000000) : (Na.sub l m).1.length ≤ 1000000 := by
  rw [Na.sub]; split
  · simp
  · split
    · simp
    · exact h _ (Nat.sub_le _ _)
theorem Na.mod_len {l m : List Nat} (h : ∀ x, x ≤ Na.val l → (Na.limbs x).length ≤ 1000000) : (Na.divMod l m).2.1.length ≤ 1000000 := by
  rw [Na.divMod]; split
  · simp
  · split
    · simp
    · exact h _ (Nat.mod_le _ _)
theorem Na.shr_len {l : List Nat} {n : Int} (h : ∀ x, x ≤ Na.val l → (Na.limbs x).length ≤ 1000000) : (Na.shr l n).1.length ≤ 1000000 := by
  rw [Na.shr]; split
  · simp
  · split
    · simp
    · exact h _ (Nat.div_le_self _ _)
theorem Na.shl_len {l : List Nat} (h : ∀ x, x ≤ Na.val l → (Na.limbs x).length ≤ 1000000) : (Na.shl l 0).1.length ≤ 1000000 := by
  rw [Na.shl]; split
  · simp
  · split
    · simp
    · split
      · simp
      · split
        · simp
        · exact h _ (by simp)

/-- The six answers' places. -/
structure Pl where
  a : Option Addr
  n : Nat
  c : Nat
def Six (w : World) (B g : Nat) (L : List Pl) : Prop := (∀ j (h : j < L.length), w.cell? ⟨g, j, none⟩ = some (.slice L[j].a L[j].n L[j].c)) ∧ (∀ j (h : j < L.length), Nums w B g L[j].a L[j].n ∧ L[j].n ≤ 1000000)
theorem Six.set {w : World} {B g : Nat} {L : List Pl} (h : Six w B g L) (b o y : Nat) (hb : b < g) (hy : y < 4294967296) : Six (w.setCell ⟨b, o, none⟩ (.int .u32 (y : Int))) B g L :=
  ⟨fun j hj => by rw [World.cell?_setCell_other _ _ _ _ (fun e => by cases e; omega)]; exact h.1 j hj, fun j hj => ⟨(h.2 j hj).1.set _ y hy, (h.2 j hj).2⟩⟩
theorem Six.drew {w : World} {B g : Nat} {L : List Pl} (h : Six w B g L) : Six w.drew B g L := h
def sixOuter (B g : Nat) (L : List Pl) (w : World) (iv : Value) (wr : World) : Prop := ∃ i : Nat, i ≤ 6 ∧ iv = .int .i64 i ∧ Hid (Six wr B g L) ∧ Hid (Below B w wr)
def sixInner (n B g : Nat) (L : List Pl) (w : World) (kv : Value) (wr : World) : Prop := ∃ k : Nat, k ≤ n ∧ kv = .int .i64 k ∧ Hid (Six wr B g L) ∧ Hid (Below B w wr)

theorem six_mk (w : World) (B : Nat) (L : List Pl) (T : TypeId) (h : ∀ p ∈ L, Nums w B w.heap.size p.a p.n ∧ p.n ≤ 1000000) : Six (w.alloc (.cells (L.map fun p => Value.slice p.a p.n p.c).toArray T)) B w.heap.size L := by
  refine ⟨fun j hj => ?_, fun j hj => ⟨((h _ (List.getElem_mem hj)).1.on ((Below.refl _ _).alloc (Nat.le_refl _) _)), (h _ (List.getElem_mem hj)).2⟩⟩
  show (match (w.heap.push _)[w.heap.size]? with | some (.cells c _ _) => if (none : Option Nat).isSome then none else c[j]? | _ => none) = _
  simp [List.getElem?_eq_getElem hj]

set_option maxRecDepth 100000 in
set_option maxHeartbeats 8000000 in
theorem l1_again_walk (a1 : Option Addr) (c1 : Nat) (L1 : List Nat) (a2 : Option Addr) (c2 : Nat) (L2 : List Nat) (w : World) (ht : Tab w) (s1 : Sl w a1 c1 L1) (s2 : Sl w a2 c2 L2) (hc1 : a1 = none → c1 = 0) (h1 : L1.length ≤ 100) (h2 : L2.length ≤ 100) :
    Calls Tryd.prog 6 #[.slice a1 L1.length c1, .slice a2 L2.length c2] w (RetB (.bool true) w) := by
  have HS := Lib.hid (l1_shown_any w ht)
  obtain ⟨n, hn⟩ : ∃ n, n = Na.val L1 := ⟨_, rfl⟩
  have hnl : n < Na.B ^ 256 := by rw [hn]; exact Nat.lt_of_lt_of_le (Na.val_lt _ s1.ok) (Na.pow_le (by omega))
  have hsp := Na.dec_spec n
  have hdl := dec_len_le L1 s1.ok
  rw [← hn] at hdl
  obtain ⟨S, hS⟩ : ∃ S : ByteArray, S = ⟨(Lib.decDigits n).toArray⟩ := ⟨_, rfl⟩
  have hSl : S.data.toList = Lib.decDigits n := by rw [hS]
  have hSs : S.size = (Lib.decDigits n).length := by rw [hS, size_mk]
  have hS0 : 0 < S.size := by rw [hSs]; exact hsp.2.2.1
  have hSe : S.size ≤ 1001 := by omega
  have HDG := Lib.hid (fun wr (hb : Below w.heap.size w wr) => (by
    have := na_digits_any a1 c1 L1 wr (s1.on hb) (by omega) (ht.below hb)
    rw [← hn, ← hS] at this; exact this : Calls Tryd.prog 19 #[.slice a1 L1.length c1] wr (RetB (.string S) wr)))
  have HPA := Lib.hid (fun wr => (by
    have := na_parse_any S wr (by omega)
    rw [hSl, Na.parse_dec hnl] at this
    exact this.mono fun _ _ hg => hg.gvl rfl : Calls Tryd.prog 20 #[.string S] wr (GvL n wr)))
  have HT := Lib.hid (fun wr (hs : Sl wr a1 c1 L1) => ((na_trim_any a1 c1 L1 wr hs (by omega)).mono fun _ _ hg => (by
    have e : Na.cut L1 = Na.limbs n := by rw [hn]; rfl
    rw [e] at hg
    obtain ⟨g, rfl, hg', hk, hb⟩ := hg
    have hs := hk.sl (Na.ok_limbs n) (Nat.le_refl _)
    exact ⟨_, rfl, hs, Nums.of hs (hk.own hg'), hb⟩ : GvOT n wr _ _) : Calls Tryd.prog 11 #[.slice a1 L1.length c1] wr (GvOT n wr)))
  have hnn : (Na.limbs n).length ≤ 1000000 := Na.len_small hnl (by omega)
  have HE := Lib.hid (same_num hnn)
  have hv1 : Na.val L1 < Na.B ^ 100 := Nat.lt_of_lt_of_le (Na.val_lt _ s1.ok) (Na.pow_le h1)
  have hsm : ∀ x : Nat, x ≤ Na.val L1 → (Na.limbs x).length ≤ 1000000 := fun x hx => Na.len_small (Nat.lt_of_le_of_lt hx hv1) (by omega)
  have HAD := Lib.hid (fun wr (hs : Sl wr a1 c1 L1) (hs' : Sl wr a2 c2 L2) => ((na_add_any a1 c1 L1 a2 c2 L2 wr hs hs' (by omega) (by omega)).mono fun _ _ hg => hg.own (Na.add_len _ _) : Calls Tryd.prog 8 #[.slice a1 L1.length c1, .slice a2 L2.length c2] wr (GvOE wr)))
  have HSU := Lib.hid (show ∀ wr, Sl wr a1 c1 L1 → Calls Tryd.prog 9 #[.slice a1 L1.length c1, .slice none 0 0] wr (GvOE wr) from fun wr hs => (na_sub_any a1 c1 L1 none 0 [] wr hs (Sl.nil _ _ _) (by omega) (by simp)).mono fun _ _ hg => hg.own (Na.sub_len hsm))
  have hSne : ¬ S = ByteArray.empty := fun e => by rw [e] at hS0; exact absurd hS0 (by decide)
  have HOK1 := Lib.hid (show Na.OK (L1 ++ [1]) from fun x hx => by
    rcases List.mem_append.1 hx with h | h
    · exact s1.ok x h
    · rw [List.mem_singleton.1 h]; decide)
  have HLL := Lib.hid (show (L1 ++ [1]).length = L1.length + 1 by simp)
  have HDM := Lib.hid (fun wr ad cc (hs : Sl wr a1 c1 L1) (hs' : Sl wr ad cc (L1 ++ [1])) => (by
    have := na_divmod_any a1 c1 L1 ad cc (L1 ++ [1]) wr hs hs' (by omega) (by rw [List.length_append]; simp; omega)
    rw [HLL.out] at this
    exact this.mono fun _ _ hg => hg.own (Na.mod_len hsm) : Calls Tryd.prog 13 #[.slice a1 L1.length c1, .slice ad (L1.length + 1) cc] wr (GvOQ wr)))
  have HSR := Lib.hid (fun wr (hs : Sl wr a1 c1 L1) => ((na_shr_any a1 c1 L1 0 wr hs (by omega) (by omega)).mono fun _ _ hg => hg.own (Na.shr_len hsm) : Calls Tryd.prog 18 #[.slice a1 L1.length c1, .int .i64 0] wr (GvOS wr)))
  have HSL := Lib.hid (fun wr (hs : Sl wr a1 c1 L1) => ((na_shl_any a1 c1 L1 0 wr hs (by omega) (by omega)).mono fun _ _ hg => hg.own (Na.shl_len hsm) : Calls Tryd.prog 17 #[.slice a1 L1.length c1, .int .i64 0] wr (GvOE wr)))
  have HSP := Lib.hid hsp; have HSl := Lib.hid hSl; have HSs := Lib.hid hSs; have HN := Lib.hid hn
  have hk0 : ∀ hh : 1 < S.size, ((S[0].toNat : Int) == 48) = false := fun hh => by
    have hne : n ≠ 0 := fun e => by have := hsp.2.2.2.2 e; omega
    have h3 := hsp.2.2.2.1 hne
    rw [← hSl, bs_getElem? S 0 hS0] at h3
    simp only [beq_eq_false_iff_ne, ne_eq]
    intro e
    apply h3
    congr 1
    apply UInt8.toNat_inj.1
    show _ = 48
    omega
  clear hn hsp hdl hS hSl hSs hnl hsm hv1
  have HS1 := Lib.hid s1
  have tok1 : True := trivial
  have tok2 : True := trivial
  have tok3 : True := trivial
  by_cases hS1 : 1 < S.size
  all_goals
    first
    | (have hk1 := hk0 hS1; clear hk0)
    | (replace hS1 : S.size ≤ 1 := (by omega); clear hk0)
    go_enter Tryd.func6, Tryd.ntmps6
    go_wp2_with (first
      | (go_at_call 7; (with_reducible refine (HS.out).mono ?_); rintro e w1 ⟨rfl, hb1⟩; have hB1 : Below w.heap.size w w1 := hb1; replace s1 := s1.on hb1; replace s2 := s2.on hb1)
      | (go_at_call 19; (with_reducible refine (HDG.out _ hB1).mono ?_); rintro e w2 ⟨rfl, hb2⟩; have hB2 : Below w.heap.size w w2 := hB1.trans (hb2.mono hB1.size); replace s1 := s1.on hb2; replace s2 := s2.on hb2)
      | (go_at_call 20; (with_reducible refine (HPA.out _).mono ?_); rintro e w3 ⟨ad_x, ca_x, rfl, sx, hb3⟩; have hB3 : Below w.heap.size w w3 := hB2.trans (hb3.mono hB2.size); replace s1 := s1.on hb3; replace s2 := s2.on hb3)
      | (go_at_call 11; have _t := tok1; (with_reducible refine (HT.out _ s1).mono ?_); rintro e w4 ⟨ad_t, rfl, stt, nt0, hb4⟩; clear _t tok1; have hB4 : Below w.heap.size w w4 := hB3.trans (hb4.mono hB3.size); replace s1 := s1.on hb4; replace s2 := s2.on hb4; replace sx := sx.on hb4)
      | (go_at_call 10; (with_reducible refine (HE.out _ _ _ _ _ sx stt).mono ?_); rintro e w5 ⟨rfl, hb5⟩; have hB5 : Below w.heap.size w w5 := hB4.trans (hb5.mono hB4.size); replace s1 := s1.on hb5; replace s2 := s2.on hb5; replace sx := sx.on hb5; replace stt := stt.on hb5)
      | (at_builtin; have _t := tok2; refine app_u32 rfl _ _ 22 Tryd.underlying22 rfl w5.heap.size _ [] rfl (Row.empty w5 (Nat.le_refl _)) a1 _ c1 L1 rfl rfl (s1.on ((Below.refl _ _).alloc (Nat.le_refl _) _)) hc1 (by simp; omega) (by simp) ?_; intro v6 w6 hr6 hg6; clear _t tok2; obtain ⟨ad6, c6, rfl, s6, o6⟩ := Row.sl (l := L1) hr6.out s1.ok; have hb6 : Below w5.heap.size w5 w6 := hg6.out _ _ ((Below.refl _ _).alloc (Nat.le_refl _) _) (Nat.le_refl _); have hB6 := hB5.trans (hb6.mono hB5.size); replace s1 := s1.on hb6; replace s2 := s2.on hb6; clear hr6 hg6)
      | (go_at_call 11; (with_reducible refine (HT.out _ s1).mono ?_); rintro e w7 ⟨ad_7, rfl, s7, n7, hb7⟩; have hB7 : Below w.heap.size w w7 := hB6.trans (hb7.mono hB6.size); have hC7 : Below w6.heap.size w6 w7 := hb7; replace s1 := s1.on hb7; replace s2 := s2.on hb7)
      | (go_at_call 8; (with_reducible refine (HAD.out _ s1 s2).mono ?_); rintro e w8 ⟨ad_8, k8, c8, er8, rfl, l8, n8, hb8⟩; have hB8 : Below w.heap.size w w8 := hB7.trans (hb8.mono hB7.size); have hC8 : Below w6.heap.size w6 w8 := hC7.trans (hb8.mono hC7.size); replace s1 := s1.on hb8; replace s2 := s2.on hb8; replace n7 := n7.step hb8)
      | (go_at_call 9; (with_reducible refine (HSU.out _ s1).mono ?_); rintro e w9 ⟨ad_9, k9, c9, er9, rfl, l9, n9, hb9⟩; have hB9 : Below w.heap.size w w9 := hB8.trans (hb9.mono hB8.size); have hC9 : Below w6.heap.size w6 w9 := hC8.trans (hb9.mono hC8.size); replace s1 := s1.on hb9; replace s2 := s2.on hb9; replace n7 := n7.step hb9; replace n8 := n8.step hb9)
      | (at_builtin; have _t := tok3; refine app_u32 rfl _ _ 22 Tryd.underlying22 rfl w9.heap.size _ [] rfl (Row.empty w9 (Nat.le_refl _)) a1 _ c1 L1 rfl rfl (s1.on ((Below.refl _ _).alloc (Nat.le_refl _) _)) hc1 (by simp; omega) (by simp) ?_; intro v10 w10 hr10 hg10; clear _t tok3; have hr10' : Row w10 w9.heap.size v10 L1 := hr10.out; have hb10 : Below w9.heap.size w9 w10 := hg10.out _ _ ((Below.refl _ _).alloc (Nat.le_refl _) _) (Nat.le_refl _); have hB10 := hB9.trans (hb10.mono hB9.size); have hC10 := hC9.trans (hb10.mono hC9.size); have s19 := s1; have s29 := s2; have n79 := n7; have n89 := n8; have n99 := n9; replace s1 := s1.on hb10; replace s2 := s2.on hb10; clear hr10 hg10)
      | (at_builtin; refine app_u32 rfl _ _ 22 Tryd.underlying22 rfl w9.heap.size _ L1 rfl (hr10'.alloc _) (some ⟨w10.heap.size, 0, none⟩) 1 1 [1] rfl rfl (one_sl w10 [1] (by decide)).1 (fun e => by cases e) (by simp; omega) (by have := hb10.size; simp; omega) ?_; intro v11 w11 hr11 hg11; obtain ⟨ad11, c11, rfl, s11, o11⟩ := Row.sl hr11.out HOK1.out; have hb11' : Below w9.heap.size w9 w11 := hg11.out _ _ (hb10.trans ((one_sl w10 [1] (by decide)).2.mono hb10.size)) (Nat.le_refl _); have hB11 := hB9.trans (hb11'.mono hB9.size); have hC11 := hC9.trans (hb11'.mono hC9.size); replace s1 := s19.on hb11'; replace s2 := s29.on hb11'; replace n7 := n79.step hb11'; replace n8 := n89.step hb11'; replace n9 := n99.step hb11'; clear hr11 hg11)
      | (go_at_call 13; (with_reducible refine (HDM.out _ _ _ s1 s11).mono ?_); rintro e w12 ⟨ad_q, kq, cq, ad_12, k12, c12, er12, rfl, l12, n12, hb12⟩; have hB12 : Below w.heap.size w w12 := hB11.trans (hb12.mono hB11.size); have hC12 : Below w6.heap.size w6 w12 := hC11.trans (hb12.mono hC11.size); replace s1 := s1.on hb12; replace s2 := s2.on hb12; replace n7 := n7.step hb12; replace n8 := n8.step hb12; replace n9 := n9.step hb12)
      | (go_at_call 18; (with_reducible refine (HSR.out _ s1).mono ?_); rintro e w13 ⟨ad_13, k13, c13, lo13, er13, rfl, l13, n13, hb13⟩; have hB13 : Below w.heap.size w w13 := hB12.trans (hb13.mono hB12.size); have hC13 : Below w6.heap.size w6 w13 := hC12.trans (hb13.mono hC12.size); replace s1 := s1.on hb13; replace s2 := s2.on hb13; replace n7 := n7.step hb13; replace n8 := n8.step hb13; replace n9 := n9.step hb13; replace n12 := n12.step hb13)
      | (go_at_call 17; (with_reducible refine (HSL.out _ s1).mono ?_); rintro e w14 ⟨ad_14, k14, c14, er14, rfl, l14, n14, hb14⟩; have hB14 : Below w.heap.size w w14 := hB13.trans (hb14.mono hB13.size); have hC14 : Below w6.heap.size w6 w14 := hC13.trans (hb14.mono hC13.size); replace s1 := s1.on hb14; replace s2 := s2.on hb14; replace n7 := n7.step hb14; replace n8 := n8.step hb14; replace n9 := n9.step hb14; replace n12 := n12.step hb14; replace n13 := n13.step hb14))
    obtain ⟨L, hL⟩ : ∃ L : List Pl, L = [⟨ad_7, (Na.limbs n).length, (Na.limbs n).length⟩, ⟨ad_8, k8, c8⟩, ⟨ad_9, k9, c9⟩, ⟨ad_12, k12, c12⟩, ⟨ad_13, k13, c13⟩, ⟨ad_14, k14, c14⟩] := ⟨_, rfl⟩
    have hL6 : L.length = 6 := by rw [hL]; rfl
    have hsix := six_mk w14 w6.heap.size L 24 (by
      intro p hp
      rw [hL] at hp
      simp only [List.mem_cons, List.not_mem_nil, or_false] at hp
      rcases hp with rfl | rfl | rfl | rfl | rfl | rfl
      · exact ⟨n7, hnn⟩
      · exact ⟨n8.mono hC7.size (Nat.le_refl _), l8⟩
      · exact ⟨n9.mono hC8.size (Nat.le_refl _), l9⟩
      · exact ⟨n12.mono hC11.size (Nat.le_refl _), l12⟩
      · exact ⟨n13.mono hC12.size (Nat.le_refl _), l13⟩
      · exact ⟨n14.mono hC13.size (Nat.le_refl _), l14⟩)
    have hbw : Below w6.heap.size w6 (w14.alloc (.cells (L.map fun p => Value.slice p.a p.n p.c).toArray 24)) := hC14.alloc hC14.size _
    rw [show (L.map fun p => Value.slice p.a p.n p.c) = [Value.slice ad_7 (Na.limbs n).length (Na.limbs n).length, Value.slice ad_8 k8 c8, Value.slice ad_9 k9 c9, Value.slice ad_12 k12 c12, Value.slice ad_13 k13 c13, Value.slice ad_14 k14 c14] from by rw [hL]; rfl] at hsix hbw
    have HSIX := Lib.hid hsix; have HBW := Lib.hid hbw; have HL6 := Lib.hid hL6
    have HB6 := Lib.hid hB6
    clear hsix hbw hL6 hL n7 n8 n9 n12 n13 n14 s1 s2 s19 s29 n79 n89 n99 hb10 s11 hB7 hB8 hB9 hB10 hB11 hB12 hB13 hB14 hC7 hC8 hC9 hC10 hC11 hC12 hC13 hC14
    go_loopw [24] (sixOuter w6.heap.size w14.heap.size L w6) (fun i _ => 6 - (intOf i).toNat)
    case atStart => exact ⟨0, by omega, rfl, HSIX, HBW⟩
    case round =>
      clear HSIX HBW
      obtain ⟨i, hi, rfl, HX, HB⟩ := hrel
      by_cases hlt : i < 6
      · have hiL : i < L.length := by rw [HL6.out]; exact hlt
        obtain ⟨p, hp⟩ : ∃ p, L[i] = p := ⟨_, rfl⟩
        have ci := HX.out.1 i hiL
        have hpn := (HX.out.2 i hiL).2
        rw [hp] at ci hpn
        have HP := Lib.hid hp; clear hp
        go_wp2_with fail
        go_loopw [25] (sixInner p.n w6.heap.size w14.heap.size L w6) (fun k _ => p.n - (intOf k).toNat)
        case atStart => exact ⟨0, Nat.zero_le _, rfl, HX, HB⟩
        case round =>
          clear ci HX HB
          obtain ⟨k, hk, rfl, HX, HB⟩ := hrel
          have ci := HX.out.1 i hiL
          rw [HP.out] at ci
          by_cases hlk : k < p.n
          · have hnu := (HX.out.2 i hiL).1
            rw [HP.out] at hnu
            obtain ⟨b, o, e, hb1, hb2, hall⟩ := hnu (by omega)
            obtain ⟨fk, x, hx, ck⟩ := hall k hlk
            rw [e] at ci
            have HS2 := Lib.hid (HX.out.set b (o + k) ((x + 1) % 4294967296) hb2 (Nat.mod_lt _ (by decide)))
            clear hnu hall e
            go_wp2_with fail
            go_region
            go_wp2_with fail
            go_roundw
            case rel => exact ⟨k + 1, by omega, by go_num, Lib.hid (by have := HS2.out.drew; simpa using this), Lib.hid ((HB.out.setCell hb1 _).drew)⟩
            case measure => simp [intOf]; omega
          · obtain rfl : k = p.n := by omega
            go_wp2_with fail
            go_roundw
            case rel => exact ⟨i + 1, by omega, by go_num, HX, HB⟩
            case measure => simp [intOf]; omega
      · obtain rfl : i = 6 := by omega
        have hs6 := s6.on HB.out
        have hs1 := (HS1.out).on (HB6.out.trans (HB.out.mono HB6.out.size))
        have hsame := l1_same_any ad6 c6 L1 a1 c1 L1 wr hs6 hs1 (by omega) (by omega)
        rw [decide_eq_true rfl] at hsame
        have HSM := Lib.hid hsame
        clear hsame hs6 hs1
        go_wp2_with (first | (go_at_call 21; (with_reducible refine (HSM.out).mono ?_); rintro e w20 ⟨rfl, hb20⟩))
        go_ret
        exact RetB.of rfl ((HB6.out.trans (HB.out.mono HB6.out.size)).trans (hb20.mono (HB6.out.trans (HB.out.mono HB6.out.size)).size))

set_option maxRecDepth 100000 in
set_option maxHeartbeats 1000000 in
theorem l1_again_out (a : Option Addr) (c : Nat) (b : Option Addr) (d : Nat) (n m : Nat) (w : World) (ht : Tab w) (hn : n ≤ 9223372036854775807) (hm : m ≤ 9223372036854775807) (h : 100 < n ∨ 100 < m) :
    Calls Tryd.prog 6 #[.slice a n c, .slice b m d] w (RetB (.bool true) w) := by
  have HS := Lib.hid (l1_shown_any w ht)
  by_cases h1 : 100 < n
  · clear h
    go_enter Tryd.func6, Tryd.ntmps6
    go_wp2_with (go_at_call 7; (with_reducible refine (HS.out).mono ?_); rintro e w1 ⟨rfl, hb_w1⟩; have hB_w1 : Below (w).heap.size (w) w1 := Below.trans (by (repeat (first | exact Below.refl _ _ | assumption | refine Below.setCell ?_ (by first | omega | (simp <;> omega)) _ | refine Below.alloc ?_ (by first | omega | (simp <;> omega)) _ | refine Below.drew ?_ | refine below_drewN' ?_ _))) (hb_w1.mono (by first | omega | (simp <;> omega))); obtain ⟨hc_w1, hf_w1⟩ := bcell hb_w1; have hz_w1 := hb_w1.size; (try simp only [size_drew', size_drewN', World.size_alloc, World.size_setCell] at hz_w1))
    go_ret
    exact RetB.of rfl hB_w1
  · have h2 : 100 < m := by omega
    clear h
    go_enter Tryd.func6, Tryd.ntmps6
    go_wp2_with (go_at_call 7; (with_reducible refine (HS.out).mono ?_); rintro e w1 ⟨rfl, hb_w1⟩; have hB_w1 : Below (w).heap.size (w) w1 := Below.trans (by (repeat (first | exact Below.refl _ _ | assumption | refine Below.setCell ?_ (by first | omega | (simp <;> omega)) _ | refine Below.alloc ?_ (by first | omega | (simp <;> omega)) _ | refine Below.drew ?_ | refine below_drewN' ?_ _))) (hb_w1.mono (by first | omega | (simp <;> omega))); obtain ⟨hc_w1, hf_w1⟩ := bcell hb_w1; have hz_w1 := hb_w1.size; (try simp only [size_drew', size_drewN', World.size_alloc, World.size_setCell] at hz_w1))
    go_ret
    exact RetB.of rfl hB_w1

theorem l1_again_any (a1 : Option Addr) (c1 : Nat) (L1 : List Nat) (a2 : Option Addr) (c2 : Nat) (L2 : List Nat) (w : World) (ht : Tab w) (s1 : Sl w a1 c1 L1) (s2 : Sl w a2 c2 L2) (hc1 : a1 = none → c1 = 0) (hn1 : L1.length ≤ 9223372036854775807) (hn2 : L2.length ≤ 9223372036854775807) :
    Calls Tryd.prog 6 #[.slice a1 L1.length c1, .slice a2 L2.length c2] w (RetB (.bool true) w) := by
  by_cases h : 100 < L1.length ∨ 100 < L2.length
  · exact l1_again_out a1 c1 a2 c2 _ _ w ht hn1 hn2 h
  · exact l1_again_walk a1 c1 L1 a2 c2 L2 w ht s1 s2 hc1 (by omega) (by omega)
end Go.Proofs.YtcdndcbfmlnpjaaDoor
