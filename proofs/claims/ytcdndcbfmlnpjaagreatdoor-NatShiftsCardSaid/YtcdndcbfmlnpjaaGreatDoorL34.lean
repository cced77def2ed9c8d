/- A list's number, its right list, its bits, which of two is greater are as the chapter says. -/
import Derived.Test.YtcdndcbfmlnpjaaGreatDoorN22
import Derived.Test.YtcdndcbfmlnpjaaGreatDoorG3
namespace Go.Proofs.YtcdndcbfmlnpjaaGreatDoor
set_option linter.all false
open Go.RowKit

def GvB (l : List Nat) (n : Nat) (w : World) (e : Ending) (w' : World) : Prop := ∃ a, e = .returned (.slice a n n) ∧ Sl w' a n l ∧ Below w.heap.size w w'
theorem GivesB.b {l : List Nat} {w w' : World} {e : Ending} (h : GivesB l w e w') (hok : Na.OK l) : GvB l l.length w e w' := by
  obtain ⟨g, rfl, hg, hk, hb⟩ := h
  exact ⟨_, rfl, hk.sl hok (Nat.le_refl _), hb⟩
theorem same_self {l : List Nat} (hl : l.length ≤ 1000000) (w : World) (a : Option Addr) (c : Nat) (b : Option Addr) (d : Nat) (s : Sl w a c l) (s' : Sl w b d l) : Calls Tryz.prog 8 #[.slice a l.length c, .slice b l.length d] w (RetB (.bool true) w) := by
  have := l1_same_any a c l b d l w s s' hl hl
  rwa [decide_eq_true rfl] at this

set_option maxRecDepth 100000 in
set_option maxHeartbeats 1000000 in
theorem l1_words_out (a : Option Addr) (c : Nat) (b : Option Addr) (d : Nat) (n m v : Nat) (w : World) (ht : Tab w) (hn : n ≤ 9223372036854775807) (hm : m ≤ 9223372036854775807) (h : 400 < n ∨ 400 < m) :
    Calls Tryz.prog 3 #[.slice a n c, .slice b m d, .int .u64 v] w (RetB (.bool true) w) := by
  have HS := Lib.hid (l1_shown_any w ht)
  by_cases h1 : 400 < n
  · clear h
    go_enter Tryz.func3, Tryz.ntmps3
    go_wp2_with (go_at_call 7; (with_reducible refine (HS.out).mono ?_); rintro e w1 ⟨rfl, hb_w1⟩; have hB_w1 : Below (w).heap.size (w) w1 := Below.trans (by (repeat (first | exact Below.refl _ _ | assumption | refine Below.setCell ?_ (by first | omega | (simp <;> omega)) _ | refine Below.alloc ?_ (by first | omega | (simp <;> omega)) _ | refine Below.drew ?_ | refine below_drewN' ?_ _))) (hb_w1.mono (by first | omega | (simp <;> omega))); obtain ⟨hc_w1, hf_w1⟩ := bcell hb_w1; have hz_w1 := hb_w1.size; (try simp only [size_drew', size_drewN', World.size_alloc, World.size_setCell] at hz_w1))
    go_ret
    exact RetB.of rfl hB_w1
  · have h2 : 400 < m := by omega
    clear h
    go_enter Tryz.func3, Tryz.ntmps3
    go_wp2_with (go_at_call 7; (with_reducible refine (HS.out).mono ?_); rintro e w1 ⟨rfl, hb_w1⟩; have hB_w1 : Below (w).heap.size (w) w1 := Below.trans (by (repeat (first | exact Below.refl _ _ | assumption | refine Below.setCell ?_ (by first | omega | (simp <;> omega)) _ | refine Below.alloc ?_ (by first | omega | (simp <;> omega)) _ | refine Below.drew ?_ | refine below_drewN' ?_ _))) (hb_w1.mono (by first | omega | (simp <;> omega))); obtain ⟨hc_w1, hf_w1⟩ := bcell hb_w1; have hz_w1 := hb_w1.size; (try simp only [size_drew', size_drewN', World.size_alloc, World.size_setCell] at hz_w1))
    go_ret
    exact RetB.of rfl hB_w1

set_option maxRecDepth 100000 in
set_option maxHeartbeats 4000000 in
theorem l1_words_walk (a1 : Option Addr) (c1 : Nat) (L1 : List Nat) (a2 : Option Addr) (c2 : Nat) (L2 : List Nat) (v : Nat) (w : World) (ht : Tab w) (s1 : Sl w a1 c1 L1) (z1 : a1 = none → c1 = 0) (s2 : Sl w a2 c2 L2) (z2 : a2 = none → c2 = 0) (h1 : L1.length ≤ 400) (h2 : L2.length ≤ 400) (hv : v < 18446744073709551616) :
    Calls Tryz.prog 3 #[.slice a1 L1.length c1, .slice a2 L2.length c2, .int .u64 v] w (RetB (.bool true) w) := by
  have HS := Lib.hid (l1_shown_any w ht)
  have hcl := (Na.rt_le s1.ok).1
  have hcv : (Na.limbs v).length ≤ 1000000 := Nat.le_trans (Na.limbs_len_le v 2 hv) (by decide)
  have HT := Lib.hid (fun wr (hs : Sl wr a1 c1 L1) => ((na_trim_any a1 c1 L1 wr hs (by omega)).mono fun _ _ hg => hg.b (Na.ok_cut L1)))
  have HR := Lib.hid (fun wr (hs : Sl wr a1 c1 L1) => r1_trim_any a1 c1 L1 wr hs z1 (by omega))
  have HS1 := Lib.hid (fun w a c b d => same_self (l := Na.cut L1) (Nat.le_trans hcl (by omega)) w a c b d)
  have HO := Lib.hid (fun wr => ((na_of_any v hv wr).mono fun _ _ hg => hg.b (Na.ok_limbs v)))
  have HP := Lib.hid (fun wr => r1_of_any v hv wr)
  have HS2 := Lib.hid (fun w a c b d => same_self (l := Na.limbs v) hcv w a c b d)
  obtain ⟨vn, hvn⟩ : ∃ n, n = (Na.value L1).1 := ⟨_, rfl⟩
  obtain ⟨vb, hvb⟩ : ∃ n, n = (Na.value L1).2 := ⟨_, rfl⟩
  obtain ⟨bl, hbl⟩ : ∃ n, n = Na.bitLen (Na.val L1) := ⟨_, rfl⟩
  obtain ⟨z, hz⟩ : ∃ n, n = Na.cmp L1 L2 := ⟨_, rfl⟩
  have HV := Lib.hid (fun wr (hs : Sl wr a1 c1 L1) => (by
    have := na_value_any a1 c1 L1 wr hs (by omega)
    rw [← hvn, ← hvb] at this
    exact this.mono fun _ _ hg => ⟨hg.1, by rw [← hg.2]; exact Below.refl _ _⟩ : Calls Tryz.prog 13 #[.slice a1 L1.length c1] wr (RetB (.tuple #[.int .u64 vn, .bool vb]) wr)))
  have HW := Lib.hid (fun wr (hs : Sl wr a1 c1 L1) => (by
    have := r1_value_any a1 c1 L1 wr hs z1 (by omega)
    rw [← hvn, ← hvb] at this
    exact this : Calls Tryz.prog 14 #[.slice a1 L1.length c1] wr (RetB (.tuple #[.int .u64 vn, .bool vb]) wr)))
  have HL := Lib.hid (fun wr (hs : Sl wr a1 c1 L1) => (by
    have := na_len_any a1 c1 L1 wr hs (by omega)
    rw [← hbl] at this
    exact this.mono fun _ _ hg => ⟨hg.1, by rw [← hg.2]; exact Below.refl _ _⟩ : Calls Tryz.prog 15 #[.slice a1 L1.length c1] wr (RetB (.int .i64 bl) wr)))
  have HM := Lib.hid (fun wr (hs : Sl wr a1 c1 L1) => (by
    have := r1_len_any a1 c1 L1 wr hs z1 (by omega)
    rw [← hbl] at this
    exact this : Calls Tryz.prog 16 #[.slice a1 L1.length c1] wr (RetB (.int .i64 bl) wr)))
  have HC := Lib.hid (fun wr (hs : Sl wr a1 c1 L1) (hs' : Sl wr a2 c2 L2) => (by
    have := na_cmp_any a1 c1 L1 a2 c2 L2 wr hs hs' (by omega) (by omega)
    rw [← hz] at this
    exact this : Calls Tryz.prog 17 #[.slice a1 L1.length c1, .slice a2 L2.length c2] wr (RetB (.int .i64 z) wr)))
  have HD := Lib.hid (fun wr (hs : Sl wr a1 c1 L1) (hs' : Sl wr a2 c2 L2) => (by
    have := r1_cmp_any a1 c1 L1 a2 c2 L2 wr hs z1 hs' z2 (by omega) (by omega)
    rw [← hz] at this
    exact this : Calls Tryz.prog 18 #[.slice a1 L1.length c1, .slice a2 L2.length c2] wr (RetB (.int .i64 z) wr)))
  clear hvn hvb hbl hz hcl hcv
  go_enter Tryz.func3, Tryz.ntmps3
  go_wp2_with (first
    | (go_at_call 7; (with_reducible refine (HS.out).mono ?_); rintro e w1 ⟨rfl, hb1⟩; have hB1 : Below w.heap.size w w1 := hb1; replace s1 := s1.on hb1; replace s2 := s2.on hb1)
    | (go_at_call 9; (with_reducible refine (HT.out _ s1).mono ?_); rintro e w2 ⟨ad_t, rfl, st, hb2⟩; have hB2 : Below w.heap.size w w2 := hB1.trans (hb2.mono hB1.size); replace s1 := s1.on hb2; replace s2 := s2.on hb2)
    | (go_at_call 10; (with_reducible refine (HR.out _ s1).mono ?_); rintro e w3 ⟨ad_r, ca_r, rfl, sr, -, -, hb3⟩; have hB3 : Below w.heap.size w w3 := hB2.trans (hb3.mono hB2.size); replace s1 := s1.on hb3; replace s2 := s2.on hb3; replace st := st.on hb3)
    | (go_at_call 8; (with_reducible refine (HS1.out _ _ _ _ _ st sr).mono ?_); rintro e w4 ⟨rfl, hb4⟩; have hB4 : Below w.heap.size w w4 := hB3.trans (hb4.mono hB3.size); replace s1 := s1.on hb4; replace s2 := s2.on hb4; replace st := st.on hb4; replace sr := sr.on hb4)
    | (go_at_call 11; (with_reducible refine (HO.out _).mono ?_); rintro e w5 ⟨ad_o, rfl, so, hb5⟩; have hB5 : Below w.heap.size w w5 := hB4.trans (hb5.mono hB4.size); replace s1 := s1.on hb5; replace s2 := s2.on hb5)
    | (go_at_call 12; (with_reducible refine (HP.out _).mono ?_); rintro e w6 ⟨ad_p, ca_p, rfl, sp, -, -, hb6⟩; have hB6 : Below w.heap.size w w6 := hB5.trans (hb6.mono hB5.size); replace s1 := s1.on hb6; replace s2 := s2.on hb6; replace so := so.on hb6)
    | (go_at_call 8; (with_reducible refine (HS2.out _ _ _ _ _ so sp).mono ?_); rintro e w7 ⟨rfl, hb7⟩; have hB7 : Below w.heap.size w w7 := hB6.trans (hb7.mono hB6.size); replace s1 := s1.on hb7; replace s2 := s2.on hb7; replace so := so.on hb7; replace sp := sp.on hb7)
    | (go_at_call 13; (with_reducible refine (HV.out _ s1).mono ?_); rintro e w8 ⟨rfl, hb8⟩; have hB8 : Below w.heap.size w w8 := hB7.trans (hb8.mono hB7.size); replace s1 := s1.on hb8; replace s2 := s2.on hb8)
    | (go_at_call 14; (with_reducible refine (HW.out _ s1).mono ?_); rintro e w9 ⟨rfl, hb9⟩; have hB9 : Below w.heap.size w w9 := hB8.trans (hb9.mono hB8.size); replace s1 := s1.on hb9; replace s2 := s2.on hb9)
    | (go_at_call 15; (with_reducible refine (HL.out _ s1).mono ?_); rintro e w10 ⟨rfl, hb10⟩; have hB10 : Below w.heap.size w w10 := hB9.trans (hb10.mono hB9.size); replace s1 := s1.on hb10; replace s2 := s2.on hb10)
    | (go_at_call 16; (with_reducible refine (HM.out _ s1).mono ?_); rintro e w11 ⟨rfl, hb11⟩; have hB11 : Below w.heap.size w w11 := hB10.trans (hb11.mono hB10.size); replace s1 := s1.on hb11; replace s2 := s2.on hb11)
    | (go_at_call 17; (with_reducible refine (HC.out _ s1 s2).mono ?_); rintro e w12 ⟨rfl, hb12⟩; have hB12 : Below w.heap.size w w12 := hB11.trans (hb12.mono hB11.size); replace s1 := s1.on hb12; replace s2 := s2.on hb12)
    | (go_at_call 18; (with_reducible refine (HD.out _ s1 s2).mono ?_); rintro e w13 ⟨rfl, hb13⟩; have hB13 : Below w.heap.size w w13 := hB12.trans (hb13.mono hB12.size); replace s1 := s1.on hb13; replace s2 := s2.on hb13))
  go_ret
  exact RetB.of rfl hB13

theorem l1_words_any (a1 : Option Addr) (c1 : Nat) (L1 : List Nat) (a2 : Option Addr) (c2 : Nat) (L2 : List Nat) (v : Nat) (w : World) (ht : Tab w) (s1 : Sl w a1 c1 L1) (z1 : a1 = none → c1 = 0) (s2 : Sl w a2 c2 L2) (z2 : a2 = none → c2 = 0) (hn1 : L1.length ≤ 9223372036854775807) (hn2 : L2.length ≤ 9223372036854775807) (hv : v < 18446744073709551616) :
    Calls Tryz.prog 3 #[.slice a1 L1.length c1, .slice a2 L2.length c2, .int .u64 v] w (RetB (.bool true) w) := by
  by_cases h : 400 < L1.length ∨ 400 < L2.length
  · exact l1_words_out a1 c1 a2 c2 _ _ v w ht hn1 hn2 h
  · exact l1_words_walk a1 c1 L1 a2 c2 L2 v w ht s1 z1 s2 z2 (by omega) (by omega) hv
end Go.Proofs.YtcdndcbfmlnpjaaGreatDoor
