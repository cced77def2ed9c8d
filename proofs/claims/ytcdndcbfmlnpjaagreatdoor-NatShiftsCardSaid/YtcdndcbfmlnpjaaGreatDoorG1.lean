/- The reference: Trim, Of. -/
import Derived.Test.YtcdndcbfmlnpjaaGreatDoorN21
import Derived.Test.YtcdndcbfmlnpjaaGreatDoorN28
import Derived.Test.YtcdndcbfmlnpjaaGreatDoorNj
namespace Go.Proofs.YtcdndcbfmlnpjaaGreatDoor
set_option linter.all false
open Go.RowKit

/-- What a function of the reference answers with: a list of its own. -/
def GivesW (l : List Nat) (w : World) (e : Ending) (w' : World) : Prop := ∃ v, e = .returned v ∧ Row w' w.heap.size v l ∧ Below w.heap.size w w'
theorem Row.slz {w : World} {B : Nat} {v : Value} {l : List Nat} (h : Row w B v l) (hok : Na.OK l) : ∃ a c, v = .slice a l.length c ∧ Sl w a c l ∧ (a = none → c = 0) := by
  have h0 := h
  rcases h.2 with ⟨rfl, hn⟩ | ⟨g, cap, cur, rfl, hb, hg, h1, h2, h3, h4⟩
  · obtain rfl : l = [] := List.eq_nil_of_length_eq_zero hn
    exact ⟨none, 0, rfl, Sl.nil _ _ _, fun _ => rfl⟩
  · obtain ⟨a, c, e, hs, _⟩ := h0.sl hok
    exact ⟨a, c, e, hs, fun e2 => by rw [e2] at e; simp at e⟩
/-- .. as a slice. -/
def GivesZ (l : List Nat) (w : World) (e : Ending) (w' : World) : Prop := ∃ a c, e = .returned (.slice a l.length c) ∧ Sl w' a c l ∧ (a = none → c = 0) ∧ Row w' w.heap.size (.slice a l.length c) l ∧ Below w.heap.size w w'
theorem GivesW.z {l : List Nat} {w w' : World} {e : Ending} (h : GivesW l w e w') (hok : Na.OK l) : GivesZ l w e w' := by
  obtain ⟨v, rfl, hr, hb⟩ := h
  obtain ⟨a, c, rfl, hs, hz⟩ := hr.slz hok
  exact ⟨a, c, rfl, hs, hz, hr, hb⟩

set_option maxHeartbeats 1000000 in
theorem r1_trim_any (a : Option Addr) (c : Nat) (l : List Nat) (w : World) (h : Sl w a c l) (hz : a = none → c = 0) (hn : l.length ≤ 1000000) :
    Calls Tryz.prog 10 #[.slice a l.length c] w (GivesZ (Na.cut l) w) := by
  have HZN := Lib.hid hz
  have hcap := h.cap
  have HFIN := Lib.hid (fun v w' (hr : Row w' w.heap.size v (Na.cut l)) (hb : Below w.heap.size w w') => (GivesW.z ⟨v, rfl, hr, hb⟩ (Na.ok_cut l) : GivesZ (Na.cut l) w (.returned v) w'))
  clear hz
  go_enter Tryz.func10, Tryz.ntmps10
  go_wp2_with fail
  go_loop [3] (fun i => ∃ k : Nat, k ≤ l.length ∧ i = .int .i64 k ∧ ∀ j (hj : j < l.length), k ≤ j → l[j] = 0) (fun i => (intOf i).toNat)
  case atStart => exact ⟨l.length, Nat.le_refl _, rfl, fun j hj hk => by omega⟩
  case round =>
    obtain ⟨k, hk, rfl, hz⟩ := hrel
    have HZ := Lib.hid hz; clear hz
    cases k with
    | zero =>
      have HR := Lib.hid (Na.rt_of h.ok (k := 0) hk HZ.out (fun h0 => absurd h0 (by omega))).2
      go_wp2_with (first | (at_builtin; refine app_u32 rfl _ _ 22 Tryz.underlying22 rfl w.heap.size _ [] rfl (Row.empty w (Nat.le_refl _)) a 0 c (l.take 0) rfl (by simp) ((h.take 0).on ((Below.refl _ _).alloc (Nat.le_refl _) _)) HZN.out (by simp) (by simp) ?_; intro v2 w2 hr2 hg2))
      go_ret
      exact HFIN.out _ _ (by rw [HR.out]; exact hr2.out) (hg2.out _ _ ((Below.refl _ _).alloc (Nat.le_refl _) _) (Nat.le_refl _))
    | succ m =>
      obtain ⟨b, o, rfl, hb, hc⟩ := h.plain (by omega)
      have c1 := hc m (by omega)
      obtain ⟨x, hx⟩ : ∃ x, l[m]'(by omega) = x := ⟨_, rfl⟩
      rw [hx] at c1
      have HX := Lib.hid hx; clear hx hc
      have n0 : decide ((0 : Int) < (m : Int) + 1) = true := decide_eq_true (by omega)
      by_cases hx0 : x = 0
      · subst hx0
        go_wp2_with fail
        go_round
        case rel =>
          refine ⟨m, by omega, by go_num, fun j hj hk => ?_⟩
          by_cases e : j = m
          · subst e; exact HX.out
          · exact HZ.out j hj (by omega)
        case measure => simp [intOf]
      · have HR := Lib.hid (Na.rt_of h.ok (k := m + 1) hk HZ.out (fun _ h2 => by have := HX.out; simpa [this] using hx0)).2
        have e0 : ((x : Int) == 0) = false := by simpa using hx0
        have hm1 : m + 1 ≤ c := by omega
        clear hx0
        go_wp2_with (first | (at_builtin; refine app_u32 rfl _ _ 22 Tryz.underlying22 rfl w.heap.size _ [] rfl (Row.empty w (Nat.le_refl _)) (some ⟨b, o, none⟩) (m + 1) c (l.take (m + 1)) rfl (by rw [List.length_take]; omega) ((h.take (m + 1)).on ((Below.refl _ _).alloc (Nat.le_refl _) _)) HZN.out (by rw [List.length_take]; simp; omega) (by simp) ?_; intro v2 w2 hr2 hg2))
        go_ret
        exact HFIN.out _ _ (by rw [HR.out]; exact hr2.out) (hg2.out _ _ ((Below.refl _ _).alloc (Nat.le_refl _) _) (Nat.le_refl _))

set_option maxHeartbeats 400000 in
theorem r1_of_any (v : Nat) (hv : v < 18446744073709551616) (w : World) :
    Calls Tryz.prog 12 #[.int .u64 v] w (GivesZ (Na.limbs v) w) := by
  have hok : Na.OK [v % 4294967296, v / 4294967296] := fun x hx => by
    simp only [List.mem_cons, List.not_mem_nil, or_false] at hx
    show x < 4294967296
    omega
  have hval : Na.cut [v % 4294967296, v / 4294967296] = Na.limbs v := by
    rw [Na.cut]; congr 1
    simp only [Na.val, Na.B]; omega
  have h0 : Blk (w.alloc (Obj.cells #[Value.int IntKind.u32 ((v : Int) % 4294967296), Value.int IntKind.u32 ((v : Int) / 4294967296)] 63)) w.heap.size [v % 4294967296, v / 4294967296] := by
    show (w.heap.push _)[w.heap.size]? = _; simp [u32s]
  have H1 := Lib.hid (show Calls Tryz.prog 10 #[.slice (some ⟨w.heap.size, 0, none⟩) 2 2] (w.alloc (Obj.cells #[Value.int IntKind.u32 ((v : Int) % 4294967296), Value.int IntKind.u32 ((v : Int) / 4294967296)] 63)) (GivesZ (Na.limbs v) (w.alloc (Obj.cells #[Value.int IntKind.u32 ((v : Int) % 4294967296), Value.int IntKind.u32 ((v : Int) / 4294967296)] 63))) from hval ▸ r1_trim_any _ _ _ _ (h0.sl hok (Nat.le_refl _)) (fun e => by cases e) (by simp))
  have hB : Below w.heap.size w (w.alloc (Obj.cells #[Value.int IntKind.u32 ((v : Int) % 4294967296), Value.int IntKind.u32 ((v : Int) / 4294967296)] 63)) := (Below.refl _ _).alloc (Nat.le_refl _) _
  clear h0 hok hval
  go_enter Tryz.func12, Tryz.ntmps12
  go_wp2_with (first | (go_at_call 10; (with_reducible refine (H1.out).mono ?_); rintro e w1 ⟨a, c, rfl, hs, hz, hr, hb⟩))
  go_ret
  exact ⟨a, c, rfl, hs, hz, hr.mono (by simp), hB.trans (hb.mono hB.size)⟩
end Go.Proofs.YtcdndcbfmlnpjaaGreatDoor
