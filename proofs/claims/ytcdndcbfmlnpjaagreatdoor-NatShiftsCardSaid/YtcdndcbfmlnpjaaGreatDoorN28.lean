/- append of limbs to a list of the call's own. -/
import Derived.Test.YtcdndcbfmlnpjaaGreatDoorSl
import Derived.Laws.AppendOwn
import Derived.Laws.OwnMore
import Derived.Laws.AppendOwnNone
namespace Go.Proofs.YtcdndcbfmlnpjaaGreatDoor
set_option linter.all false
open Go.RowKit

/-- A list of the call's own, to which may be appended. -/
def Row (w : World) (B : Nat) (v : Value) (l : List Nat) : Prop := w.ownsRow B 63 1 v l.length (u32s l)
theorem Row.sl {w : World} {B : Nat} {v : Value} {l : List Nat} (h : Row w B v l) (hok : Na.OK l) : ∃ a c, v = .slice a l.length c ∧ Sl w a c l ∧ Own w B a l.length := by
  have h0 := h
  rcases h.2 with ⟨rfl, hn⟩ | ⟨g, cap, cur, rfl, hb, hg, h1, h2, h3, h4⟩
  · obtain rfl : l = [] := List.eq_nil_of_length_eq_zero hn
    exact ⟨none, 0, rfl, Sl.nil _ _ _, Own.nil _ _ _⟩
  · refine ⟨some ⟨g, 0, none⟩, cap, rfl, ⟨fun _ => ⟨g, 0, rfl, (Array.getElem?_eq_some_iff.1 hg).1, fun k hk => ?_⟩, h1, hok⟩, fun _ => ⟨g, 0, rfl, hb, fun k _ => ?_⟩⟩
    · have := World.ownsRow.cellAt h0 k (by omega)
      rw [Nat.zero_add, this, u32s_get l k hk]
    · rw [Nat.zero_add]; exact World.ownsRow.frozenAt h0 k
theorem Row.empty (w : World) {B : Nat} (hB : B ≤ w.heap.size) : Row (w.alloc (.cells #[] 63)) B (.slice (some ⟨w.heap.size, 0, none⟩) 0 0) [] :=
  World.ownsRow_lit w #[] 0 hB (Nat.zero_le _) rfl
theorem Row.nil (w : World) (B : Nat) : Row w B (.slice none 0 0) [] := World.ownsRow_nil _ _ _ _
theorem Row.lt {w : World} {B : Nat} {v : Value} {l : List Nat} (h : Row w B v l) : ∀ k, v.ownBlock = some k → B ≤ k ∧ k < w.heap.size := World.ownsRow.lt h
theorem Row.mono {w : World} {B B' : Nat} {v : Value} {l : List Nat} (h : Row w B v l) (hB : B' ≤ B) : Row w B' v l := by
  refine ⟨h.1, h.2.imp id ?_⟩
  rintro ⟨g, cap, cur, h1, h2, h3⟩
  exact ⟨g, cap, cur, h1, by omega, h3⟩
theorem Row.alloc {w : World} {B : Nat} {v : Value} {l : List Nat} (h : Row w B v l) (o : Obj) : Row (w.alloc o) B v l := World.ownsRow.alloc h o

theorem app_u32 {w : World} {ops : Array Oper} {rest : List Oper} {o : Oper} {act : Act} {Q : Exit → Act → World → Prop} (hgd : o.guard = none) (s x : Operand) (t : TypeId) (ht : Tryz.prog.underlying t = some (.slice 63))
    (hop : o.op = .call { callee := .builtin .append, args := #[s, x], argTypes := #[t, t] }) (B : Nat) (v : Value) (l : List Nat) (hs : act.eval s = v) (hown : Row w B v l) (ad : Option Addr) (n c : Nat) (m : List Nat) (hx : act.eval x = .slice ad n c) (hn : m.length = n) (hm : Sl w ad c m)
    (hnil : ad = none → c = 0) (hlen : l.length + m.length ≤ 1000000) (hB : B ≤ w.heap.size)
    (hK : ∀ v' w', Hid (Row w' B v' (l ++ m)) → Hid (∀ B' w0, Below B' w0 w → B' ≤ B → Below B' w0 w') → wpList Tryz.prog ops Q rest (act.put o.dst v') w') : wpList Tryz.prog ops Q (o :: rest) act w := by
  subst hn
  obtain ⟨ti, hi, hz0, hz1, hz2⟩ := info_parts infoU32
  cases ad with
  | none =>
    have hm0 : m = [] := by
      rcases Nat.eq_zero_or_pos m.length with h | h
      · exact List.eq_nil_of_length_eq_zero h
      · obtain ⟨_, _, e, _⟩ := hm.plain h; cases e
    subst hm0
    obtain rfl := hnil rfl
    exact wpList_append_own_none hgd s x t hop B 63 ti 1 ht hi v l.length (u32s l) hs hown hx (hK v w (Lib.hid (by rw [List.append_nil]; exact hown)) (Lib.hid fun B' w0 hb _ => hb))
  | some a =>
    refine wpList_append_own w hgd s x t hop B 63 ti (.int .u32 0) 1 4 ht hi hz0 hz1 hz2 rfl (by decide) v l.length (u32s l) hs hown a m.length c (u32s m) hx (by rw [u32s_len]; omega) ?_ (u32s_one _) (by unfold maxLen; omega) (by omega) hB ?_
    · intro j u hu
      have hj : j < m.length := by have := (List.getElem?_eq_some_iff.1 hu).1; rwa [u32s_len] at this
      obtain ⟨ad', e, hc⟩ := hm.cells (by omega)
      cases e
      exact hc j u hu
    · intro v' w' h1 h2 _
      refine hK v' w' (Lib.hid ?_) (Lib.hid fun B' w0 hb hB' => hb.grown h2 (by omega) (fun k e => by have := (hown.lt k e).1; omega))
      show w'.ownsRow _ _ _ _ (l ++ m).length _
      rw [List.length_append, u32s, List.map_append]; exact h1
end Go.Proofs.YtcdndcbfmlnpjaaGreatDoor
