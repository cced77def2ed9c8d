import Derived.Test.YtcbepojookbceaaDoorT31
namespace Go.Proofs.YtcbepojookbceaaDoor
set_option linter.all false
open Go.RowKit

/-- Money beside its sign. -/
def money (l : Lc.Loc) (t : Dc.Bs) : Dc.Bs := if l.first then l.cur ++ (if l.space then [194, 160] else []) ++ t else t ++ (if l.space then [194, 160] else []) ++ l.cur

set_option maxRecDepth 100000 in
set_option maxHeartbeats 1000000 in
theorem lo_money_any (b : Nat) (l : Lc.Loc) (t : ByteArray) (w : World) (hs : t.size ≤ 100000) (hc : l.cur.length ≤ 10) :
    Calls Tryd.prog 21 #[LV b l, .string t] w (RetB (tx (money l t.data.toList)) w) := by
  obtain ⟨r, hr⟩ : ∃ r : ByteArray, r = ⟨(money l t.data.toList).toArray⟩ := ⟨_, rfl⟩
  unfold LV tx
  rw [← hr]
  obtain ⟨C, hC⟩ : ∃ G : ByteArray, G = ⟨l.cur.toArray⟩ := ⟨_, rfl⟩
  have hCs : C.size ≤ 10 := by rw [hC, size_mk]; exact hc
  obtain ⟨v0, hv0⟩ : ∃ v : ByteArray, v = ⟨l.name.toArray⟩ := ⟨_, rfl⟩
  obtain ⟨v1, hv1⟩ : ∃ v : ByteArray, v = ⟨l.dec.toArray⟩ := ⟨_, rfl⟩
  obtain ⟨v2, hv2⟩ : ∃ v : ByteArray, v = ⟨l.grp.toArray⟩ := ⟨_, rfl⟩
  obtain ⟨v3, hv3⟩ : ∃ v : ByteArray, v = ⟨l.list.toArray⟩ := ⟨_, rfl⟩
  obtain ⟨v4, hv4⟩ : ∃ v : ByteArray, v = ⟨l.minus.toArray⟩ := ⟨_, rfl⟩
  obtain ⟨f7, hf7⟩ : ∃ v, v = l.first := ⟨_, rfl⟩
  obtain ⟨f8, hf8⟩ : ∃ v, v = l.space := ⟨_, rfl⟩
  rw [← hv0, ← hv1, ← hv2, ← hv3, ← hv4, ← hf7, ← hf8, ← hC]
  rw [money, ← hf7, ← hf8] at hr
  have HR := Lib.hid hr; have HC := Lib.hid hC
  clear hr hC hv0 hv1 hv2 hv3 hv4 hf7 hf8
  generalize (if l.two = true then 2 else 1 : Nat) = k
  have s1 : ¬ 9223372036854775807 < C.size + t.size := by omega
  have s2 : ¬ 9223372036854775807 < t.size + C.size := by omega
  have s3 : ¬ 9223372036854775807 < C.size + 2 := by omega
  have s4 : ¬ 9223372036854775807 < C.size + 2 + t.size := by omega
  have s5 : ¬ 9223372036854775807 < t.size + 2 := by omega
  have s6 : ¬ 9223372036854775807 < t.size + 2 + C.size := by omega
  have s7 : ¬ 9223372036854775807 < C.size + 0 := by omega
  have s8 : ¬ 9223372036854775807 < C.size + 0 + t.size := by omega
  have s9 : ¬ 9223372036854775807 < t.size + 0 := by omega
  have s0 : ¬ 9223372036854775807 < t.size + 0 + C.size := by omega
  cases f7 <;> cases f8
  · have hf : t ++ ⟨#[]⟩ ++ C = r := by rw [HR.out]; exact Dc.ba_eq _ _ (by simp [HC.out])
    have HF := Lib.hid hf; clear hf
    go_enter Tryd.func21, Tryd.ntmps21
    go_wp2
    go_ret
    exact RetB.of (congrArg Value.string HF.out) (by (repeat (first | exact Below.refl _ _ | assumption | refine Below.setCell ?_ (by first | omega | (simp <;> omega)) _ | refine Below.alloc ?_ (by first | omega | (simp <;> omega)) _ | refine Below.drew ?_ | refine below_drewN' ?_ _)))
  · have hf : t ++ ⟨#[194, 160]⟩ ++ C = r := by rw [HR.out]; exact Dc.ba_eq _ _ (by simp [HC.out])
    have HF := Lib.hid hf; clear hf
    go_enter Tryd.func21, Tryd.ntmps21
    go_wp2
    go_ret
    exact RetB.of (congrArg Value.string HF.out) (by (repeat (first | exact Below.refl _ _ | assumption | refine Below.setCell ?_ (by first | omega | (simp <;> omega)) _ | refine Below.alloc ?_ (by first | omega | (simp <;> omega)) _ | refine Below.drew ?_ | refine below_drewN' ?_ _)))
  · have hf : C ++ ⟨#[]⟩ ++ t = r := by rw [HR.out]; exact Dc.ba_eq _ _ (by simp [HC.out])
    have HF := Lib.hid hf; clear hf
    go_enter Tryd.func21, Tryd.ntmps21
    go_wp2
    go_ret
    exact RetB.of (congrArg Value.string HF.out) (by (repeat (first | exact Below.refl _ _ | assumption | refine Below.setCell ?_ (by first | omega | (simp <;> omega)) _ | refine Below.alloc ?_ (by first | omega | (simp <;> omega)) _ | refine Below.drew ?_ | refine below_drewN' ?_ _)))
  · have hf : C ++ ⟨#[194, 160]⟩ ++ t = r := by rw [HR.out]; exact Dc.ba_eq _ _ (by simp [HC.out])
    have HF := Lib.hid hf; clear hf
    go_enter Tryd.func21, Tryd.ntmps21
    go_wp2
    go_ret
    exact RetB.of (congrArg Value.string HF.out) (by (repeat (first | exact Below.refl _ _ | assumption | refine Below.setCell ?_ (by first | omega | (simp <;> omega)) _ | refine Below.alloc ?_ (by first | omega | (simp <;> omega)) _ | refine Below.drew ?_ | refine below_drewN' ?_ _)))

set_option maxRecDepth 100000 in
set_option maxHeartbeats 1000000 in
theorem r11_money_any (l : Lc.Loc) (t : ByteArray) (w : World) (hs : t.size ≤ 100000) (hc : l.cur.length ≤ 10) :
    Calls Tryd.prog 22 #[RV l, .string t] w (RetB (tx (money l t.data.toList)) w) := by
  obtain ⟨r, hr⟩ : ∃ r : ByteArray, r = ⟨(money l t.data.toList).toArray⟩ := ⟨_, rfl⟩
  unfold RV tx
  rw [← hr]
  obtain ⟨C, hC⟩ : ∃ G : ByteArray, G = ⟨l.cur.toArray⟩ := ⟨_, rfl⟩
  have hCs : C.size ≤ 10 := by rw [hC, size_mk]; exact hc
  obtain ⟨v0, hv0⟩ : ∃ v : ByteArray, v = ⟨l.name.toArray⟩ := ⟨_, rfl⟩
  obtain ⟨v1, hv1⟩ : ∃ v : ByteArray, v = ⟨l.dec.toArray⟩ := ⟨_, rfl⟩
  obtain ⟨v2, hv2⟩ : ∃ v : ByteArray, v = ⟨l.grp.toArray⟩ := ⟨_, rfl⟩
  obtain ⟨v3, hv3⟩ : ∃ v : ByteArray, v = ⟨l.list.toArray⟩ := ⟨_, rfl⟩
  obtain ⟨v4, hv4⟩ : ∃ v : ByteArray, v = ⟨l.minus.toArray⟩ := ⟨_, rfl⟩
  obtain ⟨f7, hf7⟩ : ∃ v, v = l.first := ⟨_, rfl⟩
  obtain ⟨f8, hf8⟩ : ∃ v, v = l.space := ⟨_, rfl⟩
  rw [← hv0, ← hv1, ← hv2, ← hv3, ← hv4, ← hf7, ← hf8, ← hC]
  rw [money, ← hf7, ← hf8] at hr
  have HR := Lib.hid hr; have HC := Lib.hid hC
  clear hr hC hv0 hv1 hv2 hv3 hv4 hf7 hf8
  generalize (l.second : Int) = k
  have s1 : ¬ 9223372036854775807 < C.size + t.size := by omega
  have s2 : ¬ 9223372036854775807 < t.size + C.size := by omega
  have s3 : ¬ 9223372036854775807 < C.size + 2 := by omega
  have s4 : ¬ 9223372036854775807 < C.size + 2 + t.size := by omega
  have s5 : ¬ 9223372036854775807 < t.size + 2 := by omega
  have s6 : ¬ 9223372036854775807 < t.size + 2 + C.size := by omega
  have s7 : ¬ 9223372036854775807 < C.size + 0 := by omega
  have s8 : ¬ 9223372036854775807 < C.size + 0 + t.size := by omega
  have s9 : ¬ 9223372036854775807 < t.size + 0 := by omega
  have s0 : ¬ 9223372036854775807 < t.size + 0 + C.size := by omega
  cases f7 <;> cases f8
  · have hf : t ++ ⟨#[]⟩ ++ C = r := by rw [HR.out]; exact Dc.ba_eq _ _ (by simp [HC.out])
    have HF := Lib.hid hf; clear hf
    go_enter Tryd.func22, Tryd.ntmps22
    go_wp2
    go_ret
    exact RetB.of (congrArg Value.string HF.out) (by (repeat (first | exact Below.refl _ _ | assumption | refine Below.setCell ?_ (by first | omega | (simp <;> omega)) _ | refine Below.alloc ?_ (by first | omega | (simp <;> omega)) _ | refine Below.drew ?_ | refine below_drewN' ?_ _)))
  · have hf : t ++ ⟨#[194, 160]⟩ ++ C = r := by rw [HR.out]; exact Dc.ba_eq _ _ (by simp [HC.out])
    have HF := Lib.hid hf; clear hf
    go_enter Tryd.func22, Tryd.ntmps22
    go_wp2
    go_ret
    exact RetB.of (congrArg Value.string HF.out) (by (repeat (first | exact Below.refl _ _ | assumption | refine Below.setCell ?_ (by first | omega | (simp <;> omega)) _ | refine Below.alloc ?_ (by first | omega | (simp <;> omega)) _ | refine Below.drew ?_ | refine below_drewN' ?_ _)))
  · have hf : C ++ ⟨#[]⟩ ++ t = r := by rw [HR.out]; exact Dc.ba_eq _ _ (by simp [HC.out])
    have HF := Lib.hid hf; clear hf
    go_enter Tryd.func22, Tryd.ntmps22
    go_wp2
    go_ret
    exact RetB.of (congrArg Value.string HF.out) (by (repeat (first | exact Below.refl _ _ | assumption | refine Below.setCell ?_ (by first | omega | (simp <;> omega)) _ | refine Below.alloc ?_ (by first | omega | (simp <;> omega)) _ | refine Below.drew ?_ | refine below_drewN' ?_ _)))
  · have hf : C ++ ⟨#[194, 160]⟩ ++ t = r := by rw [HR.out]; exact Dc.ba_eq _ _ (by simp [HC.out])
    have HF := Lib.hid hf; clear hf
    go_enter Tryd.func22, Tryd.ntmps22
    go_wp2
    go_ret
    exact RetB.of (congrArg Value.string HF.out) (by (repeat (first | exact Below.refl _ _ | assumption | refine Below.setCell ?_ (by first | omega | (simp <;> omega)) _ | refine Below.alloc ?_ (by first | omega | (simp <;> omega)) _ | refine Below.drew ?_ | refine below_drewN' ?_ _)))
end Go.Proofs.YtcbepojookbceaaDoor
