/-
  Package crc: what its variables hold ('CInv'), either's and Size's contracts. Conditions: the listed variables hold different errors of errors.New's make, and the table of kinds ('CInv').
-/
import Derived.Test.YtlabmomehjfjdaaDoorNumsS
import Derived.Test.YtlabmomehjfjdaaDoorCrcP
import Derived.Laws.BitsAllLaws
namespace Go.Proofs.YtlabmomehjfjdaaDoor
open Go.RowKit

/-- What package crc's variables hold. -/
structure CInv (w : World) (aA aT aN aW aS : Addr) : Prop where
  cA : w.cell? ⟨3, 0, none⟩ = some (ErrV aA)
  cT : w.cell? ⟨4, 0, none⟩ = some (ErrV aT)
  k0 : w.cell? ⟨5, 0, none⟩ = some (.int .i64 0)
  k1 : w.cell? ⟨5, 1, none⟩ = some (.int .i64 0)
  k2 : w.cell? ⟨5, 2, none⟩ = some (.int .i64 1)
  k3 : w.cell? ⟨5, 3, none⟩ = some (.int .i64 2)
  k4 : w.cell? ⟨5, 4, none⟩ = some (.int .i64 2)
  k5 : w.cell? ⟨5, 5, none⟩ = some (.int .i64 4)
  pA : Plain w aA
  pT : Plain w aT
  nAT : aA ≠ aT
  nums : NInv w aN aW aS

theorem CInv.below {w w' : World} {aA aT aN aW aS : Addr} (h : CInv w aA aT aN aW aS) (hb : Below w.heap.size w w') : CInv w' aA aT aN aW aS :=
  ⟨cell_later hb h.cA, cell_later hb h.cT, cell_later hb h.k0, cell_later hb h.k1, cell_later hb h.k2, cell_later hb h.k3, cell_later hb h.k4, cell_later hb h.k5, h.pA.below hb, h.pT.below hb, h.nAT, h.nums.below hb⟩

theorem ceitherS_nil (v : ByteArray) (w : World) (aA aT aN aW aS : Addr) (h : CInv w aA aT aN aW aS) :
    Calls Tryd.prog 42 #[.string v, .nilIface] w (Pure (.tuple #[.string v, .int .i64 0]) w) := by
  have hA := h.cA
  have hT := h.cT
  go_enter Tryd.func42, Tryd.ntmps42
  go_wp2_with fail
  refine (is_nil aA _).mono ?_
  rintro e w' ⟨rfl, rfl⟩
  go_wp2_with fail
  refine (is_nil aT _).mono ?_
  rintro e w' ⟨rfl, rfl⟩
  go_wp2_with fail
  go_ret2
  exact ⟨rfl, rfl⟩
theorem ceitherS_A (v : ByteArray) (w : World) (aA aT aN aW aS : Addr) (h : CInv w aA aT aN aW aS) :
    Calls Tryd.prog 42 #[.string v, ErrV aA] w (Pure (.tuple #[.string ByteArray.empty, .int .i64 2]) w) := by
  have hA := h.cA
  have hT := h.cT
  go_enter Tryd.func42, Tryd.ntmps42
  go_wp2_with fail
  refine (is_same aA _).mono ?_
  rintro e w' ⟨rfl, rfl⟩
  go_wp2_with fail
  go_ret2
  exact ⟨rfl, rfl⟩
theorem ceitherS_T (v : ByteArray) (w : World) (aA aT aN aW aS : Addr) (h : CInv w aA aT aN aW aS) :
    Calls Tryd.prog 42 #[.string v, ErrV aT] w (Pure (.tuple #[.string ByteArray.empty, .int .i64 50]) w) := by
  have hA := h.cA
  have hT := h.cT
  go_enter Tryd.func42, Tryd.ntmps42
  go_wp2_with fail
  refine (is_other aT aA _ (Ne.symm h.nAT) h.pT h.pA).mono ?_
  rintro e w' ⟨rfl, rfl⟩
  go_wp2_with fail
  refine (is_same aT _).mono ?_
  rintro e w' ⟨rfl, rfl⟩
  go_wp2_with fail
  go_ret2
  exact ⟨rfl, rfl⟩

theorem kindsAt0 (w : World) : (Instr.index 98 (.agg #[.int .i64 0, .int .i64 0, .int .i64 1, .int .i64 2, .int .i64 2, .int .i64 4]) (.int .i64 0)).run Tryd.prog w = .ok (.agg #[.int .i64 0, .int .i64 0]) w := by kernel_rfl
theorem kindsAt1 (w : World) : (Instr.index 98 (.agg #[.int .i64 0, .int .i64 0, .int .i64 1, .int .i64 2, .int .i64 2, .int .i64 4]) (.int .i64 1)).run Tryd.prog w = .ok (.agg #[.int .i64 1, .int .i64 2]) w := by kernel_rfl
theorem kindsAt2 (w : World) : (Instr.index 98 (.agg #[.int .i64 0, .int .i64 0, .int .i64 1, .int .i64 2, .int .i64 2, .int .i64 4]) (.int .i64 2)).run Tryd.prog w = .ok (.agg #[.int .i64 2, .int .i64 4]) w := by kernel_rfl

/-- How many bytes a sum has. -/
def sizeV (n : Int) : Int := if n = 1 then 2 else if n = 2 then 4 else 0

set_option maxRecDepth 100000 in
theorem Size_0 (w : World) (aA aT aN aW aS : Addr) (h : CInv w aA aT aN aW aS) : Calls Tryd.prog 44 #[.int .i64 0] w (Ret (.int .i64 0) w) := by
  obtain ⟨_, _, k0, k1, k2, k3, k4, k5, _, _, _, _⟩ := h
  have hz := cell_lt k0
  have i0 := kindsAt0
  have i1 := kindsAt1
  have i2 := kindsAt2
  go_enter Tryd.func44, Tryd.ntmps44
  go_wp2
  refine wp_loop_rounds 1 ?_
  rw [rounds_succ]
  go_wp2
  go_ret
  exact ⟨rfl, by repeat first | exact Below.refl _ _ | exact ext_new _ _ | refine ext_alloc ?_ _⟩

set_option maxRecDepth 100000 in
theorem Size_1 (w : World) (aA aT aN aW aS : Addr) (h : CInv w aA aT aN aW aS) : Calls Tryd.prog 44 #[.int .i64 1] w (Ret (.int .i64 2) w) := by
  obtain ⟨_, _, k0, k1, k2, k3, k4, k5, _, _, _, _⟩ := h
  have hz := cell_lt k0
  have i0 := kindsAt0
  have i1 := kindsAt1
  have i2 := kindsAt2
  go_enter Tryd.func44, Tryd.ntmps44
  go_wp2
  refine wp_loop_rounds 2 ?_
  rw [rounds_succ]
  go_wp2
  rw [rounds_succ]
  go_wp2
  go_ret
  exact ⟨rfl, by repeat first | exact Below.refl _ _ | exact ext_new _ _ | refine ext_alloc ?_ _⟩

set_option maxRecDepth 100000 in
theorem Size_2 (w : World) (aA aT aN aW aS : Addr) (h : CInv w aA aT aN aW aS) : Calls Tryd.prog 44 #[.int .i64 2] w (Ret (.int .i64 4) w) := by
  obtain ⟨_, _, k0, k1, k2, k3, k4, k5, _, _, _, _⟩ := h
  have hz := cell_lt k0
  have i0 := kindsAt0
  have i1 := kindsAt1
  have i2 := kindsAt2
  go_enter Tryd.func44, Tryd.ntmps44
  go_wp2
  refine wp_loop_rounds 3 ?_
  rw [rounds_succ]
  go_wp2
  rw [rounds_succ]
  go_wp2
  rw [rounds_succ]
  go_wp2
  go_ret
  exact ⟨rfl, by repeat first | exact Below.refl _ _ | exact ext_new _ _ | refine ext_alloc ?_ _⟩

set_option maxRecDepth 100000 in
theorem Size_other (n : Int) (w : World) (aA aT aN aW aS : Addr) (h : CInv w aA aT aN aW aS) (h0 : n ≠ 0) (h1 : n ≠ 1) (h2 : n ≠ 2) : Calls Tryd.prog 44 #[.int .i64 n] w (Ret (.int .i64 0) w) := by
  obtain ⟨_, _, k0, k1, k2, k3, k4, k5, _, _, _, _⟩ := h
  have hz := cell_lt k0
  have i0 := kindsAt0
  have i1 := kindsAt1
  have i2 := kindsAt2
  have e0 : ((0 : Int) == n) = false := beq_eq_false_iff_ne.2 (Ne.symm h0)
  have e1 : ((1 : Int) == n) = false := beq_eq_false_iff_ne.2 (Ne.symm h1)
  have e2 : ((2 : Int) == n) = false := beq_eq_false_iff_ne.2 (Ne.symm h2)
  clear h0 h1 h2
  go_enter Tryd.func44, Tryd.ntmps44
  go_wp2
  refine wp_loop_rounds 4 ?_
  rw [rounds_succ]
  go_wp2
  rw [rounds_succ]
  go_wp2
  rw [rounds_succ]
  go_wp2
  rw [rounds_succ]
  go_wp2
  go_ret
  exact ⟨rfl, by repeat first | exact Below.refl _ _ | exact ext_new _ _ | refine ext_alloc ?_ _⟩

theorem Size_any (n : Int) (w : World) (aA aT aN aW aS : Addr) (h : CInv w aA aT aN aW aS) : Calls Tryd.prog 44 #[.int .i64 n] w (Ret (.int .i64 (sizeV n)) w) := by
  by_cases h0 : n = 0
  · subst h0; exact Size_0 w aA aT aN aW aS h
  by_cases h1 : n = 1
  · subst h1; exact Size_1 w aA aT aN aW aS h
  by_cases h2 : n = 2
  · subst h2; exact Size_2 w aA aT aN aW aS h
  · rw [sizeV, if_neg h1, if_neg h2]; exact Size_other n w aA aT aN aW aS h h0 h1 h2

end Go.Proofs.YtlabmomehjfjdaaDoor
