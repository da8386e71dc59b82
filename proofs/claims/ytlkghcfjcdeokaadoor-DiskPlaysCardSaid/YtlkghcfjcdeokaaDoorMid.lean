/-
  A whole row by value within a fence: load, a new variable, store. Conditions: as the theorems' own hypotheses say.
-/
import Derived.Test.YtlkghcfjcdeokaaDoorBase
import Derived.Deep.MidRow
import Derived.Deep.WholeRow
import Derived.OwnWalkIn
namespace Go.Proofs.YtlkghcfjcdeokaaDoor
open Go.RowKit

section
variable {F : Fence} {n : Nat} {P : Program} {ops : Array Oper} {rest : List Oper} {o : Oper} {a : Act} {w : World} {Q : Exit → Act → World → Prop}

theorem listIn_load_mid (hg : o.guard = none) (ty : TypeId) (x : Operand) (ho : o.op = .load ty x) (b k : Nat) (hx : a.eval x = .pointer (some ⟨b, k, none⟩)) (cs : List Value) (d : TypeDesc) (hc : w.rangeAt b k cs)
    (hu : P.underlying ty = some d) (hd : d.isRow = true) (hi : (P.info? ty).map (·.size) = some cs.length)
    (h : wpListIn F n P ops Q rest (a.put o.dst (.agg cs.toArray)) w) : wpListIn F n P ops Q (o :: rest) a w := by
  refine wpListIn_plain hg fun K hK => ?_
  unfold Oper.wpIn
  refine ⟨by simp [Oper.about, ho], ?_⟩
  rw [Oper.semAt_plain F _ _ (by rw [ho]; intro c hc'; cases hc')]
  simp only [execOp, ho, hx, Instr.loadAt, Instr.sureAddr, Sem.run_bind, Sem.run_pure, Result.andThen_ok, run_loadVar_mid w b k ty cs d hc hu hd hi]
  exact hK _ _ h

theorem listIn_new_row (hg : o.guard = none) (ty : TypeId) (ho : o.op = .alloc ty) (i : TypeInfo) (c0 : Array Value) (hi : P.info? ty = some i) (hz : i.zero = some (.agg c0))
    (h : wpListIn F n P ops Q rest (a.put o.dst (.pointer (some ⟨w.heap.size, 0, none⟩))) (w.alloc (.cells c0 ty))) : wpListIn F n P ops Q (o :: rest) a w := by
  refine wpListIn_plain hg fun K hK => ?_
  unfold Oper.wpIn
  refine ⟨by simp [Oper.about, ho], ?_⟩
  rw [Oper.semAt_plain F _ _ (by rw [ho]; intro c hc'; cases hc')]
  have hr : (Instr.alloc ty true (.tuple #[])).run P w = .ok (.pointer (some ⟨w.heap.size, 0, none⟩)) (w.alloc (.cells c0 ty)) := by
    simp [Instr.alloc, zeroValue, typeInfo, hi, hz, newVar, newRow, Value.cells]
  simp only [execOp, ho, Sem.run_bind, Sem.run_pure, Result.andThen_ok, hr]
  exact hK _ _ h

theorem listIn_store_new (hg : o.guard = none) (ty : TypeId) (x y : Operand) (ho : o.op = .store ty x y) (c0 c : Array Value) (hx : a.eval x = .pointer (some ⟨w.heap.size, 0, none⟩)) (hy : a.eval y = .agg c)
    (hi : (P.info? ty).map (·.size) = some c.size) (hs : c0.size = c.size) (h1 : c.all (·.oneCell') = true)
    (h : wpListIn F n P ops Q rest (a.put o.dst undef) (w.alloc (.cells c ty))) : wpListIn F n P ops Q (o :: rest) a (w.alloc (.cells c0 ty)) := by
  refine wpListIn_plain hg fun K hK => ?_
  unfold Oper.wpIn
  refine ⟨by simp [Oper.about, ho], ?_⟩
  rw [Oper.semAt_plain F _ _ (by rw [ho]; intro c hc'; cases hc')]
  simp only [execOp, ho, hx, hy, Sem.run_bind, run_storeAt_new w ty c0 c hi hs h1, Sem.run_pure, Result.andThen_ok]
  exact hK _ _ h
end

end Go.Proofs.YtlkghcfjcdeokaaDoor
