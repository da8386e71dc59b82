/-
  errors.Is over sentinels of errors.New's make (and nil): its contracts at this translation. Conditions: as the theorems' own hypotheses say.
-/
import Derived.WalkKit
import Derived.WalkSpells
import Derived.WalkLawsBesides
import Derived.Lib.Hide
import Derived.Test.YtlkghcfjcdeokaaDoorChecked
import Derived.LaidEql
import Derived.Stop.Asserts
import Derived.RowKitTokens
namespace Go.Proofs.YtlkghcfjcdeokaaDoor
open Go.RowKit Go.Extern.Stop Go.Stop Go.Extern

/-- An error as errors.New makes it, at place a. -/
def ErrV (a : Addr) : Value := .iface 128 (.pointer (some a))

/-- What the model's entry for (rtype).Comparable runs. -/
def comparableOf : Array Value → Sem Value := Extern.ReflectliteType.method fun t => do Go.Extern.Rtype.noPackHeld "Comparable" t; pure (.bool (← typeInfo t).comparable)
theorem isTypeOf (v : Value) (w : World) : (Extern.ReflectliteType.typeOf #[.iface 128 v]).run Tryd.prog w = .ok (.iface 112 (.agg #[.pointer (some ⟨4, 128, none⟩)])) w := by kernel_rfl
theorem isComparable (w : World) : (comparableOf #[.agg #[.pointer (some ⟨4, 128, none⟩)]]).run Tryd.prog w = .ok (.bool true) w := by kernel_rfl
theorem isMethodComparable (v : Value) (w : World) : (Go.method 259 112 v "Comparable").run Tryd.prog w = .ok (86, v) w := by kernel_rfl
theorem isComp : (Tryd.prog.info? 128).map (·.comparable) = some true := by kernel_rfl
theorem isSize : (Tryd.prog.info? 147).map (·.size) = some 1 := by kernel_rfl
theorem noIsE (v : Value) (xT : TypeId) (w : World) : (Instr.typeAssert (.iface 128 v) xT 125 true).run Tryd.prog w = .ok (.tuple #[.nilIface, .bool false]) w := run_typeAssert_lacksB Tryd.underlying125 (by kernel_rfl) (by kernel_rfl) v xT w
theorem noUnwrapE (v : Value) (xT : TypeId) (w : World) : (Instr.typeAssert (.iface 128 v) xT 120 true).run Tryd.prog w = .ok (.tuple #[.nilIface, .bool false]) w := run_typeAssert_lacksB Tryd.underlying120 (by kernel_rfl) (by kernel_rfl) v xT w
theorem noUnwrapsE (v : Value) (xT : TypeId) (w : World) : (Instr.typeAssert (.iface 128 v) xT 121 true).run Tryd.prog w = .ok (.tuple #[.nilIface, .bool false]) w := run_typeAssert_lacksB Tryd.underlying121 (by kernel_rfl) (by kernel_rfl) v xT w

/-- errors.Is(x, x). -/
theorem is_same (a : Addr) (w : World) :
    Calls Tryd.prog 57 #[ErrV a, ErrV a] w fun e w' => e = .returned (.bool true) ∧ w = w' := by
  unfold ErrV
  obtain ⟨i, hi, hcmp⟩ := Option.map_eq_some_iff.1 isComp
  obtain ⟨j, hj, hjs⟩ := Option.map_eq_some_iff.1 isSize
  have h8 := @run_callFunc_extern Tryd.prog 58 _ Extern.ReflectliteType.typeOf Tryd.func58 (by kernel_rfl) (by kernel_rfl) (by kernel_rfl) (by kernel_rfl)
  have h32 := @run_callFunc_extern Tryd.prog 86 _ comparableOf Tryd.func86 (by kernel_rfl) (by kernel_rfl) (by kernel_rfl) (by kernel_rfl)
  have tT := isTypeOf
  have cT := isComparable
  have mR := isMethodComparable
  have heq := run_eql_iface_ptr_same (P := Tryd.prog) w a Tryd.underlying62 Tryd.underlying128 hi hcmp hj
  go_enter Tryd.func57, Tryd.ntmps57
  go_wp2
  refine wp_loop_rounds 1 ?_
  rw [rounds_succ]
  go_wp2
  go_ret
  exact ⟨rfl, rfl⟩

/-- errors.Is(nil, x). -/
theorem is_nil (b : Addr) (w : World) :
    Calls Tryd.prog 57 #[.nilIface, ErrV b] w fun e w' => e = .returned (.bool false) ∧ w = w' := by
  unfold ErrV
  have hn := run_eql_iface_nil_left (P := Tryd.prog) w 128 (.pointer (some b)) Tryd.underlying62
  go_enter Tryd.func57, Tryd.ntmps57
  go_wp2
  go_ret
  exact ⟨rfl, rfl⟩

/-- A place whose block holds cells without a mark. -/
def Plain (w : World) (b : Addr) : Prop := ∃ (c : Array Value) (t : TypeId), w.heap[b.block]? = some (.cells c t (0, 0))

/-- errors.Is(x, y), two different ones. -/
theorem is_other (a b : Addr) (w : World) (hne : a ≠ b) (ha : Plain w a) (hb : Plain w b) :
    Calls Tryd.prog 57 #[ErrV a, ErrV b] w fun e w' => e = .returned (.bool false) ∧ w = w' := by
  unfold ErrV
  obtain ⟨ca, ta, ha⟩ := ha
  obtain ⟨cb, tb, hb⟩ := hb
  obtain ⟨i, hi, hcmp⟩ := Option.map_eq_some_iff.1 isComp
  obtain ⟨j, hj, hjs⟩ := Option.map_eq_some_iff.1 isSize
  have h8 := @run_callFunc_extern Tryd.prog 58 _ Extern.ReflectliteType.typeOf Tryd.func58 (by kernel_rfl) (by kernel_rfl) (by kernel_rfl) (by kernel_rfl)
  have h32 := @run_callFunc_extern Tryd.prog 86 _ comparableOf Tryd.func86 (by kernel_rfl) (by kernel_rfl) (by kernel_rfl) (by kernel_rfl)
  have tT := isTypeOf
  have cT := isComparable
  have mR := isMethodComparable
  have nE := noIsE
  have uE := noUnwrapE
  have vE := noUnwrapsE
  have heq := run_eql_iface_ptr_other (P := Tryd.prog) (a := a) (b := b) w Tryd.underlying62 Tryd.underlying128 hi hcmp hj (by rw [hjs]; decide) hne ha hb
  clear ha hb
  go_enter Tryd.func57, Tryd.ntmps57
  go_wp2
  refine wp_loop_rounds 1 ?_
  rw [rounds_succ]
  go_wp2
  go_ret
  exact ⟨rfl, rfl⟩

end Go.Proofs.YtlkghcfjcdeokaaDoor
