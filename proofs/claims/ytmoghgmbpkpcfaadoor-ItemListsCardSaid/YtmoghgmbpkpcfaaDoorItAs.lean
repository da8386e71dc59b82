/-
  errors.As at a target of a struct type of one field, item.wrong: its contracts at this translation. Conditions: as the theorems' own hypotheses say.
-/
import Derived.Test.YtmoghgmbpkpcfaaDoorMgA
namespace Go.Proofs.YtmoghgmbpkpcfaaDoor
open Go.RowKit Go.Extern.Stop Go.Stop Go.Extern

/-- Why something is: an error of the type item.wrong. -/
def WrV (e : Int) : Value := .iface 69 (.agg #[.int .i64 e])

/-- errors.As(nil, target). -/
theorem as_nil (t : Value) (w : World) :
    Calls Tryd.prog 42 #[.nilIface, t] w fun e w' => e = .returned (.bool false) ∧ w = w' := by
  go_enter Tryd.func42, Tryd.ntmps42
  go_wp2
  go_ret
  exact ⟨rfl, rfl⟩

theorem asValueOfP (t : Addr) (w : World) : (ReflectliteValue.unpack (.iface 89 (.pointer (some t)))).run Tryd.prog w
    = .ok (.agg #[.pointer (some ⟨9, 89, none⟩), .pointer (some ⟨w.heap.size, 0, none⟩), .int .u64 150]) (w.alloc (.cells #[.pointer (some t)] 89)) := by kernel_rfl
theorem asTypeP (a : Addr) (w : World) : (ReflectliteValue.methodAny (ReflectliteValue.valueError "reflectlite.Value.Type" 0) (fun t _ _ _ => ReflectliteType.toType t) #[.agg #[.pointer (some ⟨9, 89, none⟩), .pointer (some a), .int .u64 150]]).run Tryd.prog w
    = .ok (.iface 125 (.agg #[.pointer (some ⟨9, 89, none⟩)])) w := by kernel_rfl
theorem asMethodKind (h : Value) (w : World) : (Go.method 288 125 (.agg #[h]) "Kind").run Tryd.prog w = .ok (88, h) w := by kernel_rfl
theorem asKindP (w : World) : ((ReflectliteType.abiMethod fun t => (fun a : Nat => Value.int IntKind.u8 (a : Int)) <$> Rtype.kind t) #[.pointer (some ⟨9, 89, none⟩)]).run Tryd.prog w = .ok (.int .u8 22) w := by kernel_rfl
theorem asKindS (w : World) : ((ReflectliteType.abiMethod fun t => (fun a : Nat => Value.int IntKind.u8 (a : Int)) <$> Rtype.kind t) #[.pointer (some ⟨9, 69, none⟩)]).run Tryd.prog w = .ok (.int .u8 25) w := by kernel_rfl
theorem asMethodElem (h : Value) (w : World) : (Go.method 288 125 (.agg #[h]) "Elem").run Tryd.prog w = .ok (99, .agg #[h]) w := by kernel_rfl
theorem asMethodImplements (h : Value) (w : World) : (Go.method 288 125 (.agg #[h]) "Implements").run Tryd.prog w = .ok (100, .agg #[h]) w := by kernel_rfl
theorem asMethodAssignableTo (h : Value) (w : World) : (Go.method 288 125 (.agg #[h]) "AssignableTo").run Tryd.prog w = .ok (97, .agg #[h]) w := by kernel_rfl
theorem asElemP (w : World) : (ReflectliteType.method ReflectliteType.elem #[.agg #[.pointer (some ⟨9, 89, none⟩)]]).run Tryd.prog w = .ok (.iface 125 (.agg #[.pointer (some ⟨9, 69, none⟩)])) w := by kernel_rfl
theorem asImplements (w : World) : (ReflectliteType.relation "Implements" ReflectliteType.implements_ #[.agg #[.pointer (some ⟨9, 69, none⟩)], .iface 125 (.agg #[.pointer (some ⟨9, 50, none⟩)])]).run Tryd.prog w = .ok (.bool true) w := by kernel_rfl
theorem asTypeOfS (v : Value) (w : World) : (ReflectliteType.typeOf #[.iface 69 v]).run Tryd.prog w = .ok (.iface 125 (.agg #[.pointer (some ⟨9, 69, none⟩)])) w := by kernel_rfl
theorem asAssignable (w : World) : (ReflectliteType.relation "AssignableTo" ReflectliteType.assignableTo #[.agg #[.pointer (some ⟨9, 69, none⟩)], .iface 125 (.agg #[.pointer (some ⟨9, 69, none⟩)])]).run Tryd.prog w = .ok (.bool true) w := by kernel_rfl
theorem asValueOfS (e : Int) (w : World) : (ReflectliteValue.unpack (.iface 69 (.agg #[.int .i64 e]))).run Tryd.prog w
    = .ok (.agg #[.pointer (some ⟨9, 69, none⟩), .pointer (some ⟨w.heap.size, 0, none⟩), .int .u64 153]) (w.alloc (.cells #[.int .i64 e] 69)) := by kernel_rfl
theorem asElemOf (w : World) : (Rtype.elem? 89).run Tryd.prog w = .ok (some 69) w := by kernel_rfl
theorem asMkS (p : Addr) (w : World) : (ReflectliteValue.mk 69 p ReflectliteValue.flagAddr).run Tryd.prog w = .ok (.agg #[.pointer (some ⟨9, 69, none⟩), .pointer (some p), .int .u64 409]) w := by kernel_rfl
theorem asMethodRw (z : Sem Value) (f : TypeId → Addr → Nat → Nat → Sem Value) (v : Value) :
    ReflectliteValue.method z f #[v] = (do match ← ReflectliteValue.parts v with | none => z | some (t, a, fl) => f t a fl (fl % 32)) := rfl
theorem asPartsP (a : Addr) (w : World) : (ReflectliteValue.parts (.agg #[.pointer (some ⟨9, 89, none⟩), .pointer (some a), .int .u64 150])).run Tryd.prog w = .ok (some (89, a, 150)) w := by kernel_rfl
theorem asPartsT (a : Addr) (w : World) : (ReflectliteValue.parts (.agg #[.pointer (some ⟨9, 69, none⟩), .pointer (some a), .int .u64 409])).run Tryd.prog w = .ok (some (69, a, 409)) w := by kernel_rfl
theorem asPartsS (a : Addr) (w : World) : (ReflectliteValue.parts (.agg #[.pointer (some ⟨9, 69, none⟩), .pointer (some a), .int .u64 153])).run Tryd.prog w = .ok (some (69, a, 153)) w := by kernel_rfl
theorem asDirect (w : World) : (Rtype.directlyAssignable 69 69).run Tryd.prog w = .ok true w := by kernel_rfl
theorem asSize (w : World) : (sizeOf 69).run Tryd.prog w = .ok 1 w := by kernel_rfl
theorem asAgg (w : World) : (isAgg 69).run Tryd.prog w = .ok true w := by kernel_rfl
theorem asIsNil (a p : Addr) (W : World) (ha : W.cell? a = some (.pointer (some p))) :
    (ReflectliteValue.method (ReflectliteValue.valueError "reflectlite.Value.IsNil" 0) ReflectliteValue.isNil #[.agg #[.pointer (some ⟨9, 89, none⟩), .pointer (some a), .int .u64 150]]).run Tryd.prog W = .ok (.bool false) W := by
  rw [asMethodRw]
  simp only [Sem.run_bind, asPartsP, Result.andThen]
  simp [ReflectliteValue.isNil, loadVar, isAgg, underlying, Tryd.underlying89, ha, Result.andThen]
theorem asElemV (a p : Addr) (W : World) (ha : W.cell? a = some (.pointer (some p))) :
    (ReflectliteValue.method (ReflectliteValue.valueError "reflectlite.Value.Elem" 0) ReflectliteValue.elem #[.agg #[.pointer (some ⟨9, 89, none⟩), .pointer (some a), .int .u64 150]]).run Tryd.prog W
      = .ok (.agg #[.pointer (some ⟨9, 69, none⟩), .pointer (some p), .int .u64 409]) W := by
  rw [asMethodRw]
  simp only [Sem.run_bind, asPartsP, Result.andThen]
  simp [ReflectliteValue.elem, loadVar, isAgg, underlying, Tryd.underlying89, ha, Result.andThen, asElemOf, asMkS]
theorem asSetRw (v x : Value) : ReflectliteValue.set #[v, x] = (do
    let (some (dst, a, fl), some (src, b, _)) := (← ReflectliteValue.parts v, ← ReflectliteValue.parts x)
      | unsupported (.noEntry "extern/(internal/reflectlite.Value).Set.zeroValue")
    if fl / ReflectliteValue.flagAddr % 2 == 0 then unsupported (.noEntry "extern/(internal/reflectlite.Value).Set.unaddressable")
    let val ← loadVar src b
    if ← Rtype.directlyAssignable dst src then storeVar dst a val
    else if ← Rtype.implements dst src then
      if (← Rtype.kind src) == 20 then
        match val with
        | .nilIface => unsupported (.noEntry "extern/reflectlite: a nil value of one interface type handed on as a value of another")
        | _ => storeVar dst a val
      else storeVar dst a (.iface src val)
    else panicString ("reflectlite.Set: value of type " ++ (← Rtype.spelt src) ++ " is not assignable to type " ++ (← Rtype.spelt dst))
    pure (.tuple #[])) := rfl
theorem asLoad (b : Addr) (e : Int) (W : World) (hb : W.cell? b = some (.int .i64 e)) : (loadVar 69 b).run Tryd.prog W = .ok (.agg #[.int .i64 e]) W := by
  unfold loadVar
  simp only [Sem.run_bind, asAgg, Result.andThen]
  simp [asSize, loadCells, loadCellsFrom, hb, Result.andThen, Addr.add]
theorem asSet (ta b : Addr) (e : Int) (old : Value) (W : World) (hb : W.cell? b = some (.int .i64 e)) (ht : W.cell? ta = some old) (hf : W.frozen? ta = false) :
    (ReflectliteValue.set #[.agg #[.pointer (some ⟨9, 69, none⟩), .pointer (some ta), .int .u64 409], .agg #[.pointer (some ⟨9, 69, none⟩), .pointer (some b), .int .u64 153]]).run Tryd.prog W
      = .ok (.tuple #[]) (W.setCell ta (.int .i64 e)) := by
  rw [asSetRw]
  simp only [Sem.run_bind, asPartsT, asPartsS, Result.andThen]
  have hl := asLoad b e W hb
  simp [ReflectliteValue.flagAddr, hl, Result.andThen, asDirect, asSize, storeVar, Value.cells, storeCells, Addr.add]
  rw [run_store Tryd.prog W ta _ _ (by rfl)]
  simp [ht, hf]

set_option maxHeartbeats 4000000 in
/-- errors.As at an error of the target's own type. -/
theorem as_hit (e : Int) (t : Addr) (old : Value) (w : World) (hg : w.cell? ⟨6, 0, none⟩ = some (.iface 125 (.agg #[.pointer (some ⟨9, 50, none⟩)]))) (ht0 : w.cell? t = some old) (hf0 : w.frozen? t = false) :
    Calls Tryd.prog 42 #[WrV e, .iface 89 (.pointer (some t))] w fun ev w' => ev = .returned (.bool true) ∧ ∃ w2, Below w.heap.size w w2 ∧ w' = w2.setCell t (.int .i64 e) := by
  unfold WrV
  have h6 := @run_callFunc_extern Tryd.prog 57 _ (fun args => ReflectliteValue.unpack (args.getD 0 (.tuple #[]))) Tryd.func57 (by kernel_rfl) (by kernel_rfl) (by kernel_rfl) (by kernel_rfl)
  have h7 := @run_callFunc_extern Tryd.prog 58 _ (ReflectliteValue.methodAny (ReflectliteValue.valueError "reflectlite.Value.Type" 0) (fun t _ _ _ => ReflectliteType.toType t)) Tryd.func58 (by kernel_rfl) (by kernel_rfl) (by kernel_rfl) (by kernel_rfl)
  have h8 := @run_callFunc_extern Tryd.prog 59 _ (ReflectliteValue.method (ReflectliteValue.valueError "reflectlite.Value.IsNil" 0) ReflectliteValue.isNil) Tryd.func59 (by kernel_rfl) (by kernel_rfl) (by kernel_rfl) (by kernel_rfl)
  have h27 := @run_callFunc_extern Tryd.prog 88 _ (ReflectliteType.abiMethod fun t => do pure (.int .u8 (← Rtype.kind t))) Tryd.func88 (by kernel_rfl) (by kernel_rfl) (by kernel_rfl) (by kernel_rfl)
  have h37 := @run_callFunc_extern Tryd.prog 99 _ (ReflectliteType.method ReflectliteType.elem) Tryd.func99 (by kernel_rfl) (by kernel_rfl) (by kernel_rfl) (by kernel_rfl)
  have h38 := @run_callFunc_extern Tryd.prog 100 _ (ReflectliteType.relation "Implements" ReflectliteType.implements_) Tryd.func100 (by kernel_rfl) (by kernel_rfl) (by kernel_rfl) (by kernel_rfl)
  have h10 := @run_callFunc_extern Tryd.prog 46 _ ReflectliteType.typeOf Tryd.func46 (by kernel_rfl) (by kernel_rfl) (by kernel_rfl) (by kernel_rfl)
  have h35 := @run_callFunc_extern Tryd.prog 97 _ (ReflectliteType.relation "AssignableTo" ReflectliteType.assignableTo) Tryd.func97 (by kernel_rfl) (by kernel_rfl) (by kernel_rfl) (by kernel_rfl)
  have h11 := @run_callFunc_extern Tryd.prog 67 _ (ReflectliteValue.method (ReflectliteValue.valueError "reflectlite.Value.Elem" 0) ReflectliteValue.elem) Tryd.func67 (by kernel_rfl) (by kernel_rfl) (by kernel_rfl) (by kernel_rfl)
  have h12 := @run_callFunc_extern Tryd.prog 68 _ ReflectliteValue.set Tryd.func68 (by kernel_rfl) (by kernel_rfl) (by kernel_rfl) (by kernel_rfl)
  have tO := asTypeOfS
  have mA := asMethodAssignableTo
  have a25 := asAssignable
  have v25 := asValueOfS
  have f6 := asValueOfP
  have f7 := asTypeP
  have mK := asMethodKind
  have mE := asMethodElem
  have mI := asMethodImplements
  have k27 := asKindP
  have k25 := asKindS
  have e27 := asElemP
  have i25 := asImplements
  have hlt : 6 < w.heap.size := cell_lt hg
  have htl : t.block < w.heap.size := cell_lt ht0
  have n8 := asIsNil ⟨w.heap.size, 0, none⟩ t ((w.alloc (.cells #[.pointer (some t)] 89)).alloc (.cells #[.pointer (some ⟨9, 89, none⟩), .pointer (some ⟨w.heap.size, 0, none⟩), .int .u64 150] 115)) (by simp)
  have hg2 : ((w.alloc (.cells #[.pointer (some t)] 89)).alloc (.cells #[.pointer (some ⟨9, 89, none⟩), .pointer (some ⟨w.heap.size, 0, none⟩), .int .u64 150] 115)).cell? ⟨6, 0, none⟩ = some (.iface 125 (.agg #[.pointer (some ⟨9, 50, none⟩)])) := by
    rw [World.cell?_alloc_lt _ _ ⟨6, 0, none⟩ (by simp <;> omega), World.cell?_alloc_lt _ _ ⟨6, 0, none⟩ hlt]; exact hg
  have el := asElemV ⟨w.heap.size, 0, none⟩ t (((w.alloc (.cells #[.pointer (some t)] 89)).alloc (.cells #[.pointer (some ⟨9, 89, none⟩), .pointer (some ⟨w.heap.size, 0, none⟩), .int .u64 150] 115)).alloc (.cells #[.pointer (some ⟨9, 89, none⟩), .pointer (some ⟨w.heap.size, 0, none⟩), .int .u64 150] 115)) (by rw [World.cell?_alloc_lt _ _ ⟨w.heap.size, 0, none⟩ (by simp; omega)]; simp)
  have st := asSet t ⟨w.heap.size + 1 + 1 + 1, 0, none⟩ e old ((((w.alloc (.cells #[.pointer (some t)] 89)).alloc (.cells #[.pointer (some ⟨9, 89, none⟩), .pointer (some ⟨w.heap.size, 0, none⟩), .int .u64 150] 115)).alloc (.cells #[.pointer (some ⟨9, 89, none⟩), .pointer (some ⟨w.heap.size, 0, none⟩), .int .u64 150] 115)).alloc (.cells #[.int .i64 e] 69))
    (by rw [World.cell?_alloc_at _ _ _ _ (by simp)]; rfl)
    (by rw [World.cell?_alloc_lt _ _ t (by simp; omega), World.cell?_alloc_lt _ _ t (by simp; omega), World.cell?_alloc_lt _ _ t (by simp; omega), World.cell?_alloc_lt _ _ t htl]; exact ht0)
    (by rw [World.frozen?_alloc_old _ _ t (by simp; omega), World.frozen?_alloc_old _ _ t (by simp; omega), World.frozen?_alloc_old _ _ t (by simp; omega), World.frozen?_alloc_old _ _ t (Nat.ne_of_lt htl)]; exact hf0)
  go_enter Tryd.func42, Tryd.ntmps42
  go_wp2
  refine wp_loop_rounds 1 ?_
  rw [rounds_succ]
  go_wp2
  go_ret
  exact ⟨rfl, _, (((ext_new w _).alloc (by simp) _).alloc (by simp; omega) _).alloc (by simp; omega) _, rfl⟩

end Go.Proofs.YtmoghgmbpkpcfaaDoor
