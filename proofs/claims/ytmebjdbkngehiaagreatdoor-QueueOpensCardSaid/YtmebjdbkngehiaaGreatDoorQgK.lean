/-
  errors.As at a target of a struct type of one field, disk.wrong: its contracts at this translation, and more of the kind. Conditions: as the theorems' own hypotheses say.
-/
import Derived.Test.YtmebjdbkngehiaaGreatDoorQgA
import Derived.Test.YtmebjdbkngehiaaGreatDoorQgC
import Derived.Deep.MidRow
import Derived.ScopeJumps
import Derived.WalkMore
import Derived.Deep.RegionHeld3
namespace Go.Proofs.YtmebjdbkngehiaaGreatDoor
open Go.RowKit Go.Extern.Stop Go.Stop Go.Extern
set_option maxHeartbeats 4000000
def WrV (e : Int) : Value := .iface 149 (.agg #[.int .i64 e])
theorem as_nil (t : Value) (w : World) :
  Calls Tryz.prog 80 #[.nilIface, t] w fun e w' => e = .returned (.bool false) ∧ w = w' := by
 go_enter Tryz.func80, Tryz.ntmps80
 go_wp2
 go_ret
 exact ⟨rfl, rfl⟩
theorem asValueOfP (t : Addr) (w : World) : (ReflectliteValue.unpack (.iface 151 (.pointer (some t)))).run Tryz.prog w
  = .ok (.agg #[.pointer (some ⟨7, 151, none⟩), .pointer (some ⟨w.heap.size, 0, none⟩), .int .u64 150]) (w.alloc (.cells #[.pointer (some t)] 151)) := by kernel_rfl
theorem asTypeP (a : Addr) (w : World) : (ReflectliteValue.methodAny (ReflectliteValue.valueError "reflectlite.Value.Type" 0) (fun t _ _ _ => ReflectliteType.toType t) #[.agg #[.pointer (some ⟨7, 151, none⟩), .pointer (some a), .int .u64 150]]).run Tryz.prog w
  = .ok (.iface 224 (.agg #[.pointer (some ⟨7, 151, none⟩)])) w := by kernel_rfl
theorem asMethodKind (h : Value) (w : World) : (Go.method 430 224 (.agg #[h]) "Kind").run Tryz.prog w = .ok (207, h) w := by kernel_rfl
theorem asKindP (w : World) : ((ReflectliteType.abiMethod fun t => (fun a : Nat => Value.int IntKind.u8 (a : Int)) <$> Rtype.kind t) #[.pointer (some ⟨7, 151, none⟩)]).run Tryz.prog w = .ok (.int .u8 22) w := by kernel_rfl
theorem asKindS (w : World) : ((ReflectliteType.abiMethod fun t => (fun a : Nat => Value.int IntKind.u8 (a : Int)) <$> Rtype.kind t) #[.pointer (some ⟨7, 149, none⟩)]).run Tryz.prog w = .ok (.int .u8 25) w := by kernel_rfl
theorem asMethodElem (h : Value) (w : World) : (Go.method 430 224 (.agg #[h]) "Elem").run Tryz.prog w = .ok (219, .agg #[h]) w := by kernel_rfl
theorem asMethodImplements (h : Value) (w : World) : (Go.method 430 224 (.agg #[h]) "Implements").run Tryz.prog w = .ok (220, .agg #[h]) w := by kernel_rfl
theorem asMethodAssignableTo (h : Value) (w : World) : (Go.method 430 224 (.agg #[h]) "AssignableTo").run Tryz.prog w = .ok (217, .agg #[h]) w := by kernel_rfl
theorem asElemP (w : World) : (ReflectliteType.method ReflectliteType.elem #[.agg #[.pointer (some ⟨7, 151, none⟩)]]).run Tryz.prog w = .ok (.iface 224 (.agg #[.pointer (some ⟨7, 149, none⟩)])) w := by kernel_rfl
theorem asImplements (w : World) : (ReflectliteType.relation "Implements" ReflectliteType.implements_ #[.agg #[.pointer (some ⟨7, 149, none⟩)], .iface 224 (.agg #[.pointer (some ⟨7, 95, none⟩)])]).run Tryz.prog w = .ok (.bool true) w := by kernel_rfl
theorem asTypeOfS (v : Value) (w : World) : (ReflectliteType.typeOf #[.iface 149 v]).run Tryz.prog w = .ok (.iface 224 (.agg #[.pointer (some ⟨7, 149, none⟩)])) w := by kernel_rfl
theorem asAssignable (w : World) : (ReflectliteType.relation "AssignableTo" ReflectliteType.assignableTo #[.agg #[.pointer (some ⟨7, 149, none⟩)], .iface 224 (.agg #[.pointer (some ⟨7, 149, none⟩)])]).run Tryz.prog w = .ok (.bool true) w := by kernel_rfl
theorem asValueOfS (e : Int) (w : World) : (ReflectliteValue.unpack (.iface 149 (.agg #[.int .i64 e]))).run Tryz.prog w
  = .ok (.agg #[.pointer (some ⟨7, 149, none⟩), .pointer (some ⟨w.heap.size, 0, none⟩), .int .u64 153]) (w.alloc (.cells #[.int .i64 e] 149)) := by kernel_rfl
theorem asElemOf (w : World) : (Rtype.elem? 151).run Tryz.prog w = .ok (some 149) w := by kernel_rfl
theorem asMkS (p : Addr) (w : World) : (ReflectliteValue.mk 149 p ReflectliteValue.flagAddr).run Tryz.prog w = .ok (.agg #[.pointer (some ⟨7, 149, none⟩), .pointer (some p), .int .u64 409]) w := by kernel_rfl
theorem asMethodRw (z : Sem Value) (f : TypeId → Addr → Nat → Nat → Sem Value) (v : Value) :
  ReflectliteValue.method z f #[v] = (do match ← ReflectliteValue.parts v with | none => z | some (t, a, fl) => f t a fl (fl % 32)) := rfl
theorem asPartsP (a : Addr) (w : World) : (ReflectliteValue.parts (.agg #[.pointer (some ⟨7, 151, none⟩), .pointer (some a), .int .u64 150])).run Tryz.prog w = .ok (some (151, a, 150)) w := by kernel_rfl
theorem asPartsT (a : Addr) (w : World) : (ReflectliteValue.parts (.agg #[.pointer (some ⟨7, 149, none⟩), .pointer (some a), .int .u64 409])).run Tryz.prog w = .ok (some (149, a, 409)) w := by kernel_rfl
theorem asPartsS (a : Addr) (w : World) : (ReflectliteValue.parts (.agg #[.pointer (some ⟨7, 149, none⟩), .pointer (some a), .int .u64 153])).run Tryz.prog w = .ok (some (149, a, 153)) w := by kernel_rfl
theorem asDirect (w : World) : (Rtype.directlyAssignable 149 149).run Tryz.prog w = .ok true w := by kernel_rfl
theorem asSize (w : World) : (sizeOf 149).run Tryz.prog w = .ok 1 w := by kernel_rfl
theorem asAgg (w : World) : (isAgg 149).run Tryz.prog w = .ok true w := by kernel_rfl
theorem asIsNil (a p : Addr) (W : World) (ha : W.cell? a = some (.pointer (some p))) :
  (ReflectliteValue.method (ReflectliteValue.valueError "reflectlite.Value.IsNil" 0) ReflectliteValue.isNil #[.agg #[.pointer (some ⟨7, 151, none⟩), .pointer (some a), .int .u64 150]]).run Tryz.prog W = .ok (.bool false) W := by
 rw [asMethodRw]
 simp only [Sem.run_bind, asPartsP, Result.andThen]
 simp [ReflectliteValue.isNil, loadVar, isAgg, underlying, Tryz.underlying151, ha, Result.andThen]
theorem asElemV (a p : Addr) (W : World) (ha : W.cell? a = some (.pointer (some p))) :
  (ReflectliteValue.method (ReflectliteValue.valueError "reflectlite.Value.Elem" 0) ReflectliteValue.elem #[.agg #[.pointer (some ⟨7, 151, none⟩), .pointer (some a), .int .u64 150]]).run Tryz.prog W
   = .ok (.agg #[.pointer (some ⟨7, 149, none⟩), .pointer (some p), .int .u64 409]) W := by
 rw [asMethodRw]
 simp only [Sem.run_bind, asPartsP, Result.andThen]
 simp [ReflectliteValue.elem, loadVar, isAgg, underlying, Tryz.underlying151, ha, Result.andThen, asElemOf, asMkS]
theorem asSetRw (v x : Value) : ReflectliteValue.set #[v, x] = (do
  let (some (dst, a, fl), some (src, b, _)) := (← ReflectliteValue.parts v, ← ReflectliteValue.parts x)
   | unsupported (.noEntry "extern/(internal/reflectlite.Value).Set.zeroValue")
  if fl / ReflectliteValue.flagAddr % 2 == 0 then unsupported (.noEntry "extern/(internal/reflectlite.Value).Set.unaddressable")
  let val ← loadVar src b
  if ← Rtype.directlyAssignable dst src then storeVar dst a val
  else if ← Rtype.implements dst src then
   if (← Rtype.kind src) == 20 then
    match val with
    | .nilIface => unsupported (.noEntry "extern/reflectlite: a nil value of one interface type handed on as a value of another")
    | _ => storeVar dst a val
   else storeVar dst a (.iface src val)
  else panicString ("reflectlite.Set: value of type " ++ (← Rtype.spelt src) ++ " is not assignable to type " ++ (← Rtype.spelt dst))
  pure (.tuple #[])) := rfl
theorem asLoad (b : Addr) (e : Int) (W : World) (hb : W.cell? b = some (.int .i64 e)) : (loadVar 149 b).run Tryz.prog W = .ok (.agg #[.int .i64 e]) W := by
 unfold loadVar
 simp only [Sem.run_bind, asAgg, Result.andThen]
 simp [loadCells, loadCellsFrom, hb, Result.andThen, Addr.add]
theorem asSet (ta b : Addr) (e : Int) (old : Value) (W : World) (hb : W.cell? b = some (.int .i64 e)) (ht : W.cell? ta = some old) (hf : W.frozen? ta = false) :
  (ReflectliteValue.set #[.agg #[.pointer (some ⟨7, 149, none⟩), .pointer (some ta), .int .u64 409], .agg #[.pointer (some ⟨7, 149, none⟩), .pointer (some b), .int .u64 153]]).run Tryz.prog W
   = .ok (.tuple #[]) (W.setCell ta (.int .i64 e)) := by
 rw [asSetRw]
 simp only [Sem.run_bind, asPartsT, asPartsS, Result.andThen]
 have hl := asLoad b e W hb
 simp [ReflectliteValue.flagAddr, hl, Result.andThen, asDirect, storeVar, Value.cells, storeCells, Addr.add]
 rw [run_store Tryz.prog W ta _ _ (by rfl)]
 simp [ht, hf]
theorem as_hit (e : Int) (t : Addr) (old : Value) (w : World) (hg : w.cell? ⟨0, 0, none⟩ = some (.iface 224 (.agg #[.pointer (some ⟨7, 95, none⟩)]))) (ht0 : w.cell? t = some old) (hf0 : w.frozen? t = false) :
  Calls Tryz.prog 80 #[WrV e, .iface 151 (.pointer (some t))] w fun ev w' => ev = .returned (.bool true) ∧ ∃ w2, Below w.heap.size w w2 ∧ w' = w2.setCell t (.int .i64 e) := by
 unfold WrV
 have h6 := @run_callFunc_extern Tryz.prog 119 _ (fun args => ReflectliteValue.unpack (args.getD 0 (.tuple #[]))) Tryz.func119 (by kernel_rfl) (by kernel_rfl) (by kernel_rfl) (by kernel_rfl)
 have h7 := @run_callFunc_extern Tryz.prog 120 _ (ReflectliteValue.methodAny (ReflectliteValue.valueError "reflectlite.Value.Type" 0) (fun t _ _ _ => ReflectliteType.toType t)) Tryz.func120 (by kernel_rfl) (by kernel_rfl) (by kernel_rfl) (by kernel_rfl)
 have h8 := @run_callFunc_extern Tryz.prog 121 _ (ReflectliteValue.method (ReflectliteValue.valueError "reflectlite.Value.IsNil" 0) ReflectliteValue.isNil) Tryz.func121 (by kernel_rfl) (by kernel_rfl) (by kernel_rfl) (by kernel_rfl)
 have h27 := @run_callFunc_extern Tryz.prog 207 _ (ReflectliteType.abiMethod fun t => do pure (.int .u8 (← Rtype.kind t))) Tryz.func207 (by kernel_rfl) (by kernel_rfl) (by kernel_rfl) (by kernel_rfl)
 have h37 := @run_callFunc_extern Tryz.prog 219 _ (ReflectliteType.method ReflectliteType.elem) Tryz.func219 (by kernel_rfl) (by kernel_rfl) (by kernel_rfl) (by kernel_rfl)
 have h38 := @run_callFunc_extern Tryz.prog 220 _ (ReflectliteType.relation "Implements" ReflectliteType.implements_) Tryz.func220 (by kernel_rfl) (by kernel_rfl) (by kernel_rfl) (by kernel_rfl)
 have h10 := @run_callFunc_extern Tryz.prog 148 _ ReflectliteType.typeOf Tryz.func148 (by kernel_rfl) (by kernel_rfl) (by kernel_rfl) (by kernel_rfl)
 have h35 := @run_callFunc_extern Tryz.prog 217 _ (ReflectliteType.relation "AssignableTo" ReflectliteType.assignableTo) Tryz.func217 (by kernel_rfl) (by kernel_rfl) (by kernel_rfl) (by kernel_rfl)
 have h11 := @run_callFunc_extern Tryz.prog 149 _ (ReflectliteValue.method (ReflectliteValue.valueError "reflectlite.Value.Elem" 0) ReflectliteValue.elem) Tryz.func149 (by kernel_rfl) (by kernel_rfl) (by kernel_rfl) (by kernel_rfl)
 have h12 := @run_callFunc_extern Tryz.prog 150 _ ReflectliteValue.set Tryz.func150 (by kernel_rfl) (by kernel_rfl) (by kernel_rfl) (by kernel_rfl)
 have tO := asTypeOfS
 have mA := asMethodAssignableTo
 have a25 := asAssignable
 have v25 := asValueOfS
 have f6 := asValueOfP
 have f7 := asTypeP
 have mK := asMethodKind
 have mE := asMethodElem
 have mI := asMethodImplements
 have k27 := asKindP
 have k25 := asKindS
 have e27 := asElemP
 have i25 := asImplements
 have hlt : 0 < w.heap.size := cell_lt hg
 have htl : t.block < w.heap.size := cell_lt ht0
 have n8 := asIsNil ⟨w.heap.size, 0, none⟩ t ((w.alloc (.cells #[.pointer (some t)] 151)).alloc (.cells #[.pointer (some ⟨7, 151, none⟩), .pointer (some ⟨w.heap.size, 0, none⟩), .int .u64 150] 187)) (by simp)
 have hg2 : ((w.alloc (.cells #[.pointer (some t)] 151)).alloc (.cells #[.pointer (some ⟨7, 151, none⟩), .pointer (some ⟨w.heap.size, 0, none⟩), .int .u64 150] 187)).cell? ⟨0, 0, none⟩ = some (.iface 224 (.agg #[.pointer (some ⟨7, 95, none⟩)])) := by
  rw [World.cell?_alloc_lt _ _ ⟨0, 0, none⟩ (by simp), World.cell?_alloc_lt _ _ ⟨0, 0, none⟩ hlt]; exact hg
 have el := asElemV ⟨w.heap.size, 0, none⟩ t (((w.alloc (.cells #[.pointer (some t)] 151)).alloc (.cells #[.pointer (some ⟨7, 151, none⟩), .pointer (some ⟨w.heap.size, 0, none⟩), .int .u64 150] 187)).alloc (.cells #[.pointer (some ⟨7, 151, none⟩), .pointer (some ⟨w.heap.size, 0, none⟩), .int .u64 150] 187)) (by rw [World.cell?_alloc_lt _ _ ⟨w.heap.size, 0, none⟩ (by simp; omega)]; simp)
 have st := asSet t ⟨w.heap.size + 1 + 1 + 1, 0, none⟩ e old ((((w.alloc (.cells #[.pointer (some t)] 151)).alloc (.cells #[.pointer (some ⟨7, 151, none⟩), .pointer (some ⟨w.heap.size, 0, none⟩), .int .u64 150] 187)).alloc (.cells #[.pointer (some ⟨7, 151, none⟩), .pointer (some ⟨w.heap.size, 0, none⟩), .int .u64 150] 187)).alloc (.cells #[.int .i64 e] 149))
  (by rw [World.cell?_alloc_at _ _ _ _ (by simp)]; rfl)
  (by rw [World.cell?_alloc_lt _ _ t (by simp; omega), World.cell?_alloc_lt _ _ t (by simp; omega), World.cell?_alloc_lt _ _ t (by simp; omega), World.cell?_alloc_lt _ _ t htl]; exact ht0)
  (by rw [World.frozen?_alloc_old _ _ t (by simp; omega), World.frozen?_alloc_old _ _ t (by simp; omega), World.frozen?_alloc_old _ _ t (by simp; omega), World.frozen?_alloc_old _ _ t (Nat.ne_of_lt htl)]; exact hf0)
 go_enter Tryz.func80, Tryz.ntmps80
 go_wp2
 refine wp_loop_rounds 1 ?_
 rw [rounds_succ]
 go_wp2
 go_ret
 exact ⟨rfl, _, (((ext_new w _).alloc (by simp) _).alloc (by simp; omega) _).alloc (by simp; omega) _, rfl⟩
end Go.Proofs.YtmebjdbkngehiaaGreatDoor
namespace Go.Proofs.YtmebjdbkngehiaaGreatDoor
open Go.RowKit
variable {w w' a b : World} {B p g : Nat} {d : DN}
def SInv (w : World) : Prop := w.cell? ⟨0, 0, none⟩ = some (.iface 224 (.agg #[.pointer (some ⟨7, 95, none⟩)]))
theorem SInv.below (h : SInv w) (hb : Below w.heap.size w w') : SInv w' := by
 unfold SInv at h ⊢
 rw [World.cell?_of_block (hb.block _ (cell_lt h))]; exact h
theorem below_drewN' (h : Below B a w) (n : Nat) : Below B a (w.drewN n) := ⟨h.os, h.tape, h.output, h.size, h.block⟩
theorem tolds_wr (s : ByteArray) (x : Int) (w : World) (h : SInv w) :
  Calls Tryz.prog 72 #[.string s, WrV x] w (Ret (.tuple #[.string ByteArray.empty, .int .i64 x]) w) := by
 have h1 := h.below (ext_new w (.cells #[.int .i64 0] 149))
 unfold SInv at h1
 go_enter Tryz.func72, Tryz.ntmps72
 go_wp2_with fail
 refine (as_hit x _ (.int .i64 0) _ h1 (by simp) (by simp)).mono ?_
 rintro e w1 ⟨rfl, w2, hb, rfl⟩
 have hB := (Blk.new_ w 149 #[.int .i64 0]).below hb
 have hC := (hB.set_ 0 (.int .i64 x)).cell 0
 have hb2 : Below w.heap.size w (w2.setCell ⟨w.heap.size, 0, none⟩ (.int .i64 x)) := (ext_trans (ext_new w _) hb).setCell (by simp) _
 simp only [List.setIfInBounds_toArray, List.set_cons_zero, List.getElem?_toArray, List.getElem?_cons_zero] at hC
 generalize w2.setCell ⟨w.heap.size, 0, none⟩ (.int .i64 x) = W at *
 go_wp2_with fail
 go_quiet (fail)
 go_wp2_with fail
 go_ret2
 exact ⟨rfl, below_drewN' hb2 _⟩
theorem toldi_wr (n : Int) (x : Int) (w : World) (h : SInv w) :
  Calls Tryz.prog 49 #[.int .i64 n, WrV x] w (Ret (.tuple #[.int .i64 0, .int .i64 x]) w) := by
 have h1 := h.below (ext_new w (.cells #[.int .i64 0] 149))
 unfold SInv at h1
 go_enter Tryz.func49, Tryz.ntmps49
 go_wp2_with fail
 refine (as_hit x _ (.int .i64 0) _ h1 (by simp) (by simp)).mono ?_
 rintro e w1 ⟨rfl, w2, hb, rfl⟩
 have hB := (Blk.new_ w 149 #[.int .i64 0]).below hb
 have hC := (hB.set_ 0 (.int .i64 x)).cell 0
 have hb2 : Below w.heap.size w (w2.setCell ⟨w.heap.size, 0, none⟩ (.int .i64 x)) := (ext_trans (ext_new w _) hb).setCell (by simp) _
 simp only [List.setIfInBounds_toArray, List.set_cons_zero, List.getElem?_toArray, List.getElem?_cons_zero] at hC
 generalize w2.setCell ⟨w.heap.size, 0, none⟩ (.int .i64 x) = W at *
 go_wp2_with fail
 go_quiet (fail)
 go_wp2_with fail
 go_ret2
 exact ⟨rfl, below_drewN' hb2 _⟩
def cellB (b : UInt8) : Value := .int .u8 (b.toNat : Int)
def cellsB (l : List UInt8) : List Value := l.map cellB
theorem cellsB_length (l : List UInt8) : (cellsB l).length = l.length := by simp [cellsB]
structure DAt (w : World) (p g : Nat) (d : DN) : Prop where
 disk : Blk w p 93 #[.slice (some ⟨g, 0, none⟩) d.L.length d.L.length, .int .i64 (d.left : Int), .int .i64 (d.cut : Int), .bool d.down, .int .i64 (d.n : Int)]
 secs : Blk w g 102 (cellsB d.L.flatten).toArray
 ne : p ≠ g
 fit : d.Fit
 len : d.L.length ≤ 256
 left : d.left ≤ 9223372036854775807
 n : d.n ≤ 1000000
structure But2 (p g : Nat) (w w' : World) : Prop where
 os : w'.os = w.os
 tape : w'.tape = w.tape
 output : w'.output = w.output
 size : w.heap.size ≤ w'.heap.size
 block : ∀ k, k < w.heap.size → k ≠ p → k ≠ g → w'.heap[k]? = w.heap[k]?
theorem But2.refl (p g : Nat) (w : World) : But2 p g w w := ⟨rfl, rfl, rfl, Nat.le_refl _, fun _ _ _ _ => rfl⟩
theorem But2.trans {c : World} (h : But2 p g a b) (k : But2 p g b c) : But2 p g a c :=
 ⟨k.os.trans h.os, k.tape.trans h.tape, k.output.trans h.output, Nat.le_trans h.size k.size, fun i hi h1 h2 => (k.block i (Nat.lt_of_lt_of_le hi h.size) h1 h2).trans (h.block i hi h1 h2)⟩
theorem But2.of_below (h : Below a.heap.size a b) : But2 p g a b := ⟨h.os, h.tape, h.output, h.size, fun k hk _ _ => h.block k hk⟩
theorem But2.below (h : But2 p g a b) (h1 : B ≤ p) (h2 : B ≤ g) (h3 : B ≤ a.heap.size) : Below B a b := ⟨h.os, h.tape, h.output, h.size, fun k hk => h.block k (by omega) (by omega) (by omega)⟩
theorem But2.set1 (h : But2 p g a b) (i : Nat) (v : Value) : But2 p g a (b.setCell ⟨p, i, none⟩ v) :=
 ⟨h.os, h.tape, h.output, by rw [World.size_setCell]; exact h.size, fun k hk h1 h2 => by
  rw [show (b.setCell ⟨p, i, none⟩ v).heap[k]? = b.heap[k]? by simp [World.setCell, Array.getElem?_modify, Ne.symm h1]]
  exact h.block k hk h1 h2⟩
theorem DAt.below (h : DAt w p g d) (hb : Below w.heap.size w w') : DAt w' p g d := ⟨h.disk.below hb, h.secs.below hb, h.ne, h.fit, h.len, h.left, h.n⟩
theorem IsDown_any (h : DAt w p g d) : Calls Tryz.prog 36 #[.pointer (some ⟨p, 0, none⟩)] w (Pure (.bool d.down) w) := by
 obtain ⟨c0, c1, c2, c3, c4, -⟩ := h.disk.c5
 generalize d.down = b at *
 go_enter Tryz.func36, Tryz.ntmps36
 go_wp2_with fail
 go_ret
 exact ⟨by cases b <;> rfl, rfl⟩
theorem Sectors_any (h : DAt w p g d) : Calls Tryz.prog 92 #[.pointer (some ⟨p, 0, none⟩)] w (Pure (.int .i64 (d.L.length : Int)) w) := by
 obtain ⟨c0, c1, c2, c3, c4, -⟩ := h.disk.c5
 generalize d.L.length = n at *
 go_enter Tryz.func92, Tryz.ntmps92
 go_wp2_with fail
 go_ret
 exact ⟨rfl, rfl⟩
theorem Writes_any (h : DAt w p g d) : Calls Tryz.prog 27 #[.pointer (some ⟨p, 0, none⟩)] w (Pure (.int .i64 (d.n : Int)) w) := by
 obtain ⟨c0, c1, c2, c3, c4, -⟩ := h.disk.c5
 generalize d.n = n at *
 go_enter Tryz.func27, Tryz.ntmps27
 go_wp2_with fail
 go_ret
 exact ⟨rfl, rfl⟩
def Turned (v : Value) (p g : Nat) (d : DN) (w : World) (e : Ending) (w' : World) : Prop := e = .returned v ∧ DAt w' p g d ∧ But2 p g w w'
theorem Restart_any (h : DAt w p g d) : Calls Tryz.prog 37 #[.pointer (some ⟨p, 0, none⟩)] w (Turned (.int .i64 0) p g d.restart w) := by
 obtain ⟨c0, c1, c2, c3, c4, g0, g1, g2, g3, g4⟩ := h.disk.c5
 go_enter Tryz.func37, Tryz.ntmps37
 go_wp2_with fail
 go_ret
 have q := ((h.disk.set_ 1 (.int .i64 0)).set_ 2 (.int .i64 0)).set_ 3 (.bool false)
 simp only [List.setIfInBounds_toArray, List.set_cons_succ, List.set_cons_zero] at q
 refine ⟨rfl, ⟨q, ((h.secs.set_other h.ne.symm _ _).set_other h.ne.symm _ _).set_other h.ne.symm _ _, h.ne, (DN.restart_fit h.fit).1, h.len, Nat.zero_le _, h.n⟩, ?_⟩
 exact (((But2.refl p g w).set1 _ _).set1 _ _).set1 _ _
attribute [local go_sem] Oper.semAt_some
theorem has_any (A : Option Addr) (n c : Nat) (i : Int) (w : World) : Calls Tryz.prog 48 #[.agg #[.slice A n c], .int .i64 i] w (Ret (.bool (decide (0 ≤ i) && decide (i < (n : Int)))) w) := by
 by_cases h : 0 ≤ i
 ·go_enter Tryz.func48, Tryz.ntmps48
  go_wp2_with fail
  go_ret
  exact ⟨by simp [h], ext_new w _⟩
 ·go_enter Tryz.func48, Tryz.ntmps48
  go_wp2_with fail
  go_ret
  exact ⟨by first | (simp []; done) | (simp; omega), ext_new w _⟩
def HoldsAt (w : World) (hv : Value) (b : Bool) : Prop :=
 ∃ f lb, hv = .func (.func f) #[] lb ∧ (∀ args w, (callFunc f args).run Tryz.prog w = .ok (.enter f args) w) ∧ ∀ w', Below w.heap.size w w' → Calls Tryz.prog f lb w' (Ret (.bool b) w')
theorem HoldsAt.below {hv : Value} {b : Bool} (h : HoldsAt w hv b) (hb : Below w.heap.size w w') : HoldsAt w' hv b := by
 obtain ⟨f, lb, h1, h2, h3⟩ := h
 exact ⟨f, lb, h1, h2, fun w2 h4 => h3 w2 (ext_trans hb h4)⟩
def RuleAt (w : World) (v : Value) (b : Bool) (e : Int) : Prop :=
 ∃ hb he hv, v = .func (.func 79) #[] #[.pointer (some ⟨hb, 0, none⟩), .pointer (some ⟨he, 0, none⟩)] ∧ w.cell? ⟨hb, 0, none⟩ = some hv ∧ w.cell? ⟨he, 0, none⟩ = some (.int .i64 e) ∧ HoldsAt w hv b
theorem RuleAt.below {v : Value} {b : Bool} {e : Int} (h : RuleAt w v b e) (hb : Below w.heap.size w w') : RuleAt w' v b e := by
 obtain ⟨x, y, hv, h1, h2, h3, h4⟩ := h
 exact ⟨x, y, hv, h1, cell_later hb h2, cell_later hb h3, h4.below hb⟩
def ruleV (b : Bool) (e : Int) : Value := if b then .nilIface else WrV e
theorem must_any (hv : Value) (b : Bool) (e : Int) (w : World) (h : HoldsAt w hv b) (hf : ∃ f lb, hv = .func (.func f) #[] lb) :
  Calls Tryz.prog 46 #[hv, .int .i64 e] w fun x w' => ∃ v, x = .returned v ∧ RuleAt w' v b e ∧ Below w.heap.size w w' := by
 obtain ⟨f, lb, rfl⟩ := hf
 go_enter Tryz.func46, Tryz.ntmps46
 go_wp2_with fail
 go_ret
 have hb := ext_alloc (ext_new w (.cells #[.func (.func f) #[] lb] 26)) (.cells #[.int .i64 e] 30)
 exact ⟨_, rfl, ⟨_, _, _, rfl, by simp, by simp, h.below hb⟩, hb⟩
theorem rule_any (b : Bool) (e : Int) (hb he f : Nat) (lb : Array Value) (w : World) (h1 : w.cell? ⟨hb, 0, none⟩ = some (.func (.func f) #[] lb)) (h2 : w.cell? ⟨he, 0, none⟩ = some (.int .i64 e))
  (h3 : ∀ args w, (callFunc f args).run Tryz.prog w = .ok (.enter f args) w) (h4 : Calls Tryz.prog f lb w (Ret (.bool b) w)) :
  Calls Tryz.prog 79 #[.pointer (some ⟨hb, 0, none⟩), .pointer (some ⟨he, 0, none⟩)] w (Ret (ruleV b e) w) := by
 go_enter Tryz.func79, Tryz.ntmps79
 go_wp2_with fail
 refine h4.mono ?_
 rintro x w1 ⟨rfl, hb1⟩
 have h2 := cell_later hb1 h2
 cases b
 ·go_wp2_with fail
  go_ret
  exact ⟨rfl, hb1⟩
 ·go_wp2_with fail
  go_ret
  exact ⟨rfl, hb1⟩
def firstE : List (Bool × Int) → Value
 | [] => .nilIface
 | (b, e) :: l => if b then firstE l else WrV e
theorem firstE_at : ∀ (xs : List (Bool × Int)) (k : Nat) (h : k < xs.length), (∀ j, (hj : j < k) → xs[j].1 = true) → xs[k].1 = false → firstE xs = WrV xs[k].2
 | (b, e) :: l, 0, _, _, hb => by
  have hb : b = false := hb
  subst hb
  rfl
 | (b, e) :: l, k + 1, h, ha, hb => by
  have h0 : b = true := ha 0 (by omega)
  subst h0
  exact firstE_at l k (by simpa using h) (fun j hj => ha (j + 1) (by omega)) hb
theorem firstE_all : ∀ (xs : List (Bool × Int)), (∀ j (h : j < xs.length), xs[j].1 = true) → firstE xs = .nilIface
 | [], _ => rfl
 | (b, e) :: l, h => by
  have h0 : b = true := h 0 (by simp)
  subst h0
  exact firstE_all l fun j hj => h (j + 1) (by simpa using hj)
def RulesAt (w : World) (r : Nat) (xs : List (Bool × Int)) : Prop := ∀ i, (h : i < xs.length) → ∃ v, w.cell? ⟨r, i, none⟩ = some v ∧ RuleAt w v xs[i].1 xs[i].2
theorem check_any (p r : Nat) (xs : List (Bool × Int)) (w : World) (hx : RulesAt w r xs) (hl : xs.length ≤ 1000) :
  Calls Tryz.prog 44 #[.pointer (some ⟨p, 0, none⟩), .slice (some ⟨r, 0, none⟩) xs.length xs.length] w (Ret (firstE xs) w) := by
 go_enter Tryz.func44, Tryz.ntmps44
 go_wp2_with fail
 go_loopw [14] (fun i wr => ∃ k : Nat, k ≤ xs.length ∧ i = .int .i64 (k : Int) ∧ (∀ j, (hj : j < k) → (h : j < xs.length) → xs[j].1 = true) ∧ Below w.heap.size w wr) (fun i _ => xs.length - (intOf i).toNat)
 case atStart => exact ⟨0, Nat.zero_le _, rfl, fun j hj => by omega, ext_refl _⟩
 case round =>
  obtain ⟨k, hk, rfl, hall, hbe⟩ := hrel
  have HA := Lib.hid hall
  clear hall
  by_cases hlt : k < xs.length
  ·obtain ⟨v, hc, hb, he, hv, rfl, m1, m2, f, lb, rfl, m3, m4⟩ := hx k hlt
   generalize hbk : xs[k].1 = bk at m4
   have HBK := Lib.hid hbk
   clear hbk
   generalize hak : xs[k].2 = ak at m2
   have HAK := Lib.hid hak
   clear hak
   have hr := rule_any bk ak hb he f lb wr (cell_later hbe m1) (cell_later hbe m2) m3 (m4 wr hbe)
   have hc' := cell_later hbe hc
   clear hc m1 m2 m3 m4
   have i1 : (0 : Int) ≤ (k : Int) := by omega
   have i2 : (k : Int) < (xs.length : Int) := by omega
   cases bk
   ·rw [show ruleV false ak = WrV ak from rfl] at hr
    unfold WrV at hr
    go_wp2_with fail
    refine hr.mono ?_
    rintro x w1 ⟨rfl, hb1⟩
    go_wp2_with fail
    go_ret
    exact ⟨by rw [firstE_at xs k hlt (fun j hj => HA.out j hj (by omega)) HBK.out, HAK.out]; rfl, hbe.trans (hb1.mono hbe.size)⟩
   ·rw [show ruleV true ak = .nilIface from rfl] at hr
    go_wp2_with fail
    refine hr.mono ?_
    rintro x w1 ⟨rfl, hb1⟩
    go_wp2_with fail
    go_roundw
    case rel =>
     refine ⟨k + 1, by omega, by go_num, fun j hj h => ?_, hbe.trans (hb1.mono hbe.size)⟩
     by_cases hjk : j = k
     ·subst hjk; exact HBK.out
     ·exact HA.out j (by omega) h
    case measure => simp [intOf]; omega
  ·have i2 : ¬ (k : Int) < (xs.length : Int) := by omega
   go_wp2_with fail
   go_ret
   exact ⟨by rw [firstE_all xs (fun i hi => HA.out i (by omega) hi)]; rfl, hbe⟩
end Go.Proofs.YtmebjdbkngehiaaGreatDoor
