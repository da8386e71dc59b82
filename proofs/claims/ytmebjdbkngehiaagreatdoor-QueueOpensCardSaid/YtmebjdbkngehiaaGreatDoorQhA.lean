/-
  errors.As at a target of a struct type of one field, queue.wrong: its contracts at this translation, and more of the kind. Conditions: as the theorems' own hypotheses say.
-/
import Derived.Test.YtmebjdbkngehiaaGreatDoorQgK
import Derived.Test.YtmebjdbkngehiaaGreatDoorQgA
import Derived.Lib.Strings
import Derived.Test.YtmebjdbkngehiaaGreatDoorQgR
import Derived.Deep.AppendLies
import Derived.Deep.RegionHeld
import Derived.Maps.OwnIn
namespace Go.Proofs.YtmebjdbkngehiaaGreatDoor
open Go.RowKit Go.Extern.Stop Go.Stop Go.Extern
set_option maxHeartbeats 4000000
def QWrV (e : Int) : Value := .iface 163 (.agg #[.int .i64 e])
theorem qasValueOfP (t : Addr) (w : World) : (ReflectliteValue.unpack (.iface 166 (.pointer (some t)))).run Tryz.prog w
  = .ok (.agg #[.pointer (some ⟨7, 166, none⟩), .pointer (some ⟨w.heap.size, 0, none⟩), .int .u64 150]) (w.alloc (.cells #[.pointer (some t)] 166)) := by kernel_rfl
theorem qasTypeP (a : Addr) (w : World) : (ReflectliteValue.methodAny (ReflectliteValue.valueError "reflectlite.Value.Type" 0) (fun t _ _ _ => ReflectliteType.toType t) #[.agg #[.pointer (some ⟨7, 166, none⟩), .pointer (some a), .int .u64 150]]).run Tryz.prog w
  = .ok (.iface 224 (.agg #[.pointer (some ⟨7, 166, none⟩)])) w := by kernel_rfl
theorem qasMethodKind (h : Value) (w : World) : (Go.method 430 224 (.agg #[h]) "Kind").run Tryz.prog w = .ok (207, h) w := by kernel_rfl
theorem qasKindP (w : World) : ((ReflectliteType.abiMethod fun t => (fun a : Nat => Value.int IntKind.u8 (a : Int)) <$> Rtype.kind t) #[.pointer (some ⟨7, 166, none⟩)]).run Tryz.prog w = .ok (.int .u8 22) w := by kernel_rfl
theorem qasKindS (w : World) : ((ReflectliteType.abiMethod fun t => (fun a : Nat => Value.int IntKind.u8 (a : Int)) <$> Rtype.kind t) #[.pointer (some ⟨7, 163, none⟩)]).run Tryz.prog w = .ok (.int .u8 25) w := by kernel_rfl
theorem qasMethodElem (h : Value) (w : World) : (Go.method 430 224 (.agg #[h]) "Elem").run Tryz.prog w = .ok (219, .agg #[h]) w := by kernel_rfl
theorem qasMethodImplements (h : Value) (w : World) : (Go.method 430 224 (.agg #[h]) "Implements").run Tryz.prog w = .ok (220, .agg #[h]) w := by kernel_rfl
theorem qasMethodAssignableTo (h : Value) (w : World) : (Go.method 430 224 (.agg #[h]) "AssignableTo").run Tryz.prog w = .ok (217, .agg #[h]) w := by kernel_rfl
theorem qasElemP (w : World) : (ReflectliteType.method ReflectliteType.elem #[.agg #[.pointer (some ⟨7, 166, none⟩)]]).run Tryz.prog w = .ok (.iface 224 (.agg #[.pointer (some ⟨7, 163, none⟩)])) w := by kernel_rfl
theorem qasImplements (w : World) : (ReflectliteType.relation "Implements" ReflectliteType.implements_ #[.agg #[.pointer (some ⟨7, 163, none⟩)], .iface 224 (.agg #[.pointer (some ⟨7, 95, none⟩)])]).run Tryz.prog w = .ok (.bool true) w := by kernel_rfl
theorem qasTypeOfS (v : Value) (w : World) : (ReflectliteType.typeOf #[.iface 163 v]).run Tryz.prog w = .ok (.iface 224 (.agg #[.pointer (some ⟨7, 163, none⟩)])) w := by kernel_rfl
theorem qasAssignable (w : World) : (ReflectliteType.relation "AssignableTo" ReflectliteType.assignableTo #[.agg #[.pointer (some ⟨7, 163, none⟩)], .iface 224 (.agg #[.pointer (some ⟨7, 163, none⟩)])]).run Tryz.prog w = .ok (.bool true) w := by kernel_rfl
theorem qasValueOfS (e : Int) (w : World) : (ReflectliteValue.unpack (.iface 163 (.agg #[.int .i64 e]))).run Tryz.prog w
  = .ok (.agg #[.pointer (some ⟨7, 163, none⟩), .pointer (some ⟨w.heap.size, 0, none⟩), .int .u64 153]) (w.alloc (.cells #[.int .i64 e] 163)) := by kernel_rfl
theorem qasElemOf (w : World) : (Rtype.elem? 166).run Tryz.prog w = .ok (some 163) w := by kernel_rfl
theorem qasMkS (p : Addr) (w : World) : (ReflectliteValue.mk 163 p ReflectliteValue.flagAddr).run Tryz.prog w = .ok (.agg #[.pointer (some ⟨7, 163, none⟩), .pointer (some p), .int .u64 409]) w := by kernel_rfl
theorem qasMethodRw (z : Sem Value) (f : TypeId → Addr → Nat → Nat → Sem Value) (v : Value) :
  ReflectliteValue.method z f #[v] = (do match ← ReflectliteValue.parts v with | none => z | some (t, a, fl) => f t a fl (fl % 32)) := rfl
theorem qasPartsP (a : Addr) (w : World) : (ReflectliteValue.parts (.agg #[.pointer (some ⟨7, 166, none⟩), .pointer (some a), .int .u64 150])).run Tryz.prog w = .ok (some (166, a, 150)) w := by kernel_rfl
theorem qasPartsT (a : Addr) (w : World) : (ReflectliteValue.parts (.agg #[.pointer (some ⟨7, 163, none⟩), .pointer (some a), .int .u64 409])).run Tryz.prog w = .ok (some (163, a, 409)) w := by kernel_rfl
theorem qasPartsS (a : Addr) (w : World) : (ReflectliteValue.parts (.agg #[.pointer (some ⟨7, 163, none⟩), .pointer (some a), .int .u64 153])).run Tryz.prog w = .ok (some (163, a, 153)) w := by kernel_rfl
theorem qasDirect (w : World) : (Rtype.directlyAssignable 163 163).run Tryz.prog w = .ok true w := by kernel_rfl
theorem qasSize (w : World) : (sizeOf 163).run Tryz.prog w = .ok 1 w := by kernel_rfl
theorem qasAgg (w : World) : (isAgg 163).run Tryz.prog w = .ok true w := by kernel_rfl
theorem qasIsNil (a p : Addr) (W : World) (ha : W.cell? a = some (.pointer (some p))) :
  (ReflectliteValue.method (ReflectliteValue.valueError "reflectlite.Value.IsNil" 0) ReflectliteValue.isNil #[.agg #[.pointer (some ⟨7, 166, none⟩), .pointer (some a), .int .u64 150]]).run Tryz.prog W = .ok (.bool false) W := by
 rw [qasMethodRw]
 simp only [Sem.run_bind, qasPartsP, Result.andThen]
 simp [ReflectliteValue.isNil, loadVar, isAgg, underlying, Tryz.underlying166, ha, Result.andThen]
theorem qasElemV (a p : Addr) (W : World) (ha : W.cell? a = some (.pointer (some p))) :
  (ReflectliteValue.method (ReflectliteValue.valueError "reflectlite.Value.Elem" 0) ReflectliteValue.elem #[.agg #[.pointer (some ⟨7, 166, none⟩), .pointer (some a), .int .u64 150]]).run Tryz.prog W
   = .ok (.agg #[.pointer (some ⟨7, 163, none⟩), .pointer (some p), .int .u64 409]) W := by
 rw [qasMethodRw]
 simp only [Sem.run_bind, qasPartsP, Result.andThen]
 simp [ReflectliteValue.elem, loadVar, isAgg, underlying, Tryz.underlying166, ha, Result.andThen, qasElemOf, qasMkS]
theorem qasSetRw (v x : Value) : ReflectliteValue.set #[v, x] = (do
  let (some (dst, a, fl), some (src, b, _)) := (← ReflectliteValue.parts v, ← ReflectliteValue.parts x)
   | unsupported (.noEntry "extern/(internal/reflectlite.Value).Set.zeroValue")
  if fl / ReflectliteValue.flagAddr % 2 == 0 then unsupported (.noEntry "extern/(internal/reflectlite.Value).Set.unaddressable")
  let val ← loadVar src b
  if ← Rtype.directlyAssignable dst src then storeVar dst a val
  else if ← Rtype.implements dst src then
   if (← Rtype.kind src) == 20 then
    match val with
    | .nilIface => unsupported (.noEntry "extern/reflectlite: a nil value of one interface type handed on as a value of another")
    | _ => storeVar dst a val
   else storeVar dst a (.iface src val)
  else panicString ("reflectlite.Set: value of type " ++ (← Rtype.spelt src) ++ " is not assignable to type " ++ (← Rtype.spelt dst))
  pure (.tuple #[])) := rfl
theorem qasLoad (b : Addr) (e : Int) (W : World) (hb : W.cell? b = some (.int .i64 e)) : (loadVar 163 b).run Tryz.prog W = .ok (.agg #[.int .i64 e]) W := by
 unfold loadVar
 simp only [Sem.run_bind, qasAgg, Result.andThen]
 simp [loadCells, loadCellsFrom, hb, Result.andThen, Addr.add]
theorem qasSet (ta b : Addr) (e : Int) (old : Value) (W : World) (hb : W.cell? b = some (.int .i64 e)) (ht : W.cell? ta = some old) (hf : W.frozen? ta = false) :
  (ReflectliteValue.set #[.agg #[.pointer (some ⟨7, 163, none⟩), .pointer (some ta), .int .u64 409], .agg #[.pointer (some ⟨7, 163, none⟩), .pointer (some b), .int .u64 153]]).run Tryz.prog W
   = .ok (.tuple #[]) (W.setCell ta (.int .i64 e)) := by
 rw [qasSetRw]
 simp only [Sem.run_bind, qasPartsT, qasPartsS, Result.andThen]
 have hl := qasLoad b e W hb
 simp [ReflectliteValue.flagAddr, hl, Result.andThen, qasDirect, storeVar, Value.cells, storeCells, Addr.add]
 rw [run_store Tryz.prog W ta _ _ (by rfl)]
 simp [ht, hf]
theorem qas_hit (e : Int) (t : Addr) (old : Value) (w : World) (hg : w.cell? ⟨0, 0, none⟩ = some (.iface 224 (.agg #[.pointer (some ⟨7, 95, none⟩)]))) (ht0 : w.cell? t = some old) (hf0 : w.frozen? t = false) :
  Calls Tryz.prog 80 #[QWrV e, .iface 166 (.pointer (some t))] w fun ev w' => ev = .returned (.bool true) ∧ ∃ w2, Below w.heap.size w w2 ∧ w' = w2.setCell t (.int .i64 e) := by
 unfold QWrV
 have h6 := @run_callFunc_extern Tryz.prog 119 _ (fun args => ReflectliteValue.unpack (args.getD 0 (.tuple #[]))) Tryz.func119 (by kernel_rfl) (by kernel_rfl) (by kernel_rfl) (by kernel_rfl)
 have h7 := @run_callFunc_extern Tryz.prog 120 _ (ReflectliteValue.methodAny (ReflectliteValue.valueError "reflectlite.Value.Type" 0) (fun t _ _ _ => ReflectliteType.toType t)) Tryz.func120 (by kernel_rfl) (by kernel_rfl) (by kernel_rfl) (by kernel_rfl)
 have h8 := @run_callFunc_extern Tryz.prog 121 _ (ReflectliteValue.method (ReflectliteValue.valueError "reflectlite.Value.IsNil" 0) ReflectliteValue.isNil) Tryz.func121 (by kernel_rfl) (by kernel_rfl) (by kernel_rfl) (by kernel_rfl)
 have h27 := @run_callFunc_extern Tryz.prog 207 _ (ReflectliteType.abiMethod fun t => do pure (.int .u8 (← Rtype.kind t))) Tryz.func207 (by kernel_rfl) (by kernel_rfl) (by kernel_rfl) (by kernel_rfl)
 have h37 := @run_callFunc_extern Tryz.prog 219 _ (ReflectliteType.method ReflectliteType.elem) Tryz.func219 (by kernel_rfl) (by kernel_rfl) (by kernel_rfl) (by kernel_rfl)
 have h38 := @run_callFunc_extern Tryz.prog 220 _ (ReflectliteType.relation "Implements" ReflectliteType.implements_) Tryz.func220 (by kernel_rfl) (by kernel_rfl) (by kernel_rfl) (by kernel_rfl)
 have h10 := @run_callFunc_extern Tryz.prog 148 _ ReflectliteType.typeOf Tryz.func148 (by kernel_rfl) (by kernel_rfl) (by kernel_rfl) (by kernel_rfl)
 have h35 := @run_callFunc_extern Tryz.prog 217 _ (ReflectliteType.relation "AssignableTo" ReflectliteType.assignableTo) Tryz.func217 (by kernel_rfl) (by kernel_rfl) (by kernel_rfl) (by kernel_rfl)
 have h11 := @run_callFunc_extern Tryz.prog 149 _ (ReflectliteValue.method (ReflectliteValue.valueError "reflectlite.Value.Elem" 0) ReflectliteValue.elem) Tryz.func149 (by kernel_rfl) (by kernel_rfl) (by kernel_rfl) (by kernel_rfl)
 have h12 := @run_callFunc_extern Tryz.prog 150 _ ReflectliteValue.set Tryz.func150 (by kernel_rfl) (by kernel_rfl) (by kernel_rfl) (by kernel_rfl)
 have tO := qasTypeOfS
 have mA := qasMethodAssignableTo
 have a25 := qasAssignable
 have v25 := qasValueOfS
 have f6 := qasValueOfP
 have f7 := qasTypeP
 have mK := qasMethodKind
 have mE := qasMethodElem
 have mI := qasMethodImplements
 have k27 := qasKindP
 have k25 := qasKindS
 have e27 := qasElemP
 have i25 := qasImplements
 have hlt : 0 < w.heap.size := cell_lt hg
 have htl : t.block < w.heap.size := cell_lt ht0
 have n8 := qasIsNil ⟨w.heap.size, 0, none⟩ t ((w.alloc (.cells #[.pointer (some t)] 166)).alloc (.cells #[.pointer (some ⟨7, 166, none⟩), .pointer (some ⟨w.heap.size, 0, none⟩), .int .u64 150] 187)) (by simp)
 have hg2 : ((w.alloc (.cells #[.pointer (some t)] 166)).alloc (.cells #[.pointer (some ⟨7, 166, none⟩), .pointer (some ⟨w.heap.size, 0, none⟩), .int .u64 150] 187)).cell? ⟨0, 0, none⟩ = some (.iface 224 (.agg #[.pointer (some ⟨7, 95, none⟩)])) := by
  rw [World.cell?_alloc_lt _ _ ⟨0, 0, none⟩ (by simp), World.cell?_alloc_lt _ _ ⟨0, 0, none⟩ hlt]; exact hg
 have el := qasElemV ⟨w.heap.size, 0, none⟩ t (((w.alloc (.cells #[.pointer (some t)] 166)).alloc (.cells #[.pointer (some ⟨7, 166, none⟩), .pointer (some ⟨w.heap.size, 0, none⟩), .int .u64 150] 187)).alloc (.cells #[.pointer (some ⟨7, 166, none⟩), .pointer (some ⟨w.heap.size, 0, none⟩), .int .u64 150] 187)) (by rw [World.cell?_alloc_lt _ _ ⟨w.heap.size, 0, none⟩ (by simp; omega)]; simp)
 have st := qasSet t ⟨w.heap.size + 1 + 1 + 1, 0, none⟩ e old ((((w.alloc (.cells #[.pointer (some t)] 166)).alloc (.cells #[.pointer (some ⟨7, 166, none⟩), .pointer (some ⟨w.heap.size, 0, none⟩), .int .u64 150] 187)).alloc (.cells #[.pointer (some ⟨7, 166, none⟩), .pointer (some ⟨w.heap.size, 0, none⟩), .int .u64 150] 187)).alloc (.cells #[.int .i64 e] 163))
  (by rw [World.cell?_alloc_at _ _ _ _ (by simp)]; rfl)
  (by rw [World.cell?_alloc_lt _ _ t (by simp; omega), World.cell?_alloc_lt _ _ t (by simp; omega), World.cell?_alloc_lt _ _ t (by simp; omega), World.cell?_alloc_lt _ _ t htl]; exact ht0)
  (by rw [World.frozen?_alloc_old _ _ t (by simp; omega), World.frozen?_alloc_old _ _ t (by simp; omega), World.frozen?_alloc_old _ _ t (by simp; omega), World.frozen?_alloc_old _ _ t (Nat.ne_of_lt htl)]; exact hf0)
 go_enter Tryz.func80, Tryz.ntmps80
 go_wp2
 refine wp_loop_rounds 1 ?_
 rw [rounds_succ]
 go_wp2
 go_ret
 exact ⟨rfl, _, (((ext_new w _).alloc (by simp) _).alloc (by simp; omega) _).alloc (by simp; omega) _, rfl⟩
end Go.Proofs.YtmebjdbkngehiaaGreatDoor
namespace Go.Proofs.YtmebjdbkngehiaaGreatDoor
open Go.RowKit
set_option maxHeartbeats 4000000
variable {w w' a b c : World} {A : Option Addr} {vs xs : List Value} {base n size g : Nat} {t : TypeId} {V : Value} {α : Type} {l : List EI} {F G : Nat → Prop} {s : SN}
theorem qtold_ok (w : World) : Calls Tryz.prog 62 #[.nilIface] w (Ret (.int .i64 0) w) := by
 have hb := ext_new w (.cells #[.int .i64 0] 163)
 go_enter Tryz.func62, Tryz.ntmps62
 go_wp2_with fail
 refine (as_nil _ _).mono ?_
 rintro e w1 ⟨rfl, rfl⟩
 go_wp2_with fail
 go_ret
 exact ⟨rfl, hb⟩
theorem qtold_wr (x : Int) (w : World) (h : SInv w) : Calls Tryz.prog 62 #[QWrV x] w (Ret (.int .i64 x) w) := by
 have h1 := h.below (ext_new w (.cells #[.int .i64 0] 163))
 unfold SInv at h1
 go_enter Tryz.func62, Tryz.ntmps62
 go_wp2_with fail
 refine (qas_hit x _ (.int .i64 0) _ h1 (by simp) (by simp)).mono ?_
 rintro e w1 ⟨rfl, w2, hb, rfl⟩
 have hB := (Blk.new_ w 163 #[.int .i64 0]).below hb
 have hC := (hB.set_ 0 (.int .i64 x)).cell 0
 have hb2 : Below w.heap.size w (w2.setCell ⟨w.heap.size, 0, none⟩ (.int .i64 x)) := (ext_trans (ext_new w _) hb).setCell (by simp) _
 simp only [List.setIfInBounds_toArray, List.set_cons_zero, List.getElem?_toArray, List.getElem?_cons_zero] at hC
 generalize w2.setCell ⟨w.heap.size, 0, none⟩ (.int .i64 x) = W at *
 go_wp2_with fail
 go_ret
 exact ⟨rfl, hb2⟩
theorem str_eqb (a b : ByteArray) : (a.toList == b.toList) = decide (a = b) := by
 rw [Lib.toList_data, Lib.toList_data]
 by_cases h : a = b
 ·rw [decide_eq_true h, h]; simp
 ·rw [decide_eq_false h]
  refine beq_eq_false_iff_ne.2 fun e => h ?_
  apply ByteArray.ext
  rw [← Array.toList_inj]
  exact e
def RowAt (w : World) (A : Option Addr) (vs : List Value) : Prop := 0 < vs.length → ∃ g, A = some ⟨g, 0, none⟩ ∧ g < w.heap.size ∧ ∀ (i : Nat) (h : i < vs.length), w.cell? ⟨g, i, none⟩ = some vs[i]
theorem RowAt.below (h : RowAt w A vs) (hb : Below w.heap.size w w') : RowAt w' A vs := fun hp => by
 obtain ⟨g, h1, h2, h3⟩ := h hp
 exact ⟨g, h1, Nat.lt_of_lt_of_le h2 hb.size, fun i hi => (hb.cell (p := ⟨g, i, none⟩) h2).trans (h3 i hi)⟩
theorem row_own (h : w.ownsRow base t size V n vs) : ∃ A c, V = .slice A n c ∧ RowAt w A vs := by
 have h' := h
 obtain ⟨-, ⟨rfl, h0⟩ | ⟨g, cap, cur, rfl, -⟩⟩ := h'
 ·subst h0
  have := h.1
  exact ⟨none, 0, rfl, fun hp => by omega⟩
 ·refine ⟨some ⟨g, 0, none⟩, cap, rfl, fun hp => ⟨g, rfl, (h.lt g rfl).2, fun i hi => ?_⟩⟩
  have k1 := h.cells rfl i vs[i] (List.getElem?_eq_getElem hi)
  have ha : (⟨g, 0, none⟩ : Addr).add i = ⟨g, i, none⟩ := by unfold Addr.add; split <;> simp_all
  rw [ha] at k1
  exact k1
def idxZ {α : Type} (p : α → Bool) (l : List α) : Int := if l.any p = true then (l.findIdx p : Int) else -1
theorem idxZ_at {p : α → Bool} {l : List α} {i : Nat} (h : i < l.length) (hp : p l[i] = true) (hn : ∀ j, j < i → ∀ (hj : j < l.length), p l[j] = false) : idxZ p l = (i : Int) := by
 rw [idxZ, if_pos (List.any_eq_true.2 ⟨l[i], List.getElem_mem h, hp⟩), (List.findIdx_eq h).2 ⟨hp, fun j hj => hn j hj (by omega)⟩]
theorem idxZ_none {p : α → Bool} {l : List α} (h : ∀ j (hj : j < l.length), p l[j] = false) : idxZ p l = -1 := by
 rw [idxZ, if_neg]
 intro q
 obtain ⟨x, hx, hp⟩ := List.any_eq_true.1 q
 obtain ⟨j, hj, rfl⟩ := List.getElem_of_mem hx
 rw [h j hj] at hp
 cases hp
theorem idxZ_nonneg (p : α → Bool) (l : List α) : decide (0 ≤ idxZ p l) = l.any p := by
 unfold idxZ
 cases h : l.any p
 ·rw [if_neg (by decide)]; rfl
 ·rw [if_pos rfl]; exact decide_eq_true (by omega)
set_option maxRecDepth 100000 in
theorem indexI_any (A : Option Addr) (c : Nat) (ks : List Int) (x : Int) (w : World) (h : RowAt w A (ks.map (.int .i64 ·))) (hl : ks.length ≤ 1000000) :
  Calls Tryz.prog 186 #[.slice A ks.length c, .int .i64 x] w (Pure (.int .i64 (idxZ (fun k => decide (x = k)) ks)) w) := by
 have H := Lib.hid h
 clear h
 go_enter Tryz.func186, Tryz.ntmps186
 go_wp2_with fail
 go_loop [5, 8] (fun _ i => ∃ k : Nat, k ≤ ks.length ∧ i = .int .i64 (k : Int) ∧ ∀ j, j < k → ∀ (hj : j < ks.length), decide (x = ks[j]) = false) (fun _ i => ks.length - (intOf i).toNat)
 case atStart => exact ⟨0, Nat.zero_le _, rfl, fun j hj => absurd hj (Nat.not_lt_zero _)⟩
 case round =>
  obtain ⟨k, hk, rfl, hn⟩ := hrel
  have HN := Lib.hid hn
  clear hn
  by_cases hlt : k < ks.length
  ·obtain ⟨g, rfl, hg, hc⟩ := H.out (by rw [List.length_map]; omega)
   have c1 := hc k (by rw [List.length_map]; exact hlt)
   rw [List.getElem_map] at c1
   have i0 : (0 : Int) ≤ (k : Int) := by omega
   have i1 : (k : Int) < (ks.length : Int) := by omega
   have hfind := fun (e : decide (x = ks[k]) = true) => idxZ_at (p := fun k => decide (x = k)) hlt e HN.out
   have hnext := fun (e : decide (x = ks[k]) = false) => (show ∀ j, j < k + 1 → ∀ (hj : j < ks.length), decide (x = ks[j]) = false from fun j hj hj2 => by
    by_cases hjk : j < k
    ·exact HN.out j hjk hj2
    ·obtain rfl : j = k := by omega
     exact e)
   have HF := Lib.hid hfind
   have HX := Lib.hid hnext
   clear hc hfind hnext
   generalize ks[k] = y at *
   cases he : decide (x = y) with
   | true =>
    have HE := he
    have e1 : (x == y) = true := by simpa using HE
    have hz := HF.out he
    clear he HE HX HF
    go_wp2_with fail
    go_ret
    exact ⟨rfl, rfl⟩
   | false =>
    have HE := he
    have e1 : (x == y) = false := by simpa using HE
    have hz := HX.out he
    have HZ := Lib.hid hz
    clear he HE HX HF hz
    go_wp2_with fail
    go_round
    case rel => exact ⟨k + 1, by omega, by go_num, HZ.out⟩
    case measure => simp [intOf]; omega
  ·obtain rfl : k = ks.length := by omega
   have i1 : ¬ ((ks.length : Int) < (ks.length : Int)) := by omega
   have hz := idxZ_none (p := fun k => decide (x = k)) (l := ks) (fun j hj => HN.out j hj hj)
   have HZ := Lib.hid hz
   clear hz
   go_wp2_with fail
   go_ret
   exact ⟨by rw [HZ.out]; rfl, rfl⟩
theorem containsI_any (A : Option Addr) (c : Nat) (ks : List Int) (x : Int) (w : World) (h : RowAt w A (ks.map (.int .i64 ·))) (hl : ks.length ≤ 1000000) :
  Calls Tryz.prog 175 #[.slice A ks.length c, .int .i64 x] w (Pure (.bool (ks.any fun k => decide (x = k))) w) := by
 rw [← idxZ_nonneg]
 have hC := indexI_any A c ks x w h hl
 clear h
 generalize idxZ (fun k => decide (x = k)) ks = z at *
 go_enter Tryz.func175, Tryz.ntmps175
 go_wp2_with fail
 refine hC.mono ?_
 rintro e w1 ⟨rfl, rfl⟩
 go_wp2_with fail
 go_ret
 exact ⟨by first | rfl | simp, rfl⟩
set_option maxRecDepth 100000 in
theorem indexS_any (A : Option Addr) (c : Nat) (ks : List ByteArray) (x : ByteArray) (w : World) (h : RowAt w A (ks.map (.string ·))) (hl : ks.length ≤ 1000000) :
  Calls Tryz.prog 91 #[.slice A ks.length c, .string x] w (Pure (.int .i64 (idxZ (fun k => decide (x = k)) ks)) w) := by
 have H := Lib.hid h
 clear h
 go_enter Tryz.func91, Tryz.ntmps91
 go_wp2_with fail
 go_loop [5, 8] (fun _ i => ∃ k : Nat, k ≤ ks.length ∧ i = .int .i64 (k : Int) ∧ ∀ j, j < k → ∀ (hj : j < ks.length), decide (x = ks[j]) = false) (fun _ i => ks.length - (intOf i).toNat)
 case atStart => exact ⟨0, Nat.zero_le _, rfl, fun j hj => absurd hj (Nat.not_lt_zero _)⟩
 case round =>
  obtain ⟨k, hk, rfl, hn⟩ := hrel
  have HN := Lib.hid hn
  clear hn
  by_cases hlt : k < ks.length
  ·obtain ⟨g, rfl, hg, hc⟩ := H.out (by rw [List.length_map]; omega)
   have c1 := hc k (by rw [List.length_map]; exact hlt)
   rw [List.getElem_map] at c1
   have i0 : (0 : Int) ≤ (k : Int) := by omega
   have i1 : (k : Int) < (ks.length : Int) := by omega
   have hfind := fun (e : decide (x = ks[k]) = true) => idxZ_at (p := fun k => decide (x = k)) hlt e HN.out
   have hnext := fun (e : decide (x = ks[k]) = false) => (show ∀ j, j < k + 1 → ∀ (hj : j < ks.length), decide (x = ks[j]) = false from fun j hj hj2 => by
    by_cases hjk : j < k
    ·exact HN.out j hjk hj2
    ·obtain rfl : j = k := by omega
     exact e)
   have HF := Lib.hid hfind
   have HX := Lib.hid hnext
   clear hc hfind hnext
   generalize ks[k] = y at *
   cases he : decide (x = y) with
   | true =>
    have HE := he
    have e1 : (x.toList == y.toList) = true := by rw [str_eqb]; exact HE
    have hz := HF.out he
    clear he HE HX HF
    go_wp2_with fail
    go_ret
    exact ⟨rfl, rfl⟩
   | false =>
    have HE := he
    have e1 : (x.toList == y.toList) = false := by rw [str_eqb]; exact HE
    have hz := HX.out he
    have HZ := Lib.hid hz
    clear he HE HX HF hz
    go_wp2_with fail
    go_round
    case rel => exact ⟨k + 1, by omega, by go_num, HZ.out⟩
    case measure => simp [intOf]; omega
  ·obtain rfl : k = ks.length := by omega
   have i1 : ¬ ((ks.length : Int) < (ks.length : Int)) := by omega
   have hz := idxZ_none (p := fun k => decide (x = k)) (l := ks) (fun j hj => HN.out j hj hj)
   have HZ := Lib.hid hz
   clear hz
   go_wp2_with fail
   go_ret
   exact ⟨by rw [HZ.out]; rfl, rfl⟩
theorem containsS_any (A : Option Addr) (c : Nat) (ks : List ByteArray) (x : ByteArray) (w : World) (h : RowAt w A (ks.map (.string ·))) (hl : ks.length ≤ 1000000) :
  Calls Tryz.prog 60 #[.slice A ks.length c, .string x] w (Pure (.bool (ks.any fun k => decide (x = k))) w) := by
 rw [← idxZ_nonneg]
 have hC := indexS_any A c ks x w h hl
 clear h
 generalize idxZ (fun k => decide (x = k)) ks = z at *
 go_enter Tryz.func60, Tryz.ntmps60
 go_wp2_with fail
 refine hC.mono ?_
 rintro e w1 ⟨rfl, rfl⟩
 go_wp2_with fail
 go_ret
 exact ⟨by first | rfl | simp, rfl⟩
def EI.cs (e : EI) : List Value := [.int .i64 e.id, .int .i64 e.side, .string e.key, .string e.data, .int .i64 e.due, .bool e.cust, .bool e.sent]
def EI.val (e : EI) : Value := .agg #[.int .i64 e.id, .int .i64 e.side, .string e.key, .string e.data, .int .i64 e.due, .bool e.cust, .bool e.sent]
def cellsE (l : List EI) : List Value := l.flatMap EI.cs
theorem cellsE_length (l : List EI) : (cellsE l).length = l.length * 7 := by
 induction l with
 | nil => rfl
 | cons r l ih => rw [show cellsE (r :: l) = r.cs ++ cellsE l by simp [cellsE], List.length_append, ih, List.length_cons]; show 7 + _ = _; omega
theorem cellsE_app (l m : List EI) : cellsE (l ++ m) = cellsE l ++ cellsE m := by simp [cellsE]
theorem cellsE_get (l : List EI) : ∀ (i : Nat) (h : i < l.length), (cellsE l)[i * 7]? = some (.int .i64 l[i].id) ∧ (cellsE l)[i * 7 + 1]? = some (.int .i64 l[i].side) ∧ (cellsE l)[i * 7 + 2]? = some (.string l[i].key) ∧ (cellsE l)[i * 7 + 3]? = some (.string l[i].data) ∧
  (cellsE l)[i * 7 + 4]? = some (.int .i64 l[i].due) ∧ (cellsE l)[i * 7 + 5]? = some (.bool l[i].cust) ∧ (cellsE l)[i * 7 + 6]? = some (.bool l[i].sent) := by
 induction l with
 | nil => intro i h; simp at h
 | cons r l ih =>
  intro i h
  have e : cellsE (r :: l) = r.cs ++ cellsE l := by simp [cellsE]
  have hc : r.cs.length = 7 := rfl
  cases i with
  | zero => rw [e]; exact ⟨rfl, rfl, rfl, rfl, rfl, rfl, rfl⟩
  | succ i =>
   have := ih i (by simpa using h)
   have hs : ∀ k, (r.cs ++ cellsE l)[(i + 1) * 7 + k]? = (cellsE l)[i * 7 + k]? := fun k => by
    rw [List.getElem?_append_right (by omega), hc, show (i + 1) * 7 + k - 7 = i * 7 + k by omega]
   rw [e, show (r.cs ++ cellsE l)[(i + 1) * 7]? = (cellsE l)[i * 7]? from hs 0, hs, hs, hs, hs, hs, hs]
   exact this
def EAt (w : World) (g o : Nat) (e : EI) : Prop := w.cell? ⟨g, o, none⟩ = some (.int .i64 e.id) ∧ w.cell? ⟨g, o + 1, none⟩ = some (.int .i64 e.side) ∧ w.cell? ⟨g, o + 2, none⟩ = some (.string e.key) ∧ w.cell? ⟨g, o + 3, none⟩ = some (.string e.data) ∧
 w.cell? ⟨g, o + 4, none⟩ = some (.int .i64 e.due) ∧ w.cell? ⟨g, o + 5, none⟩ = some (.bool e.cust) ∧ w.cell? ⟨g, o + 6, none⟩ = some (.bool e.sent)
theorem EAt.below {o : Nat} {e : EI} (h : EAt w g o e) (hg : g < w.heap.size) (hb : Below w.heap.size w w') : EAt w' g o e := by
 obtain ⟨h0, h1, h2, h3, h4, h5, h6⟩ := h
 have c : ∀ i, w'.cell? ⟨g, i, none⟩ = w.cell? ⟨g, i, none⟩ := fun i => hb.cell (p := ⟨g, i, none⟩) hg
 exact ⟨(c _).trans h0, (c _).trans h1, (c _).trans h2, (c _).trans h3, (c _).trans h4, (c _).trans h5, (c _).trans h6⟩
def RowE (w : World) (A : Option Addr) (l : List EI) : Prop := 0 < l.length → ∃ g, A = some ⟨g, 0, none⟩ ∧ g < w.heap.size ∧ ∀ (i : Nat) (h : i < l.length), EAt w g (i * 7) l[i]
theorem RowE.below (h : RowE w A l) (hb : Below w.heap.size w w') : RowE w' A l := fun hp => by
 obtain ⟨g, h1, h2, h3⟩ := h hp
 exact ⟨g, h1, Nat.lt_of_lt_of_le h2 hb.size, fun i hi => (h3 i hi).below h2 hb⟩
theorem rowE_own (h : w.ownsRow base t 7 V n (cellsE l)) : n = l.length ∧ ∃ A c, V = .slice A n c ∧ RowE w A l := by
 have hn : l.length = n := by have := h.1; rw [cellsE_length] at this; omega
 refine ⟨hn.symm, ?_⟩
 have h' := h
 obtain ⟨-, ⟨rfl, h0⟩ | ⟨g, cap, cur, rfl, -⟩⟩ := h'
 ·subst h0
  exact ⟨none, 0, rfl, fun hp => by omega⟩
 ·refine ⟨some ⟨g, 0, none⟩, cap, rfl, fun hp => ⟨g, rfl, (h.lt g rfl).2, fun i hi => ?_⟩⟩
  have ha : ∀ k : Nat, (⟨g, 0, none⟩ : Addr).add k = ⟨g, k, none⟩ := fun k => by unfold Addr.add; split <;> simp_all
  have k : ∀ j v, (cellsE l)[j]? = some v → w.cell? ⟨g, j, none⟩ = some v := fun j v hj => by
   have := h.cells rfl j v hj
   rwa [ha] at this
  obtain ⟨g0, g1, g2, g3, g4, g5, g6⟩ := cellsE_get l i hi
  exact ⟨k _ _ g0, k _ _ g1, k _ _ g2, k _ _ g3, k _ _ g4, k _ _ g5, k _ _ g6⟩
def placeZ (l : List EI) (id : Int) : Int := match placeL l id with
 | none => -1
 | some i => (i : Int)
theorem placeZ_idx (l : List EI) (id : Int) : idxZ (fun e => decide (e.id = id)) l = placeZ l id := by
 unfold placeZ
 cases h : placeL l id with
 | none =>
  refine idxZ_none fun j hj => decide_eq_false ?_
  exact placeL_none.1 h _ (List.getElem_mem hj)
 | some i =>
  obtain ⟨hi, h1, h2⟩ := placeL_some h
  exact idxZ_at hi (decide_eq_true h1) fun j hj hj2 => decide_eq_false (h2 j hj)
set_option maxRecDepth 100000 in
theorem at1_any (e : EI) (id : Int) (ib : Nat) (w : World) (hi : w.cell? ⟨ib, 0, none⟩ = some (.int .i64 id)) :
  Calls Tryz.prog 90 #[e.val, .pointer (some ⟨ib, 0, none⟩)] w (Ret (.bool (decide (e.id = id))) w) := by
 unfold EI.val
 have hb := ext_new w (.cells #[.int .i64 e.id, .int .i64 e.side, .string e.key, .string e.data, .int .i64 e.due, .bool e.cust, .bool e.sent] 23)
 have hc := cell_later hb hi
 have he : (e.id == id) = decide (e.id = id) := by
  by_cases h : e.id = id
  ·rw [h]; simp
  ·rw [decide_eq_false h]; exact beq_eq_false_iff_ne.2 h
 have HE := Lib.hid he
 clear he
 go_enter Tryz.func90, Tryz.ntmps90
 go_wp2_with fail
 go_ret
 exact ⟨by first | rfl | (rw [← HE.out]; rfl) | simp [HE.out], hb⟩
set_option maxRecDepth 100000 in
theorem idxE_any (A : Option Addr) (c : Nat) (l : List EI) (id : Int) (ib : Nat) (w : World) (h : RowE w A l) (hl : l.length ≤ 1000000) (hi : w.cell? ⟨ib, 0, none⟩ = some (.int .i64 id)) :
  Calls Tryz.prog 89 #[.slice A l.length c, .func (.func 90) #[] #[.pointer (some ⟨ib, 0, none⟩)]] w (Ret (.int .i64 (placeZ l id)) w) := by
 rw [← placeZ_idx]
 have H := Lib.hid h
 have HI := Lib.hid hi
 clear h hi
 go_enter Tryz.func89, Tryz.ntmps89
 go_wp2_with fail
 go_loopw [5, 8] (fun _ i wr => ∃ k : Nat, k ≤ l.length ∧ i = .int .i64 (k : Int) ∧ (∀ j, j < k → ∀ (hj : j < l.length), decide (l[j].id = id) = false) ∧ Below w.heap.size w wr) (fun _ i _ => l.length - (intOf i).toNat)
 case atStart => exact ⟨0, Nat.zero_le _, rfl, fun j hj => absurd hj (Nat.not_lt_zero _), ext_refl _⟩
 case round =>
  obtain ⟨k, hk, rfl, hn, hb⟩ := hrel
  have HN := Lib.hid hn
  clear hn
  by_cases hlt : k < l.length
  ·obtain ⟨g, rfl, hg, hc⟩ := H.out (by omega)
   obtain ⟨g0, g1, g2, g3, g4, g5, g6⟩ := (hc k hlt).below hg hb
   have i0 : (0 : Int) ≤ (k : Int) := by omega
   have i1 : (k : Int) < (l.length : Int) := by omega
   have HF := Lib.hid (fun (e : decide (l[k].id = id) = true) => idxZ_at (p := fun e : EI => decide (e.id = id)) hlt e HN.out)
   have HX := Lib.hid (fun (e : decide (l[k].id = id) = false) => (show ∀ j, j < k + 1 → ∀ (hj : j < l.length), decide (l[j].id = id) = false from fun j hj hj2 => by
    by_cases hjk : j < k
    ·exact HN.out j hjk hj2
    ·obtain rfl : j = k := by omega
     exact e))
   have hC := at1_any l[k] id ib wr (cell_later hb HI.out)
   unfold EI.val at hC
   clear hc
   generalize l[k] = y at *
   generalize he : decide (y.id = id) = bb at *
   clear he
   go_wp2_with fail
   refine hC.mono ?_
   rintro e w3 ⟨rfl, hb3⟩
   replace hb := ext_trans hb hb3
   cases bb with
   | true =>
    have hz := HF.out rfl
    clear HX HF
    go_wp2_with fail
    go_ret
    exact ⟨by first | rfl | rw [hz]; rfl, hb⟩
   | false =>
    have HZ := Lib.hid (HX.out rfl)
    clear HX HF
    go_wp2_with fail
    go_roundw
    case rel => exact ⟨k + 1, by omega, by go_num, HZ.out, hb⟩
    case measure => simp [intOf]; omega
  ·obtain rfl : k = l.length := by omega
   have i1 : ¬ ((l.length : Int) < (l.length : Int)) := by omega
   have HZ := Lib.hid (idxZ_none (p := fun e : EI => decide (e.id = id)) (l := l) (fun j hj => HN.out j hj hj))
   go_wp2_with fail
   go_ret
   exact ⟨by rw [HZ.out]; rfl, hb⟩
structure Foot (F : Nat → Prop) (w w' : World) : Prop where
 os : w'.os = w.os
 tape : w'.tape = w.tape
 output : w'.output = w.output
 size : w.heap.size ≤ w'.heap.size
 block : ∀ k, k < w.heap.size → ¬ F k → w'.heap[k]? = w.heap[k]?
theorem Foot.refl (F : Nat → Prop) (w : World) : Foot F w w := ⟨rfl, rfl, rfl, Nat.le_refl _, fun _ _ _ => rfl⟩
theorem Foot.of_below (h : Below a.heap.size a b) : Foot F a b := ⟨h.os, h.tape, h.output, h.size, fun k hk _ => h.block k hk⟩
theorem Foot.trans (h : Foot F a b) (k : Foot G b c) (hG : ∀ i, G i → F i ∨ a.heap.size ≤ i) : Foot F a c :=
 ⟨k.os.trans h.os, k.tape.trans h.tape, k.output.trans h.output, Nat.le_trans h.size k.size, fun i hi hF => (k.block i (Nat.lt_of_lt_of_le hi h.size) fun g => (hG i g).elim hF (by omega)).trans (h.block i hi hF)⟩
theorem Foot.ext (h : Foot F a b) (k : Below b.heap.size b c) : Foot F a c := h.trans (Foot.of_below (F := F) k) fun _ g => .inl g
theorem Foot.mono (h : Foot F a b) (hF : ∀ i, F i → G i) : Foot G a b := ⟨h.os, h.tape, h.output, h.size, fun k hk hn => h.block k hk fun f => hn (hF k f)⟩
theorem Foot.set (h : Foot F a b) (hg : F g ∨ a.heap.size ≤ g) (i : Nat) (v : Value) : Foot F a (b.setCell ⟨g, i, none⟩ v) :=
 ⟨h.os, h.tape, h.output, by rw [World.size_setCell]; exact h.size, fun k hk hn => (Below.heap_setCell _ _ _ _ (fun e => by
  have e : k = g := e
  subst e
  exact hg.elim hn (by omega))).trans (h.block k hk hn)⟩
theorem Foot.grown {r : Option Nat} (h : Foot F a b) (hg : b.grownBy c r) (hr : ∀ k, some k = r → F k ∨ a.heap.size ≤ k) : Foot F a c :=
 ⟨hg.os.trans h.os, hg.tape.trans h.tape, hg.output.trans h.output, Nat.le_trans h.size hg.size, fun k hk hn => (hg.block k (Nat.lt_of_lt_of_le hk h.size) fun e => (hr k e).elim hn (by omega)).trans (h.block k hk hn)⟩
theorem Foot.below {B : Nat} (h : Foot F a b) (hF : ∀ k, F k → B ≤ k) (hB : B ≤ a.heap.size) : Below B a b :=
 ⟨h.os, h.tape, h.output, h.size, fun k hk => h.block k (by omega) fun f => by have := hF k f; omega⟩
theorem own_type {T : TypeId} {cs : Array Value} (h : w.ownsRow base t size V n xs) (hB : Blk w g T cs) (hT : T ≠ t) : some g ≠ V.ownBlock := by
 obtain ⟨-, ⟨rfl, -⟩ | ⟨g', cap, cur, rfl, -, hh, -⟩⟩ := h
 ·intro e; cases e
 ·intro e
  injection e with e
  have e : g = g' := e
  subst e
  unfold Blk at hB
  rw [hB] at hh
  injection hh with hh
  injection hh with _ hh
  exact hT hh
theorem own_two {b1 b2 s1 s2 n1 n2 : Nat} {t1 t2 : TypeId} {V1 V2 : Value} {ys : List Value} (h : w.ownsRow b1 t1 s1 V1 n1 xs) (h2 : w.ownsRow b2 t2 s2 V2 n2 ys) (hT : t1 ≠ t2) {k : Nat} (hk : some k = V1.ownBlock) : some k ≠ V2.ownBlock := by
 obtain ⟨-, ⟨rfl, -⟩ | ⟨g, cap, cur, rfl, -, hh, -⟩⟩ := h
 ·cases hk
 ·injection hk with hk
  have hk : k = g := hk
  subst hk
  exact own_type (cs := cur) h2 hh hT
theorem own_lt {k : Nat} (h : w.ownsRow base t size V n xs) (hk : some k = V.ownBlock) : k < w.heap.size := (h.lt k hk.symm).2
theorem own_keep (h : w.ownsRow base t size V n xs) (hb : ∀ k, some k = V.ownBlock → w'.heap[k]? = w.heap[k]?) : w'.ownsRow base t size V n xs := by
 refine ⟨h.1, ?_⟩
 rcases h.2 with h0 | ⟨g, cap, cur, rfl, hg, hh, r⟩
 ·exact .inl h0
 ·exact .inr ⟨g, cap, cur, rfl, hg, (hb g rfl).trans hh, r⟩
theorem own_set (h : w.ownsRow base t size V n xs) (hg : some g ≠ V.ownBlock) (i : Nat) (v : Value) : (w.setCell ⟨g, i, none⟩ v).ownsRow base t size V n xs :=
 own_keep h fun k hk => Below.heap_setCell _ _ _ _ (fun e => by
  have e : k = g := e
  subst e
  exact hg hk)
theorem Blk.c7 {a0 a1 a2 a3 a4 a5 a6 : Value} (h : Blk w g t #[a0, a1, a2, a3, a4, a5, a6]) :
  (w.cell? ⟨g, 0, none⟩ = some a0 ∧ w.cell? ⟨g, 1, none⟩ = some a1 ∧ w.cell? ⟨g, 2, none⟩ = some a2 ∧ w.cell? ⟨g, 3, none⟩ = some a3 ∧ w.cell? ⟨g, 4, none⟩ = some a4 ∧ w.cell? ⟨g, 5, none⟩ = some a5 ∧ w.cell? ⟨g, 6, none⟩ = some a6) ∧
  (w.frozen? ⟨g, 0, none⟩ = false ∧ w.frozen? ⟨g, 1, none⟩ = false ∧ w.frozen? ⟨g, 2, none⟩ = false ∧ w.frozen? ⟨g, 3, none⟩ = false ∧ w.frozen? ⟨g, 4, none⟩ = false ∧ w.frozen? ⟨g, 5, none⟩ = false ∧ w.frozen? ⟨g, 6, none⟩ = false) :=
 ⟨⟨(h.cell 0).trans rfl, (h.cell 1).trans rfl, (h.cell 2).trans rfl, (h.cell 3).trans rfl, (h.cell 4).trans rfl, (h.cell 5).trans rfl, (h.cell 6).trans rfl⟩, h.frozen 0, h.frozen 1, h.frozen 2, h.frozen 3, h.frozen 4, h.frozen 5, h.frozen 6⟩
structure QC where
 b : Nat
 x3 : Value
 x4 : Value
 x5 : Value
 x6 : Value
structure QV where
 i : Value
 l : Value
 e : Value
def QF (c : QC) (v : QV) (k : Nat) : Prop := k = c.b ∨ some k = v.i.ownBlock ∨ some k = v.l.ownBlock ∨ some k = v.e.ownBlock
def idsOf (K : List KI) : List Int := K.map KI.id
def txtsOf (K : List KI) : List ByteArray := K.map KI.text
structure SAt (w : World) (c : QC) (v : QV) (s : SN) : Prop where
 blk : Blk w c.b 112 #[v.i, v.l, v.e, c.x3, c.x4, c.x5, c.x6]
 ids : w.ownsRow 0 3 1 v.i s.K.length ((idsOf s.K).map (.int .i64 ·))
 txt : w.ownsRow 0 9 1 v.l s.K.length ((txtsOf s.K).map (.string ·))
 ent : w.ownsRow 0 23 7 v.e s.L.length (cellsE s.L)
theorem SAt.below {c : QC} {v : QV} (h : SAt w c v s) (hb : Below w.heap.size w w') : SAt w' c v s := ⟨h.blk.below hb, own_below h.ids hb, own_below h.txt hb, own_below h.ent hb⟩
theorem SAt.lt {c : QC} {v : QV} (h : SAt w c v s) {k : Nat} (hk : QF c v k) : k < w.heap.size := by
 rcases hk with rfl | hk | hk | hk
 ·exact h.blk.lt
 ·exact own_lt h.ids hk
 ·exact own_lt h.txt hk
 ·exact own_lt h.ent hk
def SWent (w : World) (c : QC) (v : QV) (s' : SN) (w' : World) : Prop := ∃ v', SAt w' c v' s' ∧ Foot (QF c v) w w' ∧ ∀ k, QF c v' k → QF c v k ∨ w.heap.size ≤ k
theorem SWent.refl {c : QC} {v : QV} (h : SAt w c v s) (hb : Below w.heap.size w w') : SWent w c v s w' := ⟨v, h.below hb, .of_below hb, fun _ h => .inl h⟩
theorem SWent.from {w1 : World} {c : QC} {v : QV} {s' : SN} (hb : Below w.heap.size w w1) (h : SWent w1 c v s' w') : SWent w c v s' w' := by
 obtain ⟨v', h1, h2, h3⟩ := h
 exact ⟨v', h1, (Foot.of_below (F := QF c v) hb).trans h2 fun _ g => .inl g, fun k hk => (h3 k hk).imp id fun g => Nat.le_trans hb.size g⟩
theorem ids_length (K : List KI) : (idsOf K).length = K.length := by simp [idsOf]
theorem txts_length (K : List KI) : (txtsOf K).length = K.length := by simp [txtsOf]
theorem any_ids (K : List KI) (x : Int) : ((idsOf K).any fun k => decide (x = k)) = K.any fun k => decide (k.id = x) := by
 unfold idsOf
 rw [List.any_map]
 congr 1
 funext k
 exact decide_eq_decide.2 eq_comm
theorem any_txts (K : List KI) (x : ByteArray) : ((txtsOf K).any fun k => decide (x = k)) = K.any fun k => decide (k.text = x) := by
 unfold txtsOf
 rw [List.any_map]
 congr 1
 funext k
 exact decide_eq_decide.2 eq_comm
set_option maxRecDepth 100000 in
theorem at_any {c : QC} {v : QV} (id : Int) (h : SAt w c v s) (hl : s.L.length ≤ 1000000) :
  Calls Tryz.prog 59 #[.pointer (some ⟨c.b, 0, none⟩), .int .i64 id] w (Ret (.tuple #[.int .i64 (placeZ s.L id), .bool (decide (0 ≤ placeZ s.L id))]) w) := by
 have hb := ext_new w (.cells #[.int .i64 id] 3)
 have h1 := h.below hb
 have hi := (Blk.new_ w 3 #[.int .i64 id]).c1.1
 obtain ⟨-, A, cp, e, hr⟩ := rowE_own h1.ent
 obtain ⟨⟨-, -, c2, -⟩, -⟩ := h1.blk.c7
 rw [e] at c2
 have hC := idxE_any A cp s.L id w.heap.size _ hr hl hi
 clear hr hi h1 e h
 go_enter Tryz.func59, Tryz.ntmps59
 go_wp2_with fail
 refine hC.mono ?_
 rintro e w3 ⟨rfl, hb3⟩
 go_wp2_with fail
 go_ret2
 exact ⟨rfl, ext_trans hb hb3⟩
set_option maxRecDepth 100000 in
theorem free_any {c : QC} {v : QV} (id : Int) (t : ByteArray) (h : SAt w c v s) (hl : s.K.length ≤ 1000000) :
  Calls Tryz.prog 154 #[.pointer (some ⟨c.b, 0, none⟩), .int .i64 id, .string t, .int .i64 60] w (Pure (.bool (s.free id t)) w) := by
 obtain ⟨A, c1, e1, r1⟩ := row_own h.ids
 obtain ⟨B, c2, e2, r2⟩ := row_own h.txt
 obtain ⟨⟨x0, x1, -⟩, -⟩ := h.blk.c7
 rw [e1] at x0
 rw [e2] at x1
 have hC1 := containsI_any A c1 (idsOf s.K) id w r1 (by rw [ids_length]; exact hl)
 have hC2 := containsS_any B c2 (txtsOf s.K) t w r2 (by rw [txts_length]; exact hl)
 rw [any_ids, ids_length] at hC1
 rw [any_txts, txts_length] at hC2
 unfold SN.free
 clear r1 r2 e1 e2 h
 generalize (s.K.any fun k => decide (k.id = id)) = p1 at *
 generalize (s.K.any fun k => decide (k.text = t)) = p2 at *
 generalize s.K.length = n at *
 have hd : decide (n < 60) = decide ((n : Int) < 60) := decide_eq_decide.2 (by omega)
 rw [hd]
 clear hd
 go_enter Tryz.func154, Tryz.ntmps154
 go_wp2_with fail
 refine hC1.mono ?_
 rintro e w1 ⟨rfl, rfl⟩
 cases p1 with
 | true =>
  go_wp2_with fail
  go_ret
  exact ⟨rfl, rfl⟩
 | false =>
  go_wp2_with fail
  refine hC2.mono ?_
  rintro e w1 ⟨rfl, rfl⟩
  cases p2 with
  | true =>
   go_wp2_with fail
   go_ret
   exact ⟨rfl, rfl⟩
  | false =>
   go_wp2_with fail
   go_ret
   exact ⟨rfl, rfl⟩
end Go.Proofs.YtmebjdbkngehiaaGreatDoor
