/-
  A queue's state in memory: tell, and more of the kind. Conditions: as the theorems' own hypotheses say.
-/
import Derived.Test.YtmebjdbkngehiaaGreatDoorQhD
import Derived.ChangeMaps4
import Derived.Test.YtmebjdbkngehiaaGreatDoorQhA
import Derived.Test.YtmebjdbkngehiaaGreatDoorQgK
import Derived.Test.YtmebjdbkngehiaaGreatDoorQgB
import Derived.Test.YtmebjdbkngehiaaGreatDoorQgN
import Derived.Test.YtmebjdbkngehiaaGreatDoorQgM
import Derived.Maps.AppendAt
import Derived.Lib.SliceRun
import Derived.OrdersIn
import Derived.Deep.RegionHeld
namespace Go.Proofs.YtmebjdbkngehiaaGreatDoor
open Go.RowKit Go.Shelf
set_option maxHeartbeats 4000000
variable {w : World} {c : QC} {v : QV} {s' s : SN}
theorem alloc_set (w : World) (o o' : Obj) : ({ w.alloc o with heap := (w.alloc o).heap.setIfInBounds w.heap.size o' } : World) = w.alloc o' := by
 have e : (w.heap.push o).setIfInBounds w.heap.size o' = w.heap.push o' := by
  apply Array.ext
  ·simp
  ·intro i h1 h2
   simp only [Array.size_setIfInBounds, Array.size_push] at h1
   rw [Array.getElem_setIfInBounds]
   ·by_cases hi : w.heap.size = i
    ·subst hi; simp
    ·rw [if_neg hi, Array.getElem_push_lt (by omega), Array.getElem_push_lt (by omega)]
   all_goals simpa using h1
 unfold World.alloc
 dsimp only
 rw [e]
theorem mapAt (w : World) (es : Array MapEntry) (clk : Nat) : (w.alloc (.map es clk)).heap[w.heap.size]? = some (.map es clk) := (MapKept.heap_alloc w _).1
theorem qupd_new (w : World) (es : Array MapEntry) (clk : Nat) (k : Int) (v : Value) (hf : Instr.findNow (.int .i64) (.int .i64 k) es.toList 0 = some none) :
  (Instr.mapUpdate 205 (.map (some w.heap.size)) (.int .i64 k) v).run Tryz.prog (w.alloc (.map es clk)) = .ok () (w.alloc (.map (es.push { key := .int .i64 k, val := v, born := clk }) (clk + 1))) := by
 have hu := Tryz.underlying205
 have hi := Tryz.underlying3
 have hc : ∀ e W, (Instr.checkKey e 10000 3 (.int .i64 k)).run Tryz.prog W = .ok () W := fun e W => MapKept.run_checkKey hi (show MapKept.IsKey (.int .i64) (.int .i64 k) from rfl) e 9999
 simp [Instr.mapUpdate, run_underlying hu, MapKept.run_getObj_map (mapAt w es clk), hc, Instr.findKey, run_underlying hi, hf, MapKept.run_setObj_map _ (mapAt w es clk), Result.andThen]
 exact alloc_set w _ _
theorem qlook_hit (w : World) (es : Array MapEntry) (clk : Nat) (k : Int) (i : Nat) (v : Value) (hf : Instr.findNow (.int .i64) (.int .i64 k) es.toList 0 = some (some (i, v))) :
  (Instr.lookup 205 (.map (some w.heap.size)) (.int .i64 k) true).run Tryz.prog (w.alloc (.map es clk)) = .ok (.tuple #[v, .bool true]) (w.alloc (.map es clk)) := by
 have hu := Tryz.underlying205
 have hi := Tryz.underlying3
 have hc : ∀ e W, (Instr.checkKey e 10000 3 (.int .i64 k)).run Tryz.prog W = .ok () W := fun e W => MapKept.run_checkKey hi (show MapKept.IsKey (.int .i64) (.int .i64 k) from rfl) e 9999
 simp [Instr.lookup, run_underlying hu, MapKept.run_getObj_map (mapAt w es clk), hc, Instr.findKey, run_underlying hi, hf, Result.andThen]
theorem qlook_miss (w : World) (es : Array MapEntry) (clk : Nat) (k : Int) (hf : Instr.findNow (.int .i64) (.int .i64 k) es.toList 0 = some none) :
  (Instr.lookup 205 (.map (some w.heap.size)) (.int .i64 k) true).run Tryz.prog (w.alloc (.map es clk)) = .ok (.tuple #[.nilFunc, .bool false]) (w.alloc (.map es clk)) := by
 have hu := Tryz.underlying205
 have hi := Tryz.underlying3
 have hc : ∀ e W, (Instr.checkKey e 10000 3 (.int .i64 k)).run Tryz.prog W = .ok () W := fun e W => MapKept.run_checkKey hi (show MapKept.IsKey (.int .i64) (.int .i64 k) from rfl) e 9999
 have hz : ∀ W, (zeroValue 204).run Tryz.prog W = .ok .nilFunc W := fun W => by kernel_rfl
 simp [Instr.lookup, run_underlying hu, MapKept.run_getObj_map (mapAt w es clk), hc, Instr.findKey, run_underlying hi, hf, hz, Result.andThen]
theorem qupd_all (w : World) :
  (Instr.mapUpdate 205 (.map (some w.heap.size)) (.int .i64 1) (.func (.func 127) #[] #[])).run Tryz.prog (w.alloc (.map #[] 0)) = .ok () (w.alloc (.map #[{ key := .int .i64 1, val := (.func (.func 127) #[] #[]), born := 0 }] 1)) ∧
  (Instr.mapUpdate 205 (.map (some w.heap.size)) (.int .i64 5) (.func (.func 128) #[] #[])).run Tryz.prog (w.alloc (.map #[{ key := .int .i64 1, val := (.func (.func 127) #[] #[]), born := 0 }] 1)) = .ok () (w.alloc (.map #[{ key := .int .i64 1, val := (.func (.func 127) #[] #[]), born := 0 }, { key := .int .i64 5, val := (.func (.func 128) #[] #[]), born := 1 }] 2)) ∧
  (Instr.mapUpdate 205 (.map (some w.heap.size)) (.int .i64 2) (.func (.func 129) #[] #[])).run Tryz.prog (w.alloc (.map #[{ key := .int .i64 1, val := (.func (.func 127) #[] #[]), born := 0 }, { key := .int .i64 5, val := (.func (.func 128) #[] #[]), born := 1 }] 2)) = .ok () (w.alloc (.map #[{ key := .int .i64 1, val := (.func (.func 127) #[] #[]), born := 0 }, { key := .int .i64 5, val := (.func (.func 128) #[] #[]), born := 1 }, { key := .int .i64 2, val := (.func (.func 129) #[] #[]), born := 2 }] 3)) ∧
  (Instr.mapUpdate 205 (.map (some w.heap.size)) (.int .i64 3) (.func (.func 130) #[] #[])).run Tryz.prog (w.alloc (.map #[{ key := .int .i64 1, val := (.func (.func 127) #[] #[]), born := 0 }, { key := .int .i64 5, val := (.func (.func 128) #[] #[]), born := 1 }, { key := .int .i64 2, val := (.func (.func 129) #[] #[]), born := 2 }] 3)) = .ok () (w.alloc (.map #[{ key := .int .i64 1, val := (.func (.func 127) #[] #[]), born := 0 }, { key := .int .i64 5, val := (.func (.func 128) #[] #[]), born := 1 }, { key := .int .i64 2, val := (.func (.func 129) #[] #[]), born := 2 }, { key := .int .i64 3, val := (.func (.func 130) #[] #[]), born := 3 }] 4)) ∧
  (Instr.mapUpdate 205 (.map (some w.heap.size)) (.int .i64 4) (.func (.func 130) #[] #[])).run Tryz.prog (w.alloc (.map #[{ key := .int .i64 1, val := (.func (.func 127) #[] #[]), born := 0 }, { key := .int .i64 5, val := (.func (.func 128) #[] #[]), born := 1 }, { key := .int .i64 2, val := (.func (.func 129) #[] #[]), born := 2 }, { key := .int .i64 3, val := (.func (.func 130) #[] #[]), born := 3 }] 4)) = .ok () (w.alloc (.map #[{ key := .int .i64 1, val := (.func (.func 127) #[] #[]), born := 0 }, { key := .int .i64 5, val := (.func (.func 128) #[] #[]), born := 1 }, { key := .int .i64 2, val := (.func (.func 129) #[] #[]), born := 2 }, { key := .int .i64 3, val := (.func (.func 130) #[] #[]), born := 3 }, { key := .int .i64 4, val := (.func (.func 130) #[] #[]), born := 4 }] 5)) :=
 ⟨qupd_new w _ 0 1 _ rfl, qupd_new w _ 1 5 _ rfl, qupd_new w _ 2 2 _ rfl, qupd_new w _ 3 3 _ rfl, qupd_new w _ 4 4 _ rfl⟩
set_option maxRecDepth 100000 in
theorem tell_1 (id : Int) (d : ByteArray)
  (hC : ∀ W, Below w.heap.size w W → Calls Tryz.prog 127 #[.pointer (some ⟨c.b, 0, none⟩), RI.val ⟨1, id, d⟩] W fun e w' => e = .returned (.tuple #[]) ∧ SWent W c v s' w') :
  Calls Tryz.prog 97 #[.pointer (some ⟨c.b, 0, none⟩), RI.val ⟨1, id, d⟩] w fun e w' => e = .returned (.tuple #[]) ∧ SWent w c v s' w' := by
 have hmm := @run_makeMap Tryz.prog
 have hb1 := ext_new w (.cells #[.int .i64 1, .int .i64 id, .string d] 128)
 have hR := (Blk.new_ w 128 #[.int .i64 1, .int .i64 id, .string d]).alloc (.map #[{ key := .int .i64 1, val := (.func (.func 127) #[] #[]), born := 0 }, { key := .int .i64 5, val := (.func (.func 128) #[] #[]), born := 1 }, { key := .int .i64 2, val := (.func (.func 129) #[] #[]), born := 2 }, { key := .int .i64 3, val := (.func (.func 130) #[] #[]), born := 3 }, { key := .int .i64 4, val := (.func (.func 130) #[] #[]), born := 4 }] 5)
 obtain ⟨x0, x1, x2, -⟩ := hR.c3
 have hb2 := ext_alloc hb1 (.map #[{ key := .int .i64 1, val := (.func (.func 127) #[] #[]), born := 0 }, { key := .int .i64 5, val := (.func (.func 128) #[] #[]), born := 1 }, { key := .int .i64 2, val := (.func (.func 129) #[] #[]), born := 2 }, { key := .int .i64 3, val := (.func (.func 130) #[] #[]), born := 3 }, { key := .int .i64 4, val := (.func (.func 130) #[] #[]), born := 4 }] 5)
 obtain ⟨u1, u2, u3, u4, u5⟩ := qupd_all (w.alloc (.cells #[.int .i64 1, .int .i64 id, .string d] 128))
 have ul := qlook_hit (w.alloc (.cells #[.int .i64 1, .int .i64 id, .string d] 128)) #[{ key := .int .i64 1, val := (.func (.func 127) #[] #[]), born := 0 }, { key := .int .i64 5, val := (.func (.func 128) #[] #[]), born := 1 }, { key := .int .i64 2, val := (.func (.func 129) #[] #[]), born := 2 }, { key := .int .i64 3, val := (.func (.func 130) #[] #[]), born := 3 }, { key := .int .i64 4, val := (.func (.func 130) #[] #[]), born := 4 }] 5 1 _ _ rfl
 simp only [World.size_alloc] at u1 u2 u3 u4 u5 ul
 have hC2 := hC _ hb2
 unfold RI.val at hC2 ⊢
 clear hR hb1 hC
 go_enter Tryz.func97, Tryz.ntmps97
 go_wp2_with fail
 refine hC2.mono ?_
 rintro e w4 ⟨rfl, hW⟩
 have HF := Lib.hid (SWent.from hb2 hW)
 clear hW hC2 u1 u2 u3 u4 u5 ul x0 x1 x2 hmm
 go_wp2_with fail
 exact bodyPost_end (v := .tuple #[]) (results_none (by kernel_rfl) _ _ _) rfl ⟨rfl, HF.out⟩
set_option maxRecDepth 100000 in
theorem tell_5 (id : Int) (d : ByteArray)
  (hC : ∀ W, Below w.heap.size w W → Calls Tryz.prog 128 #[.pointer (some ⟨c.b, 0, none⟩), RI.val ⟨5, id, d⟩] W fun e w' => e = .returned (.tuple #[]) ∧ SWent W c v s' w') :
  Calls Tryz.prog 97 #[.pointer (some ⟨c.b, 0, none⟩), RI.val ⟨5, id, d⟩] w fun e w' => e = .returned (.tuple #[]) ∧ SWent w c v s' w' := by
 have hmm := @run_makeMap Tryz.prog
 have hb1 := ext_new w (.cells #[.int .i64 5, .int .i64 id, .string d] 128)
 have hR := (Blk.new_ w 128 #[.int .i64 5, .int .i64 id, .string d]).alloc (.map #[{ key := .int .i64 1, val := (.func (.func 127) #[] #[]), born := 0 }, { key := .int .i64 5, val := (.func (.func 128) #[] #[]), born := 1 }, { key := .int .i64 2, val := (.func (.func 129) #[] #[]), born := 2 }, { key := .int .i64 3, val := (.func (.func 130) #[] #[]), born := 3 }, { key := .int .i64 4, val := (.func (.func 130) #[] #[]), born := 4 }] 5)
 obtain ⟨x0, x1, x2, -⟩ := hR.c3
 have hb2 := ext_alloc hb1 (.map #[{ key := .int .i64 1, val := (.func (.func 127) #[] #[]), born := 0 }, { key := .int .i64 5, val := (.func (.func 128) #[] #[]), born := 1 }, { key := .int .i64 2, val := (.func (.func 129) #[] #[]), born := 2 }, { key := .int .i64 3, val := (.func (.func 130) #[] #[]), born := 3 }, { key := .int .i64 4, val := (.func (.func 130) #[] #[]), born := 4 }] 5)
 obtain ⟨u1, u2, u3, u4, u5⟩ := qupd_all (w.alloc (.cells #[.int .i64 5, .int .i64 id, .string d] 128))
 have ul := qlook_hit (w.alloc (.cells #[.int .i64 5, .int .i64 id, .string d] 128)) #[{ key := .int .i64 1, val := (.func (.func 127) #[] #[]), born := 0 }, { key := .int .i64 5, val := (.func (.func 128) #[] #[]), born := 1 }, { key := .int .i64 2, val := (.func (.func 129) #[] #[]), born := 2 }, { key := .int .i64 3, val := (.func (.func 130) #[] #[]), born := 3 }, { key := .int .i64 4, val := (.func (.func 130) #[] #[]), born := 4 }] 5 5 _ _ rfl
 simp only [World.size_alloc] at u1 u2 u3 u4 u5 ul
 have hC2 := hC _ hb2
 unfold RI.val at hC2 ⊢
 clear hR hb1 hC
 go_enter Tryz.func97, Tryz.ntmps97
 go_wp2_with fail
 refine hC2.mono ?_
 rintro e w4 ⟨rfl, hW⟩
 have HF := Lib.hid (SWent.from hb2 hW)
 clear hW hC2 u1 u2 u3 u4 u5 ul x0 x1 x2 hmm
 go_wp2_with fail
 exact bodyPost_end (v := .tuple #[]) (results_none (by kernel_rfl) _ _ _) rfl ⟨rfl, HF.out⟩
set_option maxRecDepth 100000 in
theorem tell_2 (id : Int) (d : ByteArray)
  (hC : ∀ W, Below w.heap.size w W → Calls Tryz.prog 129 #[.pointer (some ⟨c.b, 0, none⟩), RI.val ⟨2, id, d⟩] W fun e w' => e = .returned (.tuple #[]) ∧ SWent W c v s' w') :
  Calls Tryz.prog 97 #[.pointer (some ⟨c.b, 0, none⟩), RI.val ⟨2, id, d⟩] w fun e w' => e = .returned (.tuple #[]) ∧ SWent w c v s' w' := by
 have hmm := @run_makeMap Tryz.prog
 have hb1 := ext_new w (.cells #[.int .i64 2, .int .i64 id, .string d] 128)
 have hR := (Blk.new_ w 128 #[.int .i64 2, .int .i64 id, .string d]).alloc (.map #[{ key := .int .i64 1, val := (.func (.func 127) #[] #[]), born := 0 }, { key := .int .i64 5, val := (.func (.func 128) #[] #[]), born := 1 }, { key := .int .i64 2, val := (.func (.func 129) #[] #[]), born := 2 }, { key := .int .i64 3, val := (.func (.func 130) #[] #[]), born := 3 }, { key := .int .i64 4, val := (.func (.func 130) #[] #[]), born := 4 }] 5)
 obtain ⟨x0, x1, x2, -⟩ := hR.c3
 have hb2 := ext_alloc hb1 (.map #[{ key := .int .i64 1, val := (.func (.func 127) #[] #[]), born := 0 }, { key := .int .i64 5, val := (.func (.func 128) #[] #[]), born := 1 }, { key := .int .i64 2, val := (.func (.func 129) #[] #[]), born := 2 }, { key := .int .i64 3, val := (.func (.func 130) #[] #[]), born := 3 }, { key := .int .i64 4, val := (.func (.func 130) #[] #[]), born := 4 }] 5)
 obtain ⟨u1, u2, u3, u4, u5⟩ := qupd_all (w.alloc (.cells #[.int .i64 2, .int .i64 id, .string d] 128))
 have ul := qlook_hit (w.alloc (.cells #[.int .i64 2, .int .i64 id, .string d] 128)) #[{ key := .int .i64 1, val := (.func (.func 127) #[] #[]), born := 0 }, { key := .int .i64 5, val := (.func (.func 128) #[] #[]), born := 1 }, { key := .int .i64 2, val := (.func (.func 129) #[] #[]), born := 2 }, { key := .int .i64 3, val := (.func (.func 130) #[] #[]), born := 3 }, { key := .int .i64 4, val := (.func (.func 130) #[] #[]), born := 4 }] 5 2 _ _ rfl
 simp only [World.size_alloc] at u1 u2 u3 u4 u5 ul
 have hC2 := hC _ hb2
 unfold RI.val at hC2 ⊢
 clear hR hb1 hC
 go_enter Tryz.func97, Tryz.ntmps97
 go_wp2_with fail
 refine hC2.mono ?_
 rintro e w4 ⟨rfl, hW⟩
 have HF := Lib.hid (SWent.from hb2 hW)
 clear hW hC2 u1 u2 u3 u4 u5 ul x0 x1 x2 hmm
 go_wp2_with fail
 exact bodyPost_end (v := .tuple #[]) (results_none (by kernel_rfl) _ _ _) rfl ⟨rfl, HF.out⟩
set_option maxRecDepth 100000 in
theorem tell_3 (id : Int) (d : ByteArray)
  (hC : ∀ W, Below w.heap.size w W → Calls Tryz.prog 130 #[.pointer (some ⟨c.b, 0, none⟩), RI.val ⟨3, id, d⟩] W fun e w' => e = .returned (.tuple #[]) ∧ SWent W c v s' w') :
  Calls Tryz.prog 97 #[.pointer (some ⟨c.b, 0, none⟩), RI.val ⟨3, id, d⟩] w fun e w' => e = .returned (.tuple #[]) ∧ SWent w c v s' w' := by
 have hmm := @run_makeMap Tryz.prog
 have hb1 := ext_new w (.cells #[.int .i64 3, .int .i64 id, .string d] 128)
 have hR := (Blk.new_ w 128 #[.int .i64 3, .int .i64 id, .string d]).alloc (.map #[{ key := .int .i64 1, val := (.func (.func 127) #[] #[]), born := 0 }, { key := .int .i64 5, val := (.func (.func 128) #[] #[]), born := 1 }, { key := .int .i64 2, val := (.func (.func 129) #[] #[]), born := 2 }, { key := .int .i64 3, val := (.func (.func 130) #[] #[]), born := 3 }, { key := .int .i64 4, val := (.func (.func 130) #[] #[]), born := 4 }] 5)
 obtain ⟨x0, x1, x2, -⟩ := hR.c3
 have hb2 := ext_alloc hb1 (.map #[{ key := .int .i64 1, val := (.func (.func 127) #[] #[]), born := 0 }, { key := .int .i64 5, val := (.func (.func 128) #[] #[]), born := 1 }, { key := .int .i64 2, val := (.func (.func 129) #[] #[]), born := 2 }, { key := .int .i64 3, val := (.func (.func 130) #[] #[]), born := 3 }, { key := .int .i64 4, val := (.func (.func 130) #[] #[]), born := 4 }] 5)
 obtain ⟨u1, u2, u3, u4, u5⟩ := qupd_all (w.alloc (.cells #[.int .i64 3, .int .i64 id, .string d] 128))
 have ul := qlook_hit (w.alloc (.cells #[.int .i64 3, .int .i64 id, .string d] 128)) #[{ key := .int .i64 1, val := (.func (.func 127) #[] #[]), born := 0 }, { key := .int .i64 5, val := (.func (.func 128) #[] #[]), born := 1 }, { key := .int .i64 2, val := (.func (.func 129) #[] #[]), born := 2 }, { key := .int .i64 3, val := (.func (.func 130) #[] #[]), born := 3 }, { key := .int .i64 4, val := (.func (.func 130) #[] #[]), born := 4 }] 5 3 _ _ rfl
 simp only [World.size_alloc] at u1 u2 u3 u4 u5 ul
 have hC2 := hC _ hb2
 unfold RI.val at hC2 ⊢
 clear hR hb1 hC
 go_enter Tryz.func97, Tryz.ntmps97
 go_wp2_with fail
 refine hC2.mono ?_
 rintro e w4 ⟨rfl, hW⟩
 have HF := Lib.hid (SWent.from hb2 hW)
 clear hW hC2 u1 u2 u3 u4 u5 ul x0 x1 x2 hmm
 go_wp2_with fail
 exact bodyPost_end (v := .tuple #[]) (results_none (by kernel_rfl) _ _ _) rfl ⟨rfl, HF.out⟩
set_option maxRecDepth 100000 in
theorem tell_4 (id : Int) (d : ByteArray)
  (hC : ∀ W, Below w.heap.size w W → Calls Tryz.prog 130 #[.pointer (some ⟨c.b, 0, none⟩), RI.val ⟨4, id, d⟩] W fun e w' => e = .returned (.tuple #[]) ∧ SWent W c v s' w') :
  Calls Tryz.prog 97 #[.pointer (some ⟨c.b, 0, none⟩), RI.val ⟨4, id, d⟩] w fun e w' => e = .returned (.tuple #[]) ∧ SWent w c v s' w' := by
 have hmm := @run_makeMap Tryz.prog
 have hb1 := ext_new w (.cells #[.int .i64 4, .int .i64 id, .string d] 128)
 have hR := (Blk.new_ w 128 #[.int .i64 4, .int .i64 id, .string d]).alloc (.map #[{ key := .int .i64 1, val := (.func (.func 127) #[] #[]), born := 0 }, { key := .int .i64 5, val := (.func (.func 128) #[] #[]), born := 1 }, { key := .int .i64 2, val := (.func (.func 129) #[] #[]), born := 2 }, { key := .int .i64 3, val := (.func (.func 130) #[] #[]), born := 3 }, { key := .int .i64 4, val := (.func (.func 130) #[] #[]), born := 4 }] 5)
 obtain ⟨x0, x1, x2, -⟩ := hR.c3
 have hb2 := ext_alloc hb1 (.map #[{ key := .int .i64 1, val := (.func (.func 127) #[] #[]), born := 0 }, { key := .int .i64 5, val := (.func (.func 128) #[] #[]), born := 1 }, { key := .int .i64 2, val := (.func (.func 129) #[] #[]), born := 2 }, { key := .int .i64 3, val := (.func (.func 130) #[] #[]), born := 3 }, { key := .int .i64 4, val := (.func (.func 130) #[] #[]), born := 4 }] 5)
 obtain ⟨u1, u2, u3, u4, u5⟩ := qupd_all (w.alloc (.cells #[.int .i64 4, .int .i64 id, .string d] 128))
 have ul := qlook_hit (w.alloc (.cells #[.int .i64 4, .int .i64 id, .string d] 128)) #[{ key := .int .i64 1, val := (.func (.func 127) #[] #[]), born := 0 }, { key := .int .i64 5, val := (.func (.func 128) #[] #[]), born := 1 }, { key := .int .i64 2, val := (.func (.func 129) #[] #[]), born := 2 }, { key := .int .i64 3, val := (.func (.func 130) #[] #[]), born := 3 }, { key := .int .i64 4, val := (.func (.func 130) #[] #[]), born := 4 }] 5 4 _ _ rfl
 simp only [World.size_alloc] at u1 u2 u3 u4 u5 ul
 have hC2 := hC _ hb2
 unfold RI.val at hC2 ⊢
 clear hR hb1 hC
 go_enter Tryz.func97, Tryz.ntmps97
 go_wp2_with fail
 refine hC2.mono ?_
 rintro e w4 ⟨rfl, hW⟩
 have HF := Lib.hid (SWent.from hb2 hW)
 clear hW hC2 u1 u2 u3 u4 u5 ul x0 x1 x2 hmm
 go_wp2_with fail
 exact bodyPost_end (v := .tuple #[]) (results_none (by kernel_rfl) _ _ _) rfl ⟨rfl, HF.out⟩
set_option maxRecDepth 100000 in
theorem tell_miss (op id : Int) (d : ByteArray) (h : SAt w c v s) (h1 : op ≠ 1) (h2 : op ≠ 2) (h3 : op ≠ 3) (h4 : op ≠ 4) (h5 : op ≠ 5) :
  Calls Tryz.prog 97 #[.pointer (some ⟨c.b, 0, none⟩), RI.val ⟨op, id, d⟩] w fun e w' => e = .returned (.tuple #[]) ∧ SWent w c v s w' := by
 have hmm := @run_makeMap Tryz.prog
 have hb1 := ext_new w (.cells #[.int .i64 op, .int .i64 id, .string d] 128)
 have hR := (Blk.new_ w 128 #[.int .i64 op, .int .i64 id, .string d]).alloc (.map #[{ key := .int .i64 1, val := (.func (.func 127) #[] #[]), born := 0 }, { key := .int .i64 5, val := (.func (.func 128) #[] #[]), born := 1 }, { key := .int .i64 2, val := (.func (.func 129) #[] #[]), born := 2 }, { key := .int .i64 3, val := (.func (.func 130) #[] #[]), born := 3 }, { key := .int .i64 4, val := (.func (.func 130) #[] #[]), born := 4 }] 5)
 obtain ⟨x0, x1, x2, -⟩ := hR.c3
 have hb2 := ext_alloc hb1 (.map #[{ key := .int .i64 1, val := (.func (.func 127) #[] #[]), born := 0 }, { key := .int .i64 5, val := (.func (.func 128) #[] #[]), born := 1 }, { key := .int .i64 2, val := (.func (.func 129) #[] #[]), born := 2 }, { key := .int .i64 3, val := (.func (.func 130) #[] #[]), born := 3 }, { key := .int .i64 4, val := (.func (.func 130) #[] #[]), born := 4 }] 5)
 obtain ⟨u1, u2, u3, u4, u5⟩ := qupd_all (w.alloc (.cells #[.int .i64 op, .int .i64 id, .string d] 128))
 have ul := qlook_miss (w.alloc (.cells #[.int .i64 op, .int .i64 id, .string d] 128)) #[{ key := .int .i64 1, val := (.func (.func 127) #[] #[]), born := 0 }, { key := .int .i64 5, val := (.func (.func 128) #[] #[]), born := 1 }, { key := .int .i64 2, val := (.func (.func 129) #[] #[]), born := 2 }, { key := .int .i64 3, val := (.func (.func 130) #[] #[]), born := 3 }, { key := .int .i64 4, val := (.func (.func 130) #[] #[]), born := 4 }] 5 op (by
  have q1 : (op == 1) = false := beq_eq_false_iff_ne.2 h1
  have q2 : (op == 2) = false := beq_eq_false_iff_ne.2 h2
  have q3 : (op == 3) = false := beq_eq_false_iff_ne.2 h3
  have q4 : (op == 4) = false := beq_eq_false_iff_ne.2 h4
  have q5 : (op == 5) = false := beq_eq_false_iff_ne.2 h5
  simp [Instr.findNow, Instr.sameNow, q1, q2, q3, q4, q5])
 simp only [World.size_alloc] at u1 u2 u3 u4 u5 ul
 unfold RI.val
 clear hR hb1
 go_enter Tryz.func97, Tryz.ntmps97
 go_wp2_with fail
 exact bodyPost_end (v := .tuple #[]) (results_none (by kernel_rfl) _ _ _) rfl ⟨rfl, .refl h hb2⟩
theorem tellR_put (s : SN) (id : Int) (d : ByteArray) : s.tell ⟨1, id, d⟩ = s.putR ⟨1, id, d⟩ := by
 unfold SN.tell SN.putR
 rw [if_pos rfl]
theorem tellR_key (s : SN) (id : Int) (d : ByteArray) : s.tell ⟨5, id, d⟩ = s.keyR ⟨5, id, d⟩ := by
 unfold SN.tell SN.keyR
 rw [if_neg (show ¬ (5 : Int) = 1 by decide), if_pos rfl]
theorem tellR_sent (s : SN) (id : Int) (d : ByteArray) : s.tell ⟨2, id, d⟩ = s.sentR ⟨2, id, d⟩ := by
 unfold SN.tell SN.sentR
 rw [if_neg (show ¬ (2 : Int) = 1 by decide), if_neg (show ¬ (2 : Int) = 5 by decide)]
 rfl
theorem tellR_end (s : SN) (op id : Int) (d : ByteArray) (h : op = 3 ∨ op = 4) : s.tell ⟨op, id, d⟩ = s.endR ⟨op, id, d⟩ := by
 unfold SN.tell SN.endR
 rw [if_neg (show ¬ op = 1 by omega), if_neg (show ¬ op = 5 by omega)]
 cases s.place id with
 | none => rfl
 | some i => dsimp only; rw [if_neg (show ¬ op = 2 by omega), if_pos h]
theorem tellR_none (s : SN) (op id : Int) (d : ByteArray) (h1 : op ≠ 1) (h2 : op ≠ 2) (h3 : op ≠ 3) (h4 : op ≠ 4) (h5 : op ≠ 5) : s.tell ⟨op, id, d⟩ = s := by
 unfold SN.tell
 rw [if_neg h1, if_neg h5]
 cases s.place id with
 | none => rfl
 | some i => dsimp only; rw [if_neg h2, if_neg (by omega)]
theorem tell_any (r : RI) (aN aW aS : Addr) (hIn : NInv w aN aW aS) (h : SAt w c v s) (hl : s.K.length ≤ 1000) (hl2 : s.L.length ≤ 1000) (hz : r.d.size ≤ 1000000) :
  Calls Tryz.prog 97 #[.pointer (some ⟨c.b, 0, none⟩), r.val] w fun e w' => e = .returned (.tuple #[]) ∧ SWent w c v (s.tell r) w' := by
 obtain ⟨op, id, d⟩ := r
 by_cases h1 : op = 1
 ·subst h1
  rw [tellR_put]
  exact tell_1 id d fun W hb => put_any ⟨1, id, d⟩ aN aW aS (hIn.below hb) (h.below hb) hl hl2 hz
 by_cases h2 : op = 2
 ·subst h2
  rw [tellR_sent]
  exact tell_2 id d fun W hb => sent_any ⟨2, id, d⟩ (h.below hb) hl2
 by_cases h3 : op = 3
 ·subst h3
  rw [tellR_end s 3 id d (.inl rfl)]
  exact tell_3 id d fun W hb => end_any ⟨3, id, d⟩ (h.below hb) hl2
 by_cases h4 : op = 4
 ·subst h4
  rw [tellR_end s 4 id d (.inr rfl)]
  exact tell_4 id d fun W hb => end_any ⟨4, id, d⟩ (h.below hb) hl2
 by_cases h5 : op = 5
 ·subst h5
  rw [tellR_key]
  exact tell_5 id d fun W hb => key_any ⟨5, id, d⟩ (h.below hb) hl hz
 rw [tellR_none s op id d h1 h2 h3 h4 h5]
 exact tell_miss op id d h h1 h2 h3 h4 h5
end Go.Proofs.YtmebjdbkngehiaaGreatDoor
namespace Go.Proofs.YtmebjdbkngehiaaGreatDoor
open Go.RowKit
variable {w w' : World} {c : QC} {v : QV} {p g : Nat} {q : QN}
structure QCells (c : QC) (p : Nat) (q : QN) : Prop where
 x3 : c.x3 = .bool q.other
 x4 : c.x4 = .int .i64 (q.tail : Int)
 x5 : c.x5 = .pointer (some ⟨p, 0, none⟩)
 x6 : c.x6 = .bool q.down
structure QAt (w : World) (c : QC) (v : QV) (p g : Nat) (q : QN) : Prop where
 st : SAt w c v q.s
 cells : QCells c p q
 disk : DAt w p g q.d
 pos : 0 < q.d.L.length
theorem QAt.below (h : QAt w c v p g q) (hb : Below w.heap.size w w') : QAt w' c v p g q := ⟨h.st.below hb, h.cells, h.disk.below hb, h.pos⟩
theorem QAt.blk (h : QAt w c v p g q) : Blk w c.b 112 #[v.i, v.l, v.e, .bool q.other, .int .i64 (q.tail : Int), .pointer (some ⟨p, 0, none⟩), .bool q.down] := by
 have hB := h.st.blk
 rw [h.cells.x3, h.cells.x4, h.cells.x5, h.cells.x6] at hB
 exact hB
def QF2 (c : QC) (v : QV) (p g : Nat) (k : Nat) : Prop := QF c v k ∨ k = p ∨ k = g
def QWent (w : World) (c : QC) (v : QV) (p g : Nat) (q' : QN) (w' : World) : Prop := ∃ c' v', c'.b = c.b ∧ QAt w' c' v' p g q' ∧ Foot (QF2 c v p g) w w' ∧ ∀ k, QF2 c' v' p g k → QF2 c v p g k ∨ w.heap.size ≤ k
theorem QWent.refl (h : QAt w c v p g q) (hb : Below w.heap.size w w') : QWent w c v p g q w' := ⟨c, v, rfl, h.below hb, .of_below hb, fun _ h => .inl h⟩
theorem QWent.trans {w1 w2 : World} {c1 : QC} {v1 : QV} {q2 : QN} (hb : c1.b = c.b) (F1 : Foot (QF2 c v p g) w w1) (Q1 : ∀ k, QF2 c1 v1 p g k → QF2 c v p g k ∨ w.heap.size ≤ k) (h : QWent w1 c1 v1 p g q2 w2) : QWent w c v p g q2 w2 := by
 obtain ⟨c2, v2, h0, h1, h2, h3⟩ := h
 refine ⟨c2, v2, h0.trans hb, h1, F1.trans h2 Q1, fun k hk => ?_⟩
 rcases h3 k hk with h | h
 ·exact Q1 k h
 ·exact .inr (Nat.le_trans F1.size h)
theorem size_num (n : Nat) (h : 0 < n) : ((n : Int) - 1) / 2 * 64 = (szN n : Int) := by
 unfold szN
 omega
set_option maxRecDepth 100000 in
theorem size_any (h : QAt w c v p g q) :
  Calls Tryz.prog 95 #[.pointer (some ⟨c.b, 0, none⟩)] w (Pure (.int .i64 (szN q.d.L.length : Int)) w) := by
 have hB := h.blk
 have x5 := hB.c7.1.2.2.2.2.2.1
 have hS := Sectors_any h.disk
 have hz := size_num q.d.L.length h.pos
 have h1 := h.pos
 have h2 := h.disk.len
 generalize q.d.L.length = n at *
 have HZ := Lib.hid hz
 have n1 : (1 : Int) ≤ (n : Int) := by omega
 have n2 : (n : Int) ≤ 256 := by omega
 clear hz hB h h1 h2
 go_enter Tryz.func95, Tryz.ntmps95
 go_wp2_with fail
 refine hS.mono ?_
 rintro e w1 ⟨rfl, rfl⟩
 go_wp2_with fail
 go_ret
 exact ⟨by rw [← HZ.out]; rfl, rfl⟩
theorem begin_any (o : Bool) (h : QAt w c v p g q) :
  Calls Tryz.prog 94 #[.pointer (some ⟨c.b, 0, none⟩), .bool o] w (Pure (.int .i64 (beginN q.d.L.length o : Int)) w) := by
 have hS := size_any h
 have hz : szN q.d.L.length ≤ 16384 := by have := h.disk.len; unfold szN; omega
 unfold beginN
 generalize szN q.d.L.length = n at *
 clear h
 cases o with
 | true =>
  go_enter Tryz.func94, Tryz.ntmps94
  go_wp2_with fail
  refine hS.mono ?_
  rintro e w1 ⟨rfl, rfl⟩
  go_wp2_with fail
  go_ret
  exact ⟨by simp, rfl⟩
 | false =>
  go_enter Tryz.func94, Tryz.ntmps94
  go_wp2_with fail
  go_ret
  exact ⟨rfl, rfl⟩
set_option maxRecDepth 100000 in
theorem qup_nil (w : World) : Calls Tryz.prog 102 #[.pointer none] w (Pure (QWrV 1) w) := by
 unfold QWrV
 go_enter Tryz.func102, Tryz.ntmps102
 go_wp2_with fail
 go_ret
 exact ⟨rfl, rfl⟩
theorem qup_at (h : QAt w c v p g q) :
  Calls Tryz.prog 102 #[.pointer (some ⟨c.b, 0, none⟩)] w (Pure (if q.down then QWrV 180 else .nilIface) w) := by
 have hB := h.blk
 have x6 := hB.c7.1.2.2.2.2.2.2
 unfold QWrV
 generalize q.down = dn at *
 clear hB h
 cases dn with
 | true =>
  go_enter Tryz.func102, Tryz.ntmps102
  go_wp2_with fail
  go_ret
  exact ⟨rfl, rfl⟩
 | false =>
  go_enter Tryz.func102, Tryz.ntmps102
  go_wp2_with fail
  go_ret
  exact ⟨rfl, rfl⟩
theorem knows_any {s : SN} (t : ByteArray) (h : SAt w c v s) (hl : s.K.length ≤ 1000000) :
  Calls Tryz.prog 30 #[.pointer (some ⟨c.b, 0, none⟩), .string t] w (Pure (.bool (s.knows t)) w) := by
 obtain ⟨B, c2, e2, r2⟩ := row_own h.txt
 have x1 := h.blk.c7.1.2.1
 rw [e2] at x1
 have hC2 := containsS_any B c2 (txtsOf s.K) t w r2 (by rw [txts_length]; exact hl)
 rw [any_txts, txts_length] at hC2
 unfold SN.knows
 clear r2 e2 h
 generalize (s.K.any fun k => decide (k.text = t)) = p2 at *
 go_enter Tryz.func30, Tryz.ntmps30
 go_wp2_with fail
 refine hC2.mono ?_
 rintro e w1 ⟨rfl, rfl⟩
 go_wp2_with fail
 go_ret
 exact ⟨by first | rfl | simp, rfl⟩
end Go.Proofs.YtmebjdbkngehiaaGreatDoor
namespace Go.Proofs.YtmebjdbkngehiaaGreatDoor
open Go.RowKit Go.Shelf
set_option maxHeartbeats 4000000
variable {w : World} {c : QC} {v : QV} {s : SN}
theorem each_any (b : Nat) (w : World) : Calls Tryz.prog 135 #[.pointer (some ⟨b, 0, none⟩)] w fun e w' => e = .returned (.func (.func 164) #[] #[.pointer (some ⟨w.heap.size, 0, none⟩)]) ∧ w.alloc (.cells #[.pointer (some ⟨b, 0, none⟩)] 254) = w' := by
 go_enter Tryz.func135, Tryz.ntmps135
 go_wp2
 go_ret
 exact ⟨rfl, rfl⟩
def keyE (k : KI) : Array Value := #[.int .i64 k.id, .string k.text]
theorem SAt.kept {w' : World} (h : SAt w c v s) (hb : ∀ k, QF c v k → w'.heap[k]? = w.heap[k]?) : SAt w' c v s :=
 ⟨h.blk.kept (hb _ (.inl rfl)), own_keep h.ids fun k hk => hb k (.inr (.inl hk)), own_keep h.txt fun k hk => hb k (.inr (.inr (.inl hk))), own_keep h.ent fun k hk => hb k (.inr (.inr (.inr hk)))⟩
set_option maxRecDepth 100000 in
theorem keys_seq (c : QC) (v : QV) (s : SN) (hl : s.K.length ≤ 1000) (Bc m : Nat) :
  SeqW Fence.wide m Tryz.prog 164 #[.pointer (some ⟨Bc, 0, none⟩)] keyE
   (fun A B => ∀ k, k = Bc ∨ QF c v k → B.heap[k]? = A.heap[k]?) (fun A B => B = A) (fun pre x => ∃ t, s.K = pre ++ x :: t)
   (fun xs _ => xs = s.K) (fun _ => True)
   (fun W => Blk W Bc 254 #[.pointer (some ⟨c.b, 0, none⟩)] ∧ SAt W c v s) := by
 rintro l J Jx W ⟨hbc, hst⟩ hJ hJx hY h0
 refine callsIn_of_wp Tryz.func164 rfl trivial ?_ rfl
 simp only [Tryz.ntmps164, List.size_toArray, List.length_cons, List.length_nil, Nat.reduceAdd, Nat.reduceSub, Array.replicate_succ, Array.replicate_zero, List.push_toArray, List.append_toArray, List.nil_append, List.cons_append]
 refine wpIn_scope ?_
 have cx := hbc.c1.1
 obtain ⟨A, c1, e1, r1⟩ := row_own hst.ids
 obtain ⟨B, c2, e2, r2⟩ := row_own hst.txt
 have x1 := hst.blk.c7.1.2.1
 rw [e2] at x1
 gi_wp2
 refine wpIn_label ?_
 gi_wp2
 clear cx x1 r1 r2
 gi_loopw [10] (fun i wr => ∃ k : Nat, k ≤ s.K.length ∧ i = .int .i64 (k : Int) ∧ J (s.K.take k) wr ∧ Blk wr Bc 254 #[.pointer (some ⟨c.b, 0, none⟩)] ∧ SAt wr c v s) (fun i _ => s.K.length - (intOf i).toNat)
 case atStart => exact ⟨0, Nat.zero_le _, rfl, h0, hbc, hst⟩
 case round =>
  obtain ⟨k, hk, rfl, hJk, hbk, hsk⟩ := hrel
  by_cases hlt : k < s.K.length
  ·have hsplit : s.K = s.K.take k ++ s.K[k] :: s.K.drop (k + 1) := by rw [List.getElem_cons_drop, List.take_append_drop]
   have hnext : s.K.take (k + 1) = s.K.take k ++ [s.K[k]] := List.take_succ_eq_append_getElem hlt
   obtain ⟨A', c1', e1', r1⟩ := row_own hsk.ids
   obtain ⟨B', c2', e2', r2⟩ := row_own hsk.txt
   obtain ⟨g1, hg1, -, k1⟩ := r1 (by rw [List.length_map, ids_length]; omega)
   obtain ⟨g2, hg2, -, k2⟩ := r2 (by rw [List.length_map, txts_length]; omega)
   have y1 := k1 k (by rw [List.length_map, ids_length]; exact hlt)
   have y2 := k2 k (by rw [List.length_map, txts_length]; exact hlt)
   simp only [List.getElem_map, idsOf, txtsOf] at y1 y2
   have x0 := hsk.blk.c7.1.1
   have cx := hbk.c1.1
   rw [e1', hg1] at x0
   have e3 : B = B' := by rw [e2] at e2'; injection e2'
   rw [e3, hg2]
   have hy := hY (s.K.take k) s.K[k] wr hJk ⟨_, hsplit⟩
   obtain ⟨fnn, tmps, assign, body, hy, hR2⟩ := hy
   have i0 : (0 : Int) ≤ (k : Int) := by omega
   have i1 : (k : Int) < (s.K.length : Int) := by omega
   have HN := Lib.hid hnext
   have HBK := Lib.hid hbk
   have HSK := Lib.hid hsk
   unfold keyE at hy
   clear hsplit hnext k1 k2 r1 r2 e1' e2' e3 hbk hsk hJk
   generalize s.K[k] = kk at *
   gi_wp2
   refine ⟨fun hd => (by cases hd), hR2.mono ?_⟩
   rintro e W3 (⟨rfl, hJ3, hk3⟩ | ⟨rfl, hJx3⟩)
   ·have hb3 := HBK.out.kept (hk3 Bc (.inl rfl))
    have hs3 := HSK.out.kept fun k hk => hk3 k (.inr hk)
    gi_wp2
    refine ⟨⟨k + 1, by omega, by go_num, by rw [HN.out]; exact hJ3, hb3, hs3⟩, ?_⟩
    simp [intOf]; omega
   ·gi_wp2
    simp only [Exit.noGoto]
    go_end0
    exact ⟨⟨_, rfl⟩, .inr ⟨_, trivial, hJx3⟩⟩
  ·gi_wp2
   simp only [Exit.noGoto]
   go_end0
   obtain rfl : k = s.K.length := by omega
   rw [List.take_length] at hJk
   exact ⟨⟨_, rfl⟩, .inl ⟨_, rfl, hJk⟩⟩
attribute [local go_sem] Oper.semAt_some
theorem max_if (a b : Int) : (if a < b then b else a) = max a b := by omega
theorem fold_snoc (pre : List KI) (x : KI) : (pre ++ [x]).foldl (fun n k => max n k.id) (0 : Int) = max (pre.foldl (fun n k => max n k.id) 0) x.id := by rw [List.foldl_append]; rfl
set_option maxRecDepth 100000 in
theorem next_any (h : SAt w c v s) (hl : s.K.length ≤ 1000) (hn0 : 0 ≤ s.next) (hnx : s.next ≤ 281474976710656) :
  Calls Tryz.prog 103 #[.pointer (some ⟨c.b, 0, none⟩)] w (Ret (.int .i64 s.next) w) := by
 refine callsIn_wide.1 (callsIn_of_wp_marks (n := 5) Tryz.func103 rfl trivial ?_ rfl)
 simp only [Tryz.ntmps103, List.size_toArray, List.length_cons, List.length_nil, Nat.reduceAdd, Nat.reduceSub, Array.replicate_succ, Array.replicate_zero, List.push_toArray, List.append_toArray, List.nil_append, List.cons_append]
 refine wpIn_wide.2 ?_
 go_wp2_with fail
 refine (each_any c.b _).mono ?_
 rintro e w5 ⟨rfl, rfl⟩
 go_wp2_with fail
 have hlt : ∀ k, QF c v k → k < w.heap.size := fun k q => h.lt q
 obtain ⟨e, he⟩ : ∃ e, w.heap.size = e := ⟨_, rfl⟩
 have p0 : Blk ((w.alloc (.cells #[.int .i64 0] 3)).alloc (.cells #[.pointer (some ⟨c.b, 0, none⟩)] 254)) e 3 #[.int .i64 0] := by rw [← he]; exact (Blk.new_ w _ _).alloc _
 have p1 : Blk ((w.alloc (.cells #[.int .i64 0] 3)).alloc (.cells #[.pointer (some ⟨c.b, 0, none⟩)] 254)) (e + 1) 254 #[.pointer (some ⟨c.b, 0, none⟩)] := Blk.at_ (by simp [he])
 have p2 := (h.below (ext_new w (.cells #[.int .i64 0] 3))).below (ext_new _ (.cells #[.pointer (some ⟨c.b, 0, none⟩)] 254))
 have p3 := ext_alloc (ext_new w (.cells #[.int .i64 0] 3)) (.cells #[.pointer (some ⟨c.b, 0, none⟩)] 254)
 have hW5s : ((w.alloc (.cells #[.int .i64 0] 3)).alloc (.cells #[.pointer (some ⟨c.b, 0, none⟩)] 254)).heap.size = e + 2 := by simp [he]
 rw [he] at hlt p3 ⊢
 generalize (w.alloc (.cells #[.int .i64 0] 3)).alloc (.cells #[.pointer (some ⟨c.b, 0, none⟩)] 254) = W5 at *
 refine wpIn_wide.1 (wpIn_rangeX (n := 5) (gf := 164) (lb := #[.pointer (some ⟨e + 1, 0, none⟩)]) rfl (by omega) rfl trivial (enters_of Tryz.func164 (by kernel_rfl) rfl)
  (keys_seq c v s hl (e + 1) _) (fun _ => rfl) ?hSt ?hSe (fun h k i hi => (k i hi).trans (h i hi)) ?hKb ?hMb
  (fun pre W => Blk W e 3 #[.int .i64 (pre.foldl (fun n k => max n k.id) 0)] ∧ Below e w W ∧ e + 2 ≤ W.heap.size) (fun _ _ _ => False) ?hI (fun _ _ _ _ _ h _ _ => h) ?hIM (fun _ _ _ _ h _ => h) ⟨p0, p3, by omega⟩ ?hround ?hdone (fun _ _ _ _ h _ => h.elim))
 case hSt => exact fun o o' => ⟨(p1.alloc _).alloc _, (p2.below (ext_new _ o)).below (ext_new _ o')⟩
 case hSe => exact fun xs W l o o' _ _ _ h => h
 case hKb =>
  intro W l o o' hl2 ho _ k hk
  refine World.putObj_heap_other ?_
  rcases hk with rfl | hk
  ·omega
  ·have := hlt k hk; omega
 case hMb =>
  rintro A B hM l o hl2 ho _
  have hM : B = A := hM
  rw [hM]; exact ho
 case hI =>
  rintro pre A B row ⟨b1, b2, b3⟩ hgr hr
  have := hgr.size
  exact ⟨b1.kept (hgr.block _ b1.lt (fun q => by have := (hr _ q.symm).1; omega)), b2.grown hgr (by omega) (fun r q => by have := (hr r q).1; omega), by omega⟩
 case hIM =>
  rintro pre A B b hM
  have hM : B = A := hM
  rw [hM]; exact b
 case hround =>
  rintro l pre x W ⟨b1, b2, b3⟩ ⟨t, ht⟩ hlW
  unfold keyE
  simp only [List.zip_toArray, List.zip_cons_cons, List.zip_nil_right, List.foldl_toArray, List.foldl_cons, List.foldl_nil, List.setIfInBounds_toArray, List.set_cons_succ, List.set_cons_zero]
  gi_wp2
  refine ⟨KeepsFrom.refl _ _, fun _ _ => trivial, ⟨b1, b2, b3⟩, ?_⟩
  rintro Wb ⟨d1, d2, d3⟩ hWb
  have hfs := fold_snoc pre x
  generalize pre.foldl (fun n k => max n k.id) (0 : Int) = m at *
  have HFS := Lib.hid hfs
  clear hfs hWb b1 b2 b3 ht hlW
  obtain ⟨x0, f0⟩ := d1.c1
  have hmax := fun W' => run_max_int2 #[3, 3] 3 m x.id W'
  rw [max_if] at hmax
  have hset := d1.set_ 0 (.int .i64 (max m x.id))
  simp only [List.setIfInBounds_toArray, List.set_cons_zero] at hset
  have HSET := Lib.hid hset
  have hbs := d2.setCell (p := ⟨e, 0, none⟩) (show e ≤ e from Nat.le_refl _) (.int .i64 (max m x.id))
  have HBS := Lib.hid hbs
  have HK := Lib.hid (show KeepsFrom W5.heap.size Wb (Wb.setCell ⟨e, 0, none⟩ (.int .i64 (max m x.id))) from ⟨by rw [World.size_setCell]; exact Nat.le_refl _, fun k o hk ho _ => (Below.heap_setCell _ _ _ _ (by simp; omega)).trans ho⟩)
  have HKP := Lib.hid (show ∀ k, k = e + 1 ∨ QF c v k → (Wb.setCell ⟨e, 0, none⟩ (.int .i64 (max m x.id))).heap[k]? = Wb.heap[k]? from fun k hk => Below.heap_setCell _ _ _ _ (by
   rcases hk with rfl | hk
   ·simp
   ·have := hlt k hk
    simp
    omega))
  clear hset hbs d1 d2
  gi_wp2
  exact ⟨HK.out, HKP.out, by rw [HFS.out]; exact HSET.out, HBS.out, by rw [World.size_setCell]; exact d3⟩
 case hdone =>
  rintro xs W hxs ⟨b1, b2, b3⟩ hD
  have hxs : xs = s.K := hxs
  subst hxs
  have hnext : s.next = s.K.foldl (fun n k => max n k.id) 0 + 1 := rfl
  rw [hnext] at hn0 hnx
  have HNX := Lib.hid hnext
  generalize s.K.foldl (fun n k => max n k.id) (0 : Int) = m at *
  obtain ⟨x0, f0⟩ := b1.c1
  have hD2 := hD
  rw [hW5s] at hD2
  have HB := Lib.hid b2
  clear b1 hnext b2
  go_wp2_with fail
  refine ⟨by simp, .inl ⟨_, _, rfl, run_takeDeferred hD2, ?_⟩⟩
  exact ⟨_, results_tmp rfl _ _ _, by rw [HNX.out]; rfl, by rw [he]; exact HB.out.grown (grownBy_putObj' W (e + 2) _) (by have := HB.out.size; omega) (fun k q => by cases q; omega)⟩
end Go.Proofs.YtmebjdbkngehiaaGreatDoor
namespace Go.Proofs.YtmebjdbkngehiaaGreatDoor
open Go.RowKit
set_option maxHeartbeats 4000000
variable {w : World} {base n : Nat} {V : Value} {xs : List Value} {c : QC} {v : QV} {s : SN} {o : Oper}
theorem ad_blk9 (a : Addr) (i : Nat) : (a.add i).block = a.block := by unfold Addr.add; split <;> rfl
set_option maxRecDepth 100000 in
theorem cloneE_any (h : w.ownsRow base 23 7 V n xs) (hn : n ≤ 1000) (h1 : ∀ u ∈ xs, u.oneCell' = true) :
  Calls Tryz.prog 56 #[V] w fun e w' => ∃ V', e = .returned V' ∧ w'.ownsRow w.heap.size 23 7 V' n xs ∧ Below w.heap.size w w' := by
 obtain ⟨i0, hi0, hz0, hz1, hz2⟩ := info_parts infoEn
 have q22 : ∀ (w : World) (a : Option Addr) (n c n' c' : Nat), (binOp .eql 46 (.slice a n c) (.slice none n' c')).run Tryz.prog w = .ok (.bool a.isNone) w := fun w a n c n' c' => Lib.run_eql_slice_nil w _ _ a n c n' c' Tryz.underlying46
 have h' := h
 obtain ⟨hlen, ⟨rfl, h0⟩ | ⟨g, cap, cur, rfl, -, hh, -⟩⟩ := h'
 ·subst h0
  obtain rfl : xs = [] := List.eq_nil_of_length_eq_zero (by omega)
  go_enter Tryz.func56, Tryz.ntmps56
  go_wp2_with fail
  go_ret
  exact ⟨_, rfl, own_nil, ext_refl w⟩
 ·have hglt : g < w.heap.size := (Array.getElem?_eq_some_iff.1 hh).1
  have own0 : (w.alloc (.cells #[] 23)).ownsRow w.heap.size 23 7 (.slice (some ⟨w.heap.size, 0, none⟩) 0 0) 0 [] := ⟨by simp, .inr ⟨_, 0, #[], rfl, Nat.le_refl _, World.alloc_heap_new w _, Nat.le_refl _, by unfold maxLen; omega, by simp, by simp⟩⟩
  have hcs : ∀ j u, xs[j]? = some u → (w.alloc (.cells #[] 23)).cell? ((⟨g, 0, none⟩ : Addr).add j) = some u := fun j u hj => by
   have := h.cells rfl j u hj
   rw [World.cell?_alloc_lt _ _ _ (by rw [ad_blk9]; exact hglt)]
   exact this
  have hb1 := ext_new w (.cells #[] 23)
  have H1 := Lib.hid h1
  clear h h1
  go_enter Tryz.func56, Tryz.ntmps56
  go_wp2_with (at_builtin; refine wpList_append_own_at _ rfl _ _ 46 rfl w.heap.size 23 i0 (.agg #[.int .i64 0, .int .i64 0, .string ByteArray.empty, .string ByteArray.empty, .int .i64 0, .bool false, .bool false]) 7 64 Tryz.underlying46 hi0 hz0 hz1 hz2 rfl (by omega) _ _ _ rfl own0 ⟨g, 0, none⟩ n cap xs rfl hlen hcs H1.out (by unfold maxLen; omega) (by omega) (by simp) ?_; intro v' w6 own6 hgrow _ hat)
  go_ret
  exact ⟨_, rfl, by rw [Nat.zero_add] at own6; simpa using own6, hb1.grown hgrow (by simp) (fun k q => by injection q with q; have q : w.heap.size = k := q; omega)⟩
set_option maxRecDepth 100000 in
theorem cloneS_any (h : w.ownsRow base 9 1 V n xs) (hn : n ≤ 1000) (h1 : ∀ u ∈ xs, u.oneCell' = true) :
  Calls Tryz.prog 57 #[V] w fun e w' => ∃ V', e = .returned V' ∧ w'.ownsRow w.heap.size 9 1 V' n xs ∧ Below w.heap.size w w' := by
 obtain ⟨i0, hi0, hz0, hz1, hz2⟩ := info_parts infoQS
 have q22 : ∀ (w : World) (a : Option Addr) (n c n' c' : Nat), (binOp .eql 54 (.slice a n c) (.slice none n' c')).run Tryz.prog w = .ok (.bool a.isNone) w := fun w a n c n' c' => Lib.run_eql_slice_nil w _ _ a n c n' c' Tryz.underlying54
 have h' := h
 obtain ⟨hlen, ⟨rfl, h0⟩ | ⟨g, cap, cur, rfl, -, hh, -⟩⟩ := h'
 ·subst h0
  obtain rfl : xs = [] := List.eq_nil_of_length_eq_zero (by omega)
  go_enter Tryz.func57, Tryz.ntmps57
  go_wp2_with fail
  go_ret
  exact ⟨_, rfl, own_nil, ext_refl w⟩
 ·have hglt : g < w.heap.size := (Array.getElem?_eq_some_iff.1 hh).1
  have own0 : (w.alloc (.cells #[] 9)).ownsRow w.heap.size 9 1 (.slice (some ⟨w.heap.size, 0, none⟩) 0 0) 0 [] := ⟨by simp, .inr ⟨_, 0, #[], rfl, Nat.le_refl _, World.alloc_heap_new w _, Nat.le_refl _, by unfold maxLen; omega, by simp, by simp⟩⟩
  have hcs : ∀ j u, xs[j]? = some u → (w.alloc (.cells #[] 9)).cell? ((⟨g, 0, none⟩ : Addr).add j) = some u := fun j u hj => by
   have := h.cells rfl j u hj
   rw [World.cell?_alloc_lt _ _ _ (by rw [ad_blk9]; exact hglt)]
   exact this
  have hb1 := ext_new w (.cells #[] 9)
  have H1 := Lib.hid h1
  clear h h1
  go_enter Tryz.func57, Tryz.ntmps57
  go_wp2_with (at_builtin; refine wpList_append_own_at _ rfl _ _ 54 rfl w.heap.size 9 i0 (.string ByteArray.empty) 1 16 Tryz.underlying54 hi0 hz0 hz1 hz2 rfl (by omega) _ _ _ rfl own0 ⟨g, 0, none⟩ n cap xs rfl hlen hcs H1.out (by unfold maxLen; omega) (by omega) (by simp) ?_; intro v' w6 own6 hgrow _ hat)
  go_ret
  exact ⟨_, rfl, by rw [Nat.zero_add] at own6; simpa using own6, hb1.grown hgrow (by simp) (fun k q => by injection q with q; have q : w.heap.size = k := q; omega)⟩
theorem entries_nil (w : World) : Calls Tryz.prog 22 #[.pointer none] w (Pure (.slice none 0 0) w) := by
 go_enter Tryz.func22, Tryz.ntmps22
 go_wp2_with fail
 go_ret
 exact ⟨rfl, rfl⟩
theorem entries_any (h : SAt w c v s) (hl : s.L.length ≤ 1000) :
  Calls Tryz.prog 22 #[.pointer (some ⟨c.b, 0, none⟩)] w fun e w' => ∃ V', e = .returned V' ∧ w'.ownsRow w.heap.size 23 7 V' s.L.length (cellsE s.L) ∧ Below w.heap.size w w' := by
 have hC := cloneE_any h.ent hl (cellsE_one s.L)
 have x2 := h.blk.c7.1.2.2.1
 clear h hl
 go_enter Tryz.func22, Tryz.ntmps22
 go_wp2_with fail
 refine hC.mono ?_
 rintro e w' ⟨V', rfl, ho, hb⟩
 go_wp2_with fail
 go_ret
 exact ⟨V', rfl, ho, hb⟩
theorem keys_nil (w : World) : Calls Tryz.prog 25 #[.pointer none] w (Pure (.slice none 0 0) w) := by
 go_enter Tryz.func25, Tryz.ntmps25
 go_wp2_with fail
 go_ret
 exact ⟨rfl, rfl⟩
theorem keys_any (h : SAt w c v s) (hl : s.K.length ≤ 1000) :
  Calls Tryz.prog 25 #[.pointer (some ⟨c.b, 0, none⟩)] w fun e w' => ∃ V', e = .returned V' ∧ w'.ownsRow w.heap.size 9 1 V' s.K.length ((txtsOf s.K).map (.string ·)) ∧ Below w.heap.size w w' := by
 have hC := cloneS_any h.txt hl (by
  intro u hu
  obtain ⟨x, -, rfl⟩ := List.mem_map.1 hu
  rfl)
 have x1 := h.blk.c7.1.2.1
 clear h hl
 go_enter Tryz.func25, Tryz.ntmps25
 go_wp2_with fail
 refine hC.mono ?_
 rintro e w' ⟨V', rfl, ho, hb⟩
 go_wp2_with fail
 go_ret
 exact ⟨V', rfl, ho, hb⟩
theorem below_set7 {B g : Nat} {a : World} (h : Below B a w) (hg : B ≤ g) (u0 u1 u2 u3 u4 u5 u6 : Value) :
  Below B a (((((((w.setCell ⟨g, 0, none⟩ u0).setCell ⟨g, 1, none⟩ u1).setCell ⟨g, 2, none⟩ u2).setCell ⟨g, 3, none⟩ u3).setCell ⟨g, 4, none⟩ u4).setCell ⟨g, 5, none⟩ u5).setCell ⟨g, 6, none⟩ u6) :=
 ((((((h.setCell (p := ⟨g, 0, none⟩) hg u0).setCell (p := ⟨g, 1, none⟩) hg u1).setCell (p := ⟨g, 2, none⟩) hg u2).setCell (p := ⟨g, 3, none⟩) hg u3).setCell (p := ⟨g, 4, none⟩) hg u4).setCell (p := ⟨g, 5, none⟩) hg u5).setCell (p := ⟨g, 6, none⟩) hg u6
def noDefer (o : Oper) : Bool := match o.op with
 | .defer _ => false
 | _ => true
theorem noDefer_ne (h : noDefer o = true) : ∀ c, o.op ≠ .defer c := fun c e => by
 rw [noDefer, e] at h; cases h
section
variable {l n : Nat} {P : Program} {ops : Array Oper} {Q : Exit → Act → World → Prop} {a : Act} {w : World}
theorem round_op {K : Act → World → Prop} (_hQ : ¬ LetsOut Q) (hd : noDefer o = true) (h : o.wp P a w K Q) : o.wpIn (Fence.wide.inRound l) n P a w K Q := by
 refine ⟨fun _ _ => trivial, ?_⟩
 rw [show o.semAt (Fence.wide.inRound l).round a.eval = execOp a.eval o from Oper.semAt_eq _ _ _ (noDefer_ne hd)]
 unfold Oper.wp at h
 generalize (execOp a.eval o).run P w = r at h ⊢
 cases r with
 | ok x w' =>
  cases x with
  | value v => exact h
  | skip => exact h
  | defer d => exact h
  | enter f args => exact ⟨fun h => (by cases h), CallsIn.inRound l (callsIn_wide.2 h)⟩
  | row row args => exact ⟨fun h => (by cases h), fun c cs _ => let ⟨v, w', r, s⟩ := h c cs; ⟨v, w', r, stepsIn_wide.2 s⟩⟩
  | _ => exact (h : False).elim
 | halt x w' => cases x <;> exact h
theorem round_any (hQ : ¬ LetsOut Q) (hd : ∀ (i : Nat) (o : Oper), ops[i]? = some o → noDefer o = true) : ∀ (fuel : Nat) (listed : Array Bool) (a : Act) (w : World), wpAny P .any ops Q fuel listed a w → wpAnyIn (Fence.wide.inRound l) n P .any ops Q fuel listed a w
 | 0, _, _, _, h => h
 | fuel + 1, listed, a, w, h => ⟨h.1, fun i hi => by
  have hi := h.2 i hi
  unfold wpOp at hi
  unfold wpOpIn
  cases ho : ops[i]? with
  | none => rw [ho] at hi; exact round_any hQ hd fuel _ _ _ hi
  | some o =>
   rw [ho] at hi
   dsimp only at hi ⊢
   split
   ·rename_i hw
    rw [if_pos hw] at hi
    rcases hi with hi | hi
    ·exact Oper.wpIn_mono (fun a w => round_any hQ hd fuel _ a w) (round_op hQ (hd i o ho) hi)
    ·exact absurd hi.2 hQ
   ·rename_i hw
    rw [if_neg hw] at hi
    exact ⟨fun _ _ => trivial, round_any hQ hd fuel _ _ _ hi⟩⟩
theorem round_held {id : Nat} {S : World → Prop} (hm : P.follows .mixedOrders = true) (hQ : ¬ LetsOut Q) (hd : ops.toList.all noDefer = true) (hS : S w.drew)
  (h : S w.drew → wpAnyH P .any ops Q S ops.size (Array.replicate ops.size false) a w.drew) : (Code.region id ops true).wpIn (Fence.wide.inRound l) n P Q a w :=
 wpIn_region_any hm (round_any hQ (fun i o ho => by
  have := List.all_eq_true.1 hd o
  exact this (by rw [Array.mem_toList_iff]; exact Array.mem_of_getElem? ho)) _ _ _ _ (wpAny_of_held _ _ _ _ (h hS)))
end
end Go.Proofs.YtmebjdbkngehiaaGreatDoor
