/-
  Package disk: Write. Conditions: errors.errorType holds the handle of the type error ('SInv').
-/
import Derived.Test.YtmebjdbkngehiaaGreatDoorQgM
import Derived.Deep.Upon
namespace Go.Proofs.YtmebjdbkngehiaaGreatDoor
open Go.RowKit Go.Shelf
set_option maxHeartbeats 4000000
variable {g p k : Nat} {a b w : World} {d : DN} {s : ByteArray} {l : List UInt8}
theorem Blk.setCells {t : TypeId} : ∀ (vs : List Value) (o : Nat) (cs : List Value) (w : World), Blk w g t cs.toArray → o + vs.length ≤ cs.length → Blk (w.setCells g o vs) g t (cs.take o ++ vs ++ cs.drop (o + vs.length)).toArray
 | [], o, cs, w, h, _ => by
  rw [List.append_nil, List.length_nil, Nat.add_zero, List.take_append_drop]
  exact h
 | v :: r, o, cs, w, h, hl => by
  rw [List.length_cons] at hl
  have h1 := h.set_ o v
  rw [List.setIfInBounds_toArray] at h1
  have h2 := Blk.setCells r (o + 1) (cs.set o v) _ h1 (by rw [List.length_set]; omega)
  have e : (cs.set o v).take (o + 1) ++ r ++ (cs.set o v).drop (o + 1 + r.length) = cs.take o ++ v :: r ++ cs.drop (o + (r.length + 1)) := by
   have := list_seg_step cs o v r (by omega)
   simpa [Nat.add_assoc, Nat.add_comm 1] using this
  rw [e] at h2
  exact h2
theorem flat_write {L : List (List UInt8)} (h : ∀ s ∈ L, s.length = 64) {k : Nat} {l : List UInt8} (hl : L[k]? = some l) (x : List UInt8) (hx : x.length ≤ 64) :
  L.flatten.take (k * 64) ++ x ++ L.flatten.drop (k * 64 + x.length) = (L.set k (x ++ l.drop x.length)).flatten := by
 obtain ⟨hk, e⟩ := List.getElem?_eq_some_iff.1 hl
 have h64 := h _ (List.mem_of_getElem? hl)
 have h1 := flat_sector h k hk
 rw [e] at h1
 rw [flat_set h k _ hk (by rw [List.length_append, List.length_drop]; omega), Nat.mul_comm 64 k]
 have h2 : L.flatten.drop (k * 64 + x.length) = l.drop x.length ++ L.flatten.drop (k * 64 + 64) := by
  have h3 : L.flatten.drop (k * 64) = l ++ L.flatten.drop (k * 64 + 64) := by
   rw [Nat.mul_comm 64 k] at h1
   rw [← List.take_append_drop 64 (L.flatten.drop (k * 64)), h1, List.drop_drop]
  rw [← List.drop_drop, h3, List.drop_append, show x.length - l.length = 0 by omega, List.drop_zero]
 rw [h2]
 simp
theorem list_len (s : ByteArray) : s.data.toList.length = s.size := by rw [Array.length_toList]; rfl
theorem But2.drew2 (h : But2 p g a b) : But2 p g a b.drew := ⟨h.os, h.tape, h.output, h.size, h.block⟩
theorem But2.setCells (h : But2 p g a b) (vs : List Value) (o : Nat) : But2 p g a (b.setCells g o vs) := by
 induction vs generalizing o b with
 | nil => exact h
 | cons v r ih =>
  refine ih (b := b.setCell ⟨g, o, none⟩ v) ?_ (o + 1)
  exact ⟨h.os, h.tape, h.output, by rw [World.size_setCell]; exact h.size, fun k hk h1 h2 => by
   rw [show (b.setCell ⟨g, o, none⟩ v).heap[k]? = b.heap[k]? by simp [World.setCell, Array.getElem?_modify, Ne.symm h2]]
   exact h.block k hk h1 h2⟩
theorem sizeB (w : World) : (Go.sizeOf 5).run Tryz.prog w = .ok 1 w := by kernel_rfl
theorem copy_run {W : World} {n : Nat} {cs : List Value} (h : Blk W g 102 cs.toArray) (hlen : cs.length = 64 * n) (hk : k < n) (T : ByteArray) (hT : T.size ≤ 64) :
  (Builtin.copy_ #[36, 9] 3 #[.slice (some ⟨g, k * 64, none⟩) 64 64, .string T]).run Tryz.prog W.drew = .ok (goInt T.size) (W.drew.setCells g (k * 64) (T.data.toList.map fun x => Value.int .u8 (x.toNat : Int))) :=
 run_copy_string (P := Tryz.prog) W.drew 36 9 3 5 g (k * 64) 64 64 T Tryz.underlying36 sizeB hT
  (fun j hj => by
   have := h.cell (k * 64 + j)
   rw [show (W.drew).cell? ⟨g, k * 64 + j, none⟩ = W.cell? ⟨g, k * 64 + j, none⟩ from rfl, this, List.getElem?_toArray, List.getElem?_eq_getElem (by omega)]
   rfl)
  (fun j _ => h.frozen _)
set_option maxRecDepth 100000 in
theorem Write_wr {i : Int} {x : Int} (h : DAt w p g d) (hI : SInv w) (hx : firstE [(!d.down, 180), (d.has i && decide (s.size = 64), 181)] = WrV x) :
  Calls Tryz.prog 17 #[.pointer (some ⟨p, 0, none⟩), .int .i64 i, .string s] w (Ret (.int .i64 x) w) := by
 have hn1 := ext_alloc (ext_alloc (ext_new w (.cells #[.pointer (some ⟨p, 0, none⟩)] 29)) (.cells #[.int .i64 i] 3)) (.cells #[.string s] 9)
 have k2 : Blk ((((w.alloc (.cells #[.pointer (some ⟨p, 0, none⟩)] 29)).alloc (.cells #[.int .i64 i] 3)).alloc (.cells #[.string s] 9)).drew) w.heap.size 29 #[.pointer (some ⟨p, 0, none⟩)] := ((Blk.new_ w _ _).alloc _).alloc _
 have k3 : Blk ((((w.alloc (.cells #[.pointer (some ⟨p, 0, none⟩)] 29)).alloc (.cells #[.int .i64 i] 3)).alloc (.cells #[.string s] 9)).drew) (w.heap.size + 1) 3 #[.int .i64 i] := (Blk.at_ (w := w.alloc (.cells #[.pointer (some ⟨p, 0, none⟩)] 29)) (by simp)).alloc _
 have kS : Blk ((((w.alloc (.cells #[.pointer (some ⟨p, 0, none⟩)] 29)).alloc (.cells #[.int .i64 i] 3)).alloc (.cells #[.string s] 9)).drew) (w.heap.size + 1 + 1) 9 #[.string s] := Blk.at_ (w := ((w.alloc (.cells #[.pointer (some ⟨p, 0, none⟩)] 29)).alloc (.cells #[.int .i64 i] 3))) (by simp)
 have hD0 := h.below hn1.drew
 have hb0 : Below w.heap.size w ((((w.alloc (.cells #[.pointer (some ⟨p, 0, none⟩)] 29)).alloc (.cells #[.int .i64 i] 3)).alloc (.cells #[.string s] 9)).drew) := hn1.drew
 go_enter Tryz.func17, Tryz.ntmps17
 go_wp2_with fail
 obtain ⟨x2, -⟩ := k2.c1
 go_region_held3 (fun W : World => W.cell? ⟨w.heap.size, 0, none⟩ = some (.pointer (some ⟨p, 0, none⟩))) (first | exact x2 | exact (k2.below hb1).c1.1 | exact (k2.below (ext_trans hb1 hb2)).c1.1 | exact (k2.below (ext_alloc (ext_trans hb1 hb2) _)).c1.1 | exact (k2.below (ext_trans (ext_alloc (ext_trans hb1 hb2) _) hb3)).c1.1)
  (first
   | (go_at_call 45; refine (up_any hD0).mono ?_; rintro y v1 ⟨u1, rfl, hr1, hb1⟩; obtain ⟨a1, a2, a3, rfl, -⟩ := id hr1)
   | (go_at_call 46; refine (must_any _ (d.has i && decide (s.size = 64)) 181 _ (write1_holds (hD0.below hb1) (k2.below hb1).c1.1 (k3.below hb1).c1.1 (kS.below hb1).c1.1) ⟨_, _, rfl⟩).mono ?_; rintro y v2 ⟨u2, rfl, hr2, hb2⟩; obtain ⟨d1, d2, d3, rfl, -⟩ := id hr2)
   | (go_at_call 44; refine (check_any p _ [(!d.down, 180), (d.has i && decide (s.size = 64), 181)] _ (rules2 (by simp) (by simp) (hr1.below (ext_alloc hb2 _)) (hr2.below (ext_new _ _))) (by simp)).mono ?_; rw [hx]; unfold WrV; rintro y v3 ⟨rfl, hb3⟩))
 all_goals
  have hW := ext_trans hb0 (ext_trans (ext_alloc (ext_trans hb1 hb2) (.cells #[.func (.func 79) #[] #[.pointer (some ⟨a1, 0, none⟩), .pointer (some ⟨a2, 0, none⟩)], .func (.func 79) #[] #[.pointer (some ⟨d1, 0, none⟩), .pointer (some ⟨d2, 0, none⟩)]] 98)) hb3)
  have hT := toldi_wr 0 x _ (hI.below hW)
  unfold WrV at hT
  go_wp2_with fail
  refine hT.mono ?_
  rintro y v4 ⟨rfl, hb4⟩
  go_wp2_with fail
  go_ret
  exact ⟨rfl, ext_trans hW hb4⟩
theorem write_end {WF : World} {n1 N : Nat} {b : Bool} {E : Int} (h : DAt w p g d) (hl : d.L[k]? = some l) (_hs : s.size = 64) (hN : N ≤ 64) (hn : d.n < 1000000) (hn1 : d.n + 1 = n1)
  (he : d.write (k : Int) s.data.toList = ({ L := d.L.set k (s.data.toList.take N ++ l.drop (s.data.toList.take N).length), left := d.left - 1, cut := d.cut, down := b, n := d.n + 1 }, E))
  (ZP : Blk WF p 93 #[.slice (some ⟨g, 0, none⟩) d.L.length d.L.length, .int .i64 ((d.left - 1 : Nat) : Int), .int .i64 (d.cut : Int), .bool b, .int .i64 (n1 : Int)])
  (ZS : Blk WF g 102 ((cellsB d.L.flatten).take (k * 64) ++ (s.data.toList.map fun b => Value.int .u8 (b.toNat : Int)).take N ++ (cellsB d.L.flatten).drop (k * 64 + ((s.data.toList.map fun b => Value.int .u8 (b.toNat : Int)).take N).length)).toArray)
  (ZK : But2 p g w WF) : Turned (.int .i64 (d.write (k : Int) s.data.toList).2) p g (d.write (k : Int) s.data.toList).1 w (.returned (.int .i64 E)) WF := by
 have hfit := (DN.write_fit h.fit (k : Int) s.data.toList).1
 rw [he] at hfit ⊢
 have hx : ((s.data.toList.map fun b => Value.int .u8 (b.toNat : Int)).take N).length = (s.data.toList.take N).length := by rw [List.length_take, List.length_take, List.length_map]
 have hxl : (s.data.toList.take N).length ≤ 64 := by rw [List.length_take]; omega
 have hc : (cellsB d.L.flatten).take (k * 64) ++ (s.data.toList.map fun b => Value.int .u8 (b.toNat : Int)).take N ++ (cellsB d.L.flatten).drop (k * 64 + ((s.data.toList.map fun b => Value.int .u8 (b.toNat : Int)).take N).length) = cellsB (d.L.set k (s.data.toList.take N ++ l.drop (s.data.toList.take N).length)).flatten := by
  rw [hx, ← flat_write h.fit.sec hl _ hxl]
  simp only [cellsB, List.map_append, List.map_take, List.map_drop]
  rfl
 rw [hc] at ZS
 refine ⟨rfl, ⟨?_, ZS, h.ne, hfit, by show (d.L.set _ _).length ≤ _; rw [List.length_set]; exact h.len, by show d.left - 1 ≤ _; have := h.left; omega, by show d.n + 1 ≤ _; omega⟩, ZK⟩
 show Blk WF p _ #[.slice _ (d.L.set _ _).length (d.L.set _ _).length, _, _, _, .int .i64 ((d.n + 1 : Nat) : Int)]
 rw [List.length_set, hn1]
 exact ZP
theorem write_he1 {s : List UInt8} (hd : d.down = false) (hl1 : d.left = 1) (hl : d.L[k]? = some l) (hs : s.length = 64) (hc : d.cut ≤ 64) :
  d.write (k : Int) s = ({ L := d.L.set k (s.take d.cut ++ l.drop (s.take d.cut).length), left := d.left - 1, cut := d.cut, down := true, n := d.n + 1 }, 180) := by
 obtain ⟨hk, e⟩ := List.getElem?_eq_some_iff.1 hl
 have hx : (s.take d.cut).length = d.cut := by rw [List.length_take]; omega
 rw [DN.write_last hd hl1 hk hs, hx, e, hl1]
theorem write_he2 {s : List UInt8} (hf : d.Fit) (hd : d.down = false) (hl1 : d.left ≠ 1) (hl : d.L[k]? = some l) (hs : s.length = 64) :
  d.write (k : Int) s = ({ L := d.L.set k (s.take 64 ++ l.drop (s.take 64).length), left := d.left - 1, cut := d.cut, down := false, n := d.n + 1 }, 0) := by
 obtain ⟨hk, e⟩ := List.getElem?_eq_some_iff.1 hl
 have h64 := hf.sec _ (List.mem_of_getElem? hl)
 rw [DN.write_ok hf hd hl1 hk hs, List.take_of_length_le (by omega), List.drop_of_length_le (by omega), List.append_nil]
set_option maxRecDepth 100000 in
theorem Write_ok (h : DAt w p g d) (hd : d.down = false) (hl : d.L[k]? = some l) (hs : s.size = 64) (hn : d.n < 1000000) :
  Calls Tryz.prog 17 #[.pointer (some ⟨p, 0, none⟩), .int .i64 (k : Int), .string s] w (Turned (.int .i64 (d.write (k : Int) s.data.toList).2) p g (d.write (k : Int) s.data.toList).1 w) := by
 obtain ⟨hk, -⟩ := List.getElem?_eq_some_iff.1 hl
 have hx : firstE [(!d.down, 180), (d.has (k : Int) && decide (s.size = 64), 181)] = .nilIface := by rw [hd, DN.has_iff.2 ⟨k, rfl, hk⟩, hs]; rfl
 have hn1 := ext_alloc (ext_alloc (ext_new w (.cells #[.pointer (some ⟨p, 0, none⟩)] 29)) (.cells #[.int .i64 (k : Int)] 3)) (.cells #[.string s] 9)
 have k2 : Blk ((((w.alloc (.cells #[.pointer (some ⟨p, 0, none⟩)] 29)).alloc (.cells #[.int .i64 (k : Int)] 3)).alloc (.cells #[.string s] 9)).drew) w.heap.size 29 #[.pointer (some ⟨p, 0, none⟩)] := ((Blk.new_ w _ _).alloc _).alloc _
 have k3 : Blk ((((w.alloc (.cells #[.pointer (some ⟨p, 0, none⟩)] 29)).alloc (.cells #[.int .i64 (k : Int)] 3)).alloc (.cells #[.string s] 9)).drew) (w.heap.size + 1) 3 #[.int .i64 (k : Int)] := (Blk.at_ (w := w.alloc (.cells #[.pointer (some ⟨p, 0, none⟩)] 29)) (by simp)).alloc _
 have kS : Blk ((((w.alloc (.cells #[.pointer (some ⟨p, 0, none⟩)] 29)).alloc (.cells #[.int .i64 (k : Int)] 3)).alloc (.cells #[.string s] 9)).drew) (w.heap.size + 1 + 1) 9 #[.string s] := Blk.at_ (w := ((w.alloc (.cells #[.pointer (some ⟨p, 0, none⟩)] 29)).alloc (.cells #[.int .i64 (k : Int)] 3))) (by simp)
 have hD0 := h.below hn1.drew
 have hb0 : Below w.heap.size w ((((w.alloc (.cells #[.pointer (some ⟨p, 0, none⟩)] 29)).alloc (.cells #[.int .i64 (k : Int)] 3)).alloc (.cells #[.string s] 9)).drew) := hn1.drew
 go_enter Tryz.func17, Tryz.ntmps17
 go_wp2_with fail
 obtain ⟨x2, -⟩ := k2.c1
 go_region_held3 (fun W : World => W.cell? ⟨w.heap.size, 0, none⟩ = some (.pointer (some ⟨p, 0, none⟩))) (first | exact x2 | exact (k2.below hb1).c1.1 | exact (k2.below (ext_trans hb1 hb2)).c1.1 | exact (k2.below (ext_alloc (ext_trans hb1 hb2) _)).c1.1 | exact (k2.below (ext_trans (ext_alloc (ext_trans hb1 hb2) _) hb3)).c1.1)
  (first
   | (go_at_call 45; refine (up_any hD0).mono ?_; rintro y v1 ⟨u1, rfl, hr1, hb1⟩; obtain ⟨a1, a2, a3, rfl, -⟩ := id hr1)
   | (go_at_call 46; refine (must_any _ (d.has (k : Int) && decide (s.size = 64)) 181 _ (write1_holds (hD0.below hb1) (k2.below hb1).c1.1 (k3.below hb1).c1.1 (kS.below hb1).c1.1) ⟨_, _, rfl⟩).mono ?_; rintro y v2 ⟨u2, rfl, hr2, hb2⟩; obtain ⟨d1, d2, d3, rfl, -⟩ := id hr2)
   | (go_at_call 44; refine (check_any p _ [(!d.down, 180), (d.has (k : Int) && decide (s.size = 64), 181)] _ (rules2 (by simp) (by simp) (hr1.below (ext_alloc hb2 _)) (hr2.below (ext_new _ _))) (by simp)).mono ?_; rw [hx]; rintro y v3 ⟨rfl, hb3⟩))
 all_goals
  have hW := ext_trans hb0 (ext_trans (ext_alloc (ext_trans hb1 hb2) (.cells #[.func (.func 79) #[] #[.pointer (some ⟨a1, 0, none⟩), .pointer (some ⟨a2, 0, none⟩)], .func (.func 79) #[] #[.pointer (some ⟨d1, 0, none⟩), .pointer (some ⟨d2, 0, none⟩)]] 98)) hb3)
  have hbx := ext_trans (ext_alloc (ext_trans hb1 hb2) (.cells #[.func (.func 79) #[] #[.pointer (some ⟨a1, 0, none⟩), .pointer (some ⟨a2, 0, none⟩)], .func (.func 79) #[] #[.pointer (some ⟨d1, 0, none⟩), .pointer (some ⟨d2, 0, none⟩)]] 98)) hb3
  have k4 := k2.below hbx
  have k5 := k3.below hbx
  have k6 := kS.below hbx
  have hD3 := h.below hW
  have hpl := h.disk.lt
  have hgl := h.secs.lt
  clear hx hr1 hr2 hb1 hb2 hb3 hbx k2 k3 kS hD0 hb0 hn1 x2
  obtain ⟨n1, hn1⟩ : ∃ n1, d.n + 1 = n1 := ⟨_, rfl⟩
  have hwn : wrap64 ((d.n : Int) + 1) = (n1 : Int) := by rw [IntWalk.wrap64_in _ ⟨by omega, by omega⟩]; omega
  have HN1 := Lib.hid hn1
  have HNN := Lib.hid hn
  clear hn1 hn
  obtain ⟨x2, -⟩ := k4.c1
  obtain ⟨c0, c1, c2, c3, c4, g0, g1, g2, g3, g4⟩ := hD3.disk.c5
  go_wp2_with fail
  have hB5 := hD3.disk.set_ 4 (.int .i64 (n1 : Int))
  simp only [List.setIfInBounds_toArray, List.set_cons_succ, List.set_cons_zero] at hB5
  refine (goes_any d.left d.down hB5 h.left).mono ?_
  rintro y v4 ⟨rfl, q4, kb4⟩
  have hne0 : w.heap.size ≠ p := by omega
  have hne1 : w.heap.size + 1 ≠ p := by omega
  have hne2 : w.heap.size + 1 + 1 ≠ p := by omega
  have r2 : Blk v4 w.heap.size 29 #[.pointer (some ⟨p, 0, none⟩)] := (k4.set_other hne0 4 _).kept (kb4.block _ (by rw [World.size_setCell]; exact k4.lt) hne0 hne0)
  have r3 : Blk v4 (w.heap.size + 1) 3 #[.int .i64 (k : Int)] := (k5.set_other hne1 4 _).kept (kb4.block _ (by rw [World.size_setCell]; exact k5.lt) hne1 hne1)
  have r4 : Blk v4 (w.heap.size + 1 + 1) 9 #[.string s] := (k6.set_other hne2 4 _).kept (kb4.block _ (by rw [World.size_setCell]; exact k6.lt) hne2 hne2)
  have r5 : Blk v4 g 102 (cellsB d.L.flatten).toArray := (hD3.secs.set_other hD3.ne.symm 4 _).kept (kb4.block _ (by rw [World.size_setCell]; exact hD3.secs.lt) hD3.ne.symm hD3.ne.symm)
  have kb : But2 p g w v4 := by
   have h1 : But2 p p w (v3.setCell ⟨p, 4, none⟩ (.int .i64 (n1 : Int))) := (But2.of_below hW).set1 4 _
   have h2 := h1.trans kb4
   exact ⟨h2.os, h2.tape, h2.output, h2.size, fun q hq e1 _ => h2.block q hq e1 e1⟩
  have hlen : (cellsB d.L.flatten).length = 64 * d.L.length := by rw [cellsB_length, flat_length h.fit.sec]
  have hgb0 : w.heap.size ≠ g := by omega
  have hgb1 : w.heap.size + 1 ≠ g := by omega
  have hgb2 : w.heap.size + 1 + 1 ≠ g := by omega
  have four : ∀ vs, (v4.drew.setCells g (k * 64) vs).cell? ⟨w.heap.size, 0, none⟩ = some (.pointer (some ⟨p, 0, none⟩)) ∧ (v4.drew.setCells g (k * 64) vs).cell? ⟨w.heap.size + 1, 0, none⟩ = some (.int .i64 (k : Int)) ∧ (v4.drew.setCells g (k * 64) vs).cell? ⟨w.heap.size + 1 + 1, 0, none⟩ = some (.string s) ∧ (v4.drew.setCells g (k * 64) vs).cell? ⟨p, 0, none⟩ = some (.slice (some ⟨g, 0, none⟩) d.L.length d.L.length) := fun vs =>
   ⟨(Blk.kept (w := v4) r2 (World.heap_setCells_other v4.drew g (k * 64) vs (by exact r2.lt) hgb0)).c1.1, (Blk.kept (w := v4) r3 (World.heap_setCells_other v4.drew g (k * 64) vs (by exact r3.lt) hgb1)).c1.1, (Blk.kept (w := v4) r4 (World.heap_setCells_other v4.drew g (k * 64) vs (by exact r4.lt) hgb2)).c1.1, (Blk.kept (w := v4) q4 (World.heap_setCells_other v4.drew g (k * 64) vs (by exact q4.lt) h.ne)).c5.1⟩
  have pB : ∀ vs, Blk (v4.drew.setCells g (k * 64) vs) p 93 #[.slice (some ⟨g, 0, none⟩) d.L.length d.L.length, .int .i64 ((d.left - 1 : Nat) : Int), .int .i64 (d.cut : Int), .bool (decide (d.left = 1)), .int .i64 (n1 : Int)] := fun vs => Blk.kept (w := v4) q4 (World.heap_setCells_other v4.drew g (k * 64) vs (by exact q4.lt) h.ne)
  have hcut := h.fit.cut
  have HH := Lib.hid h
  have HD3 := Lib.hid hD3
  clear k4 k5 k6 x2 c0 c1 c2 c3 c4 g0 g1 g2 g3 g4 hB5 hwn kb4
  obtain ⟨x2, -⟩ := r2.c1
  obtain ⟨x3, -⟩ := r3.c1
  obtain ⟨x5, -⟩ := r4.c1
  obtain ⟨c0, c1, c2, c3, c4, -⟩ := q4.c5
  have i1 : (0 : Int) ≤ (k : Int) := by omega
  have i2 : (k : Int) < (d.L.length : Int) := by omega
  by_cases hl1 : d.left = 1
  ·have hdec : decide (d.left = 1) = true := by simp [hl1]
   rw [hdec] at c3 pB ⊢
   have HF := Lib.hid four
   have HP := Lib.hid pB
   have HKB := Lib.hid kb
   clear four pB kb hD3 hW h r2 r3 r4
   obtain ⟨T, hT⟩ : ∃ T, s.extract 0 d.cut = T := ⟨_, rfl⟩
   have hTs : T.size = d.cut := by rw [← hT, ByteArray.size_extract]; omega
   have hcp := copy_run (k := k) r5 hlen hk T (by omega)
   have H5 := Lib.hid r5
   have HLN := Lib.hid hlen
   clear r5 hlen
   rw [← hT] at hcp
   have hi3 : (d.cut : Int) ≤ (s.size : Int) := by omega
   have hi4 : (0 : Int) ≤ (d.cut : Int) := by omega
   have HT := Lib.hid hT
   have HTS := Lib.hid hTs
   have HS64 := Lib.hid hs
   clear hT hTs hs
   go_wp2_with fail
   refine wp_region_held_drew (S := (fun W => W.cell? ⟨w.heap.size, 0, none⟩ = some (.pointer (some ⟨p, 0, none⟩)) ∧ W.cell? ⟨w.heap.size + 1, 0, none⟩ = some (.int .i64 (k : Int)) ∧ W.cell? ⟨w.heap.size + 1 + 1, 0, none⟩ = some (.string s) ∧ W.cell? ⟨p, 0, none⟩ = some (.slice (some ⟨g, 0, none⟩) d.L.length d.L.length))) (by kernel_rfl) ⟨x2, x3, x5, c0⟩ (fun hHeld => ?_)
   refine wt_ 0 rfl ?_ (fun wx hSx => by obtain ⟨hS1, hS2, hS3, hS4⟩ := hSx; go_simp; try with_reducible rfl)
   refine wt_ 1 rfl ?_ (fun wx hSx => by obtain ⟨hS1, hS2, hS3, hS4⟩ := hSx; go_simp; try with_reducible rfl)
   refine wt_ 2 rfl ?_ (fun wx hSx => by obtain ⟨hS1, hS2, hS3, hS4⟩ := hSx; go_simp; try with_reducible rfl)
   refine wt_ 3 rfl ?_ (fun wx hSx => by obtain ⟨hS1, hS2, hS3, hS4⟩ := hSx; go_simp; try with_reducible rfl)
   refine wt_ 4 rfl ?_ (fun wx hSx => by obtain ⟨hS1, hS2, hS3, hS4⟩ := hSx; go_simp; try with_reducible rfl)
   refine wt_ 5 rfl ?_ (fun wx hSx => by obtain ⟨hS1, hS2, hS3, hS4⟩ := hSx; go_simp; try with_reducible rfl)
   refine wt_ 6 rfl ?_ (fun wx hSx => by obtain ⟨hS1, hS2, hS3, hS4⟩ := hSx; go_simp; try with_reducible rfl)
   refine wt_ 7 rfl ?_ (fun wx hSx => by obtain ⟨hS1, hS2, hS3, hS4⟩ := hSx; go_simp; try with_reducible rfl)
   refine wt_ 8 rfl ?_ (fun wx hSx => by obtain ⟨hS1, hS2, hS3, hS4⟩ := hSx; go_simp; try with_reducible rfl)
   refine wt_ 9 rfl ?_ (fun wx hSx => by obtain ⟨hS1, hS2, hS3, hS4⟩ := hSx; go_simp; try with_reducible rfl)
   refine wt_ 10 rfl ?_ (fun wx hSx => by obtain ⟨hS1, hS2, hS3, hS4⟩ := hSx; go_simp; try with_reducible rfl)
   try simp only [Act.put, List.setIfInBounds_toArray]
   refine wpAnyH_ready (rs := [11]) (by kernel_rfl) (by simp) ?_
   refine AllReadyH.cons rfl (fun K hK => ?_) AllReadyH.nil
   go_simp
   refine hK.out _ _ (HF.out _) (fun hHeld => ?_)
   clear hK K
   try simp only [Act.put, List.setIfInBounds_toArray, List.set_cons_succ, List.set_cons_zero]
   refine wpAnyH_done (by kernel_rfl) ?_ _
   have zP := HP.out ((s.data.toList.map fun b => Value.int .u8 (b.toNat : Int)).take d.cut)
   have zS := Blk.setCells (w := v4.drew) ((s.data.toList.map fun b => Value.int .u8 (b.toNat : Int)).take d.cut) (k * 64) _ H5.out (by rw [List.length_take, List.length_map, list_len, HS64.out, HLN.out]; omega)
   have zK := (HKB.out.drew2).setCells ((s.data.toList.map fun b => Value.int .u8 (b.toNat : Int)).take d.cut) (k * 64)
   generalize v4.drew.setCells g (k * 64) ((s.data.toList.map fun b => Value.int .u8 (b.toNat : Int)).take d.cut) = WF at *
   obtain ⟨x2, -⟩ := hHeld
   obtain ⟨z0, z1, z2, z3, z4, -⟩ := zP.c5
   have ZP := Lib.hid zP
   have ZS := Lib.hid zS
   have ZK := Lib.hid zK
   clear hcp zP zS zK x3 x5 c0 c1 c2 c3 c4
   go_wp2_with fail
   go_ret
   exact write_end HH.out hl HS64.out hcut HNN.out HN1.out (write_he1 hd hl1 hl (by rw [list_len]; exact HS64.out) hcut) ZP.out ZS.out ZK.out
  ·have hdec : decide (d.left = 1) = false := by simp [hl1]
   rw [hdec] at c3 pB ⊢
   have HF := Lib.hid four
   have HP := Lib.hid pB
   have HKB := Lib.hid kb
   clear four pB kb hD3 hW h r2 r3 r4
   obtain ⟨T, hT⟩ : ∃ T, s.extract 0 64 = T := ⟨_, rfl⟩
   have hTs : T.size = 64 := by rw [← hT, ByteArray.size_extract]; omega
   have hcp := copy_run (k := k) r5 hlen hk T (by omega)
   have H5 := Lib.hid r5
   have HLN := Lib.hid hlen
   clear r5 hlen
   rw [← hT] at hcp
   have hi3 : (64 : Int) ≤ (s.size : Int) := by omega
   have hi4 : (0 : Int) ≤ (64 : Int) := by omega
   have HT := Lib.hid hT
   have HTS := Lib.hid hTs
   have HS64 := Lib.hid hs
   clear hT hTs hs
   go_wp2_with fail
   refine wp_region_held_drew (S := (fun W => W.cell? ⟨w.heap.size, 0, none⟩ = some (.pointer (some ⟨p, 0, none⟩)) ∧ W.cell? ⟨w.heap.size + 1, 0, none⟩ = some (.int .i64 (k : Int)) ∧ W.cell? ⟨w.heap.size + 1 + 1, 0, none⟩ = some (.string s) ∧ W.cell? ⟨p, 0, none⟩ = some (.slice (some ⟨g, 0, none⟩) d.L.length d.L.length))) (by kernel_rfl) ⟨x2, x3, x5, c0⟩ (fun hHeld => ?_)
   refine wt_ 0 rfl ?_ (fun wx hSx => by obtain ⟨hS1, hS2, hS3, hS4⟩ := hSx; go_simp; try with_reducible rfl)
   refine wt_ 1 rfl ?_ (fun wx hSx => by obtain ⟨hS1, hS2, hS3, hS4⟩ := hSx; go_simp; try with_reducible rfl)
   refine wt_ 2 rfl ?_ (fun wx hSx => by obtain ⟨hS1, hS2, hS3, hS4⟩ := hSx; go_simp; try with_reducible rfl)
   refine wt_ 3 rfl ?_ (fun wx hSx => by obtain ⟨hS1, hS2, hS3, hS4⟩ := hSx; go_simp; try with_reducible rfl)
   refine wt_ 4 rfl ?_ (fun wx hSx => by obtain ⟨hS1, hS2, hS3, hS4⟩ := hSx; go_simp; try with_reducible rfl)
   refine wt_ 5 rfl ?_ (fun wx hSx => by obtain ⟨hS1, hS2, hS3, hS4⟩ := hSx; go_simp; try with_reducible rfl)
   refine wt_ 6 rfl ?_ (fun wx hSx => by obtain ⟨hS1, hS2, hS3, hS4⟩ := hSx; go_simp; try with_reducible rfl)
   refine wt_ 7 rfl ?_ (fun wx hSx => by obtain ⟨hS1, hS2, hS3, hS4⟩ := hSx; go_simp; try with_reducible rfl)
   refine wt_ 8 rfl ?_ (fun wx hSx => by obtain ⟨hS1, hS2, hS3, hS4⟩ := hSx; go_simp; try with_reducible rfl)
   refine wt_ 9 rfl ?_ (fun wx hSx => by obtain ⟨hS1, hS2, hS3, hS4⟩ := hSx; go_simp; try with_reducible rfl)
   refine wt_ 10 rfl ?_ (fun wx hSx => by obtain ⟨hS1, hS2, hS3, hS4⟩ := hSx; go_simp; try with_reducible rfl)
   try simp only [Act.put, List.setIfInBounds_toArray]
   refine wpAnyH_ready (rs := [11]) (by kernel_rfl) (by simp) ?_
   refine AllReadyH.cons rfl (fun K hK => ?_) AllReadyH.nil
   go_simp
   refine hK.out _ _ (HF.out _) (fun hHeld => ?_)
   clear hK K
   try simp only [Act.put, List.setIfInBounds_toArray, List.set_cons_succ, List.set_cons_zero]
   refine wpAnyH_done (by kernel_rfl) ?_ _
   have zP := HP.out ((s.data.toList.map fun b => Value.int .u8 (b.toNat : Int)).take 64)
   have zS := Blk.setCells (w := v4.drew) ((s.data.toList.map fun b => Value.int .u8 (b.toNat : Int)).take 64) (k * 64) _ H5.out (by rw [List.length_take, List.length_map, list_len, HS64.out, HLN.out]; omega)
   have zK := (HKB.out.drew2).setCells ((s.data.toList.map fun b => Value.int .u8 (b.toNat : Int)).take 64) (k * 64)
   generalize v4.drew.setCells g (k * 64) ((s.data.toList.map fun b => Value.int .u8 (b.toNat : Int)).take 64) = WF at *
   obtain ⟨x2, -⟩ := hHeld
   obtain ⟨z0, z1, z2, z3, z4, -⟩ := zP.c5
   have ZP := Lib.hid zP
   have ZS := Lib.hid zS
   have ZK := Lib.hid zK
   clear hcp zP zS zK x3 x5 c0 c1 c2 c3 c4
   go_wp2_with fail
   go_ret
   exact write_end HH.out hl HS64.out (Nat.le_refl _) HNN.out HN1.out (write_he2 HH.out.fit hd hl1 hl (by rw [list_len]; exact HS64.out)) ZP.out ZS.out ZK.out
theorem Write_any (i : Int) (s : ByteArray) (h : DAt w p g d) (hI : SInv w) (hn : d.n < 1000000) :
  Calls Tryz.prog 17 #[.pointer (some ⟨p, 0, none⟩), .int .i64 i, .string s] w (Turned (.int .i64 (d.write i s.data.toList).2) p g (d.write i s.data.toList).1 w) := by
 have wr : ∀ x, d.write i s.data.toList = (d, x) → firstE [(!d.down, 180), (d.has i && decide (s.size = 64), 181)] = WrV x → Calls Tryz.prog 17 #[.pointer (some ⟨p, 0, none⟩), .int .i64 i, .string s] w (Turned (.int .i64 (d.write i s.data.toList).2) p g (d.write i s.data.toList).1 w) := by
  intro x e hx
  rw [e]
  refine (Write_wr h hI hx).mono ?_
  rintro e w' ⟨rfl, hw⟩
  exact ⟨rfl, h.below hw, But2.of_below hw⟩
 cases hd : d.down with
 | true => exact wr 180 (DN.write_down hd) (by rw [hd]; rfl)
 | false =>
  by_cases hs : s.size = 64
  ·rcases has_cases d i with hi | ⟨k, rfl, hk⟩
   ·exact wr 181 (DN.write_no hd (fun e => by rw [hi] at e; exact absurd e.1 (by decide))) (by rw [hd, hi]; rfl)
   ·exact Write_ok h hd (List.getElem?_eq_getElem hk) hs hn
  ·exact wr 181 (DN.write_no hd (fun e => hs (by rw [← list_len]; exact e.2))) (by
    have : decide (s.size = 64) = false := by simp [hs]
    rw [hd, this, Bool.and_false]
    rfl)
end Go.Proofs.YtmebjdbkngehiaaGreatDoor
