/-
  The document's disk in memory (package postriderref18): Read, Bytes, Arm, Restart. No condition. The document's disk in memory (package postriderref18): Write, Bytes. No condition.
-/
import Derived.Test.YtmebjdbkngehiaaGreatDoorQgN
import Derived.Test.YtmebjdbkngehiaaGreatDoorQgC
import Derived.Test.YtmebjdbkngehiaaGreatDoorQgE
import Derived.StillTailTactics
namespace Go.Proofs.YtmebjdbkngehiaaGreatDoor
open Go.RowKit Go.Shelf
set_option maxHeartbeats 2000000
variable {w w' : World} {base n g c p k r : Nat} {t : TypeId} {xs : List Value} {d : DN} {i : Int} {s : ByteArray}
theorem own_set1 (h : w.ownsRow base t 1 (.slice (some ⟨g, 0, none⟩) n c) n xs) (i : Nat) (v : Value) :
  (w.setCell ⟨g, i, none⟩ v).ownsRow base t 1 (.slice (some ⟨g, 0, none⟩) n c) n (xs.set i v) := by
 obtain ⟨h0, ⟨h1, -⟩ | ⟨g', cap, cur, h1, hb, hg, hn, hm, hs, ht⟩⟩ := h
 ·cases h1
 ·injection h1 with e1 e2 e3
  injection e1 with e1
  injection e1 with e1
  subst e1 e3
  refine ⟨by rw [List.length_set]; exact h0, .inr ⟨_, _, cur.setIfInBounds i v, rfl, hb, Blk.set_ hg i v, hn, hm, by rw [Array.size_setIfInBounds]; exact hs, ?_⟩⟩
  rw [Array.toList_setIfInBounds, List.take_set, ht]
theorem own_frozen (h : w.ownsRow base t 1 (.slice (some ⟨g, 0, none⟩) n c) n xs) (i : Nat) : w.frozen? ⟨g, i, none⟩ = false := by
 obtain ⟨h0, ⟨h1, -⟩ | ⟨g', cap, cur, h1, hb, hg, -⟩⟩ := h
 ·cases h1
 ·injection h1 with e1 e2 e3
  injection e1 with e1
  injection e1 with e1
  subst e1
  exact Blk.frozen hg i
theorem own_keep1 (h : w.ownsRow base t 1 (.slice (some ⟨g, 0, none⟩) n c) n xs) (hk : w'.heap[g]? = w.heap[g]?) : w'.ownsRow base t 1 (.slice (some ⟨g, 0, none⟩) n c) n xs := by
 obtain ⟨h0, ⟨h1, -⟩ | ⟨g', cap, cur, h1, hb, hg, hr⟩⟩ := h
 ·cases h1
 ·injection h1 with e1 e2 e3
  injection e1 with e1
  injection e1 with e1
  subst e1 e3
  exact ⟨h0, .inr ⟨_, _, cur, rfl, hb, hk.trans hg, hr⟩⟩
def strV (l : List UInt8) : Value := .string ⟨l.toArray⟩
structure RAt (w : World) (p g c k : Nat) (d : DN) : Prop where
 disk : Blk w p 59 #[.slice (some ⟨g, 0, none⟩) d.L.length c, .int .i64 (d.left : Int), .int .i64 (k : Int), .bool d.down, .int .i64 (d.n : Int)]
 row : w.ownsRow 0 9 1 (.slice (some ⟨g, 0, none⟩) d.L.length c) d.L.length (d.L.map strV)
 ne : p ≠ g
 cut : 1 ≤ d.left → k = d.cut
 k64 : k ≤ 64
 fit : d.Fit
 len : d.L.length ≤ 256
 left : d.left ≤ 9223372036854775807
 n : d.n ≤ 1000000
theorem RAt.below (h : RAt w p g c k d) (hb : Below w.heap.size w w') : RAt w' p g c k d := ⟨h.disk.below hb, own_below h.row hb, h.ne, h.cut, h.k64, h.fit, h.len, h.left, h.n⟩
theorem RAt.keep (h : RAt w p g c k d) (h1 : w'.heap[p]? = w.heap[p]?) (h2 : w'.heap[g]? = w.heap[g]?) : RAt w' p g c k d := ⟨h.disk.kept h1, own_keep1 h.row h2, h.ne, h.cut, h.k64, h.fit, h.len, h.left, h.n⟩
theorem RAt.cell (h : RAt w p g c k d) {i : Nat} (hi : i < d.L.length) : w.cell? ⟨g, i, none⟩ = some (.string ⟨d.L[i].toArray⟩) := by
 have := h.row.cells rfl i (strV d.L[i]) (by rw [List.getElem?_map, List.getElem?_eq_getElem hi]; rfl)
 rwa [show (⟨g, 0, none⟩ : Addr).add i = ⟨g, i, none⟩ by unfold Addr.add; split <;> simp_all] at this
theorem RAt.glt (h : RAt w p g c k d) : g < w.heap.size := (h.row.lt g rfl).2
def RTurned (v : Value) (p g c : Nat) (d : DN) (w : World) (e : Ending) (w' : World) : Prop := e = .returned v ∧ (∃ k, RAt w' p g c k d) ∧ But2 p g w w'
theorem RRead_any (i : Int) (h : RAt w p g c k d) :
  Calls Tryz.prog 145 #[.pointer (some ⟨p, 0, none⟩), .int .i64 i] w (Pure (.tuple #[.string ⟨(d.read i).1.toArray⟩, .int .i64 (d.read i).2]) w) := by
 obtain ⟨c0, c1, c2, c3, c4, -⟩ := h.disk.c5
 rcases bool_cases d.down with hd | hd
 ·rw [hd] at c3
  rcases has_cases d i with hno | ⟨r, rfl, hr⟩
  ·rw [DN.read_no hd hno]
   have hno2 : i < 0 ∨ (d.L.length : Int) ≤ i := by
    by_cases q : 0 ≤ i ∧ i < (d.L.length : Int)
    ·exfalso
     have := (DN.has_iff (d := d) (i := i)).2 ⟨i.toNat, by omega, by omega⟩
     rw [hno] at this
     exact absurd this (by decide)
    ·omega
   clear h
   dsimp only
   generalize d.L.length = m at *
   by_cases i1 : i < 0
   ·go_enter Tryz.func145, Tryz.ntmps145
    go_wp2_with fail
    go_ret2
    exact ⟨rfl, rfl⟩
   ·have i2 : (m : Int) ≤ i := by omega
    go_enter Tryz.func145, Tryz.ntmps145
    go_wp2_with fail
    go_ret2
    exact ⟨rfl, rfl⟩
  ·rw [DN.read_ok hd hr]
   have hc := h.cell hr
   have i1 : (0 : Int) ≤ (r : Int) := by omega
   have i2 : (r : Int) < (d.L.length : Int) := by omega
   have i3 : ¬ (r : Int) < 0 := by omega
   dsimp only
   generalize (⟨d.L[r].toArray⟩ : ByteArray) = T at *
   clear h
   go_enter Tryz.func145, Tryz.ntmps145
   go_wp2_with fail
   go_ret2
   exact ⟨rfl, rfl⟩
 ·rw [DN.read_down hd]
  rw [hd] at c3
  go_enter Tryz.func145, Tryz.ntmps145
  go_wp2_with fail
  go_ret2
  exact ⟨rfl, rfl⟩
theorem RArm_any (m u : Int) (h : RAt w p g c k d) (hm : m ≤ 9223372036854775807) :
  Calls Tryz.prog 55 #[.pointer (some ⟨p, 0, none⟩), .int .i64 m, .int .i64 u] w (RTurned (.int .i64 (d.arm m u).2) p g c (d.arm m u).1 w) := by
 obtain ⟨c0, c1, c2, c3, c4, g0, g1, g2, g3, g4⟩ := h.disk.c5
 by_cases hh : 1 ≤ m ∧ 0 ≤ u ∧ u ≤ 64
 ·obtain ⟨N, rfl⟩ : ∃ N : Nat, m = (N : Int) := ⟨m.toNat, by omega⟩
  obtain ⟨U, rfl⟩ : ∃ U : Nat, u = (U : Int) := ⟨u.toNat, by omega⟩
  rw [DN.arm, if_pos hh, Int.toNat_natCast, Int.toNat_natCast]
  obtain ⟨i1, i2, i3⟩ := hh
  have i4 : ¬ (N : Int) < 1 := by omega
  have i5 : ¬ (64 : Int) < (U : Int) := by omega
  have i6 : ¬ (U : Int) < 0 := by omega
  go_enter Tryz.func55, Tryz.ntmps55
  go_wp2_with fail
  go_ret
  have q := (h.disk.set_ 1 (.int .i64 (N : Int))).set_ 2 (.int .i64 (U : Int))
  simp only [List.setIfInBounds_toArray, List.set_cons_succ, List.set_cons_zero] at q
  refine ⟨rfl, ⟨U, q, own_keep1 h.row ?_, h.ne, fun _ => rfl, by omega, ⟨h.fit.sec, by show U ≤ 64; omega⟩, h.len, by show N ≤ _; omega, h.n⟩, ?_⟩
  ·rw [Below.heap_setCell _ _ _ _ (Ne.symm h.ne), Below.heap_setCell _ _ _ _ (Ne.symm h.ne)]
  ·exact ((But2.refl p g w).set1 _ _).set1 _ _
 ·rw [DN.arm, if_neg hh]
  have hR : RAt w p g c k d := h
  clear h
  by_cases i1 : m < 1
  ·go_enter Tryz.func55, Tryz.ntmps55
   go_wp2_with fail
   go_ret
   exact ⟨rfl, ⟨k, hR⟩, But2.refl _ _ _⟩
  ·by_cases i2 : u < 0
   ·go_enter Tryz.func55, Tryz.ntmps55
    go_wp2_with fail
    go_ret
    exact ⟨rfl, ⟨k, hR⟩, But2.refl _ _ _⟩
   ·have i3 : 64 < u := by omega
    go_enter Tryz.func55, Tryz.ntmps55
    go_wp2_with fail
    go_ret
    exact ⟨rfl, ⟨k, hR⟩, But2.refl _ _ _⟩
theorem RRestart_any (h : RAt w p g c k d) :
  Calls Tryz.prog 41 #[.pointer (some ⟨p, 0, none⟩)] w (RTurned (.int .i64 0) p g c d.restart w) := by
 obtain ⟨c0, c1, c2, c3, c4, g0, g1, g2, g3, g4⟩ := h.disk.c5
 go_enter Tryz.func41, Tryz.ntmps41
 go_wp2_with fail
 go_ret
 have q := (h.disk.set_ 3 (.bool false)).set_ 1 (.int .i64 0)
 simp only [List.setIfInBounds_toArray, List.set_cons_succ, List.set_cons_zero] at q
 refine ⟨rfl, ⟨k, q, own_keep1 h.row ?_, h.ne, fun e => absurd e (by show ¬ 1 ≤ 0; decide), h.k64, (DN.restart_fit h.fit).1, h.len, Nat.zero_le _, h.n⟩, ?_⟩
 ·rw [Below.heap_setCell _ _ _ _ (Ne.symm h.ne), Below.heap_setCell _ _ _ _ (Ne.symm h.ne)]
 ·exact ((But2.refl p g w).set1 _ _).set1 _ _
theorem not_has (hno : d.has i = false) : i < 0 ∨ (d.L.length : Int) ≤ i := by
 by_cases q : 0 ≤ i ∧ i < (d.L.length : Int)
 ·exfalso
  have := (DN.has_iff (d := d) (i := i)).2 ⟨i.toNat, by omega, by omega⟩
  rw [hno] at this
  exact absurd this (by decide)
 ·omega
theorem cut_text {b : List UInt8} (_hs : s.size = 64) (hb : b.length = 64) (hk : k ≤ 64) : s.extract 0 k ++ (⟨b.toArray⟩ : ByteArray).extract k 64 = ⟨(s.data.toList.take k ++ b.drop k).toArray⟩ := by
 have e1 : s.data.extract 0 k = (s.data.toList.take k).toArray := by
  have : s.data = s.data.toList.toArray := by simp
  rw [this, List.extract_toArray, List.extract_eq_take_drop]
  simp
 have e2 : b.toArray.extract k 64 = (b.drop k).toArray := by
  rw [List.extract_toArray, List.extract_eq_take_drop, List.take_of_length_le (by rw [List.length_drop]; omega)]
 apply ByteArray.ext
 rw [ByteArray.data_append, ByteArray.data_extract, ByteArray.data_extract]
 show s.data.extract 0 k ++ b.toArray.extract k 64 = _
 rw [e1, e2, List.append_toArray]
theorem But2.setG {a b : World} (h : But2 p g a b) (i : Nat) (v : Value) : But2 p g a (b.setCell ⟨g, i, none⟩ v) :=
 ⟨h.os, h.tape, h.output, by rw [World.size_setCell]; exact h.size, fun k hk h1 h2 => by
  rw [show (b.setCell ⟨g, i, none⟩ v).heap[k]? = b.heap[k]? by simp [World.setCell, Array.getElem?_modify, Ne.symm h2]]
  exact h.block k hk h1 h2⟩
theorem RWrite_no (h : RAt w p g c k d) (hw : d.down = true ∨ d.has i = false ∨ s.size ≠ 64) :
  Calls Tryz.prog 18 #[.pointer (some ⟨p, 0, none⟩), .int .i64 i, .string s] w (RTurned (.int .i64 (d.write i s.data.toList).2) p g c (d.write i s.data.toList).1 w) := by
 obtain ⟨c0, c1, c2, c3, c4, -⟩ := h.disk.c5
 have hR := h
 clear h
 rcases bool_cases d.down with hd | hd
 ·rw [hd] at c3
  have hw : d.has i = false ∨ s.size ≠ 64 := by
   rcases hw with hw | hw
   ·rw [hd] at hw; cases hw
   ·exact hw
  rw [DN.write_no hd (fun q => by
   rcases hw with hw | hw
   ·rw [hw] at q; exact absurd q.1 (by decide)
   ·exact hw (by rw [← list_len]; exact q.2))]
  have hw : (i < 0 ∨ (d.L.length : Int) ≤ i) ∨ ¬ s.size = 64 := hw.imp not_has id
  dsimp only
  have HR := Lib.hid hR
  clear hR
  revert c0
  by_cases i1 : i < 0
  ·intro c0
   go_enter Tryz.func18, Tryz.ntmps18
   go_wp2_with fail
   go_ret
   exact ⟨rfl, ⟨k, HR.out⟩, But2.refl _ _ _⟩
  ·intro c0
   by_cases i2 : (d.L.length : Int) ≤ i
   ·go_enter Tryz.func18, Tryz.ntmps18
    go_wp2_with fail
    go_ret
    exact ⟨rfl, ⟨k, HR.out⟩, But2.refl _ _ _⟩
   ·have i3 : ¬ s.size = 64 := by omega
    have i4 : ((s.size : Int) != 64) = true := by
     have : ¬ (s.size : Int) = 64 := by omega
     simpa using this
    have i5 : ¬ (s.size : Int) = 64 := by omega
    clear hw
    go_enter Tryz.func18, Tryz.ntmps18
    go_wp2_with fail
    go_ret
    exact ⟨rfl, ⟨k, HR.out⟩, But2.refl _ _ _⟩
 ·rw [DN.write_down hd]
  rw [hd] at c3
  go_enter Tryz.func18, Tryz.ntmps18
  go_wp2_with fail
  go_ret
  exact ⟨rfl, ⟨k, hR⟩, But2.refl _ _ _⟩
set_option maxRecDepth 100000 in
theorem RWrite_last (h : RAt w p g c k d) (hd : d.down = false) (hl : d.left = 1) (hr : r < d.L.length) (hs : s.size = 64) (hn : d.n < 1000000) :
  Calls Tryz.prog 18 #[.pointer (some ⟨p, 0, none⟩), .int .i64 (r : Int), .string s] w (RTurned (.int .i64 180) p g c { L := d.L.set r (s.data.toList.take d.cut ++ d.L[r].drop d.cut), left := 0, cut := d.cut, down := true, n := d.n + 1 } w) := by
 obtain ⟨c0, c1, c2, c3, c4, g0, g1, g2, g3, g4⟩ := h.disk.c5
 rw [hd] at c3
 rw [hl] at c1
 have hk := h.cut (by omega)
 have hk64 := h.k64
 have hb := h.fit.sec _ (List.getElem_mem hr)
 have hne := h.ne
 have i1 : (0 : Int) ≤ (r : Int) := by omega
 have i2 : (r : Int) < (d.L.length : Int) := by omega
 have i3 : ¬ (r : Int) < 0 := by omega
 have i4 : (0 : Int) ≤ (k : Int) := by omega
 have i5 : (k : Int) ≤ 64 := by omega
 have hcut := cut_text hs hb hk64
 have hbs : (⟨d.L[r].toArray⟩ : ByteArray).size = 64 := by show d.L[r].toArray.size = 64; simpa using hb
 have HC := Lib.hid hcut
 have HK := Lib.hid hk
 have q0 := h.disk.set_ 4 (.int .i64 ((d.n : Int) + 1))
 simp only [List.setIfInBounds_toArray, List.set_cons_succ, List.set_cons_zero] at q0
 have r0 := own_keep1 h.row (Below.heap_setCell w ⟨p, 4, none⟩ (.int .i64 ((d.n : Int) + 1)) g (Ne.symm h.ne))
 have f0 := h.fit
 have f1 := h.len
 have x0 := (But2.refl p g w).set1 4 (.int .i64 ((d.n : Int) + 1))
 have hfit := (DN.write_fit h.fit (r : Int) s.data.toList).1
 rw [DN.write_last hd hl hr (by rw [list_len]; exact hs)] at hfit
 dsimp only at hfit
 rw [← hk] at hfit
 have HFIT := Lib.hid hfit
 rw [hd, hl] at q0
 clear hfit f0
 clear h hcut hk hb hl
 go_enter Tryz.func18, Tryz.ntmps18
 go_wp2_with fail
 have hcell2 := r0.cells rfl r (strV d.L[r]) (by rw [List.getElem?_map, List.getElem?_eq_getElem hr]; rfl)
 rw [show (⟨g, 0, none⟩ : Addr).add r = ⟨g, r, none⟩ by unfold Addr.add; split <;> simp_all, show strV d.L[r] = .string ⟨d.L[r].toArray⟩ from rfl] at hcell2
 have hfz2 := own_frozen r0 r
 generalize w.setCell ⟨p, 4, none⟩ (.int .i64 ((d.n : Int) + 1)) = W1 at *
 obtain ⟨c0, c1, c2, c3, c4, g0, g1, g2, g3, g4⟩ := q0.c5
 generalize (⟨d.L[r].toArray⟩ : ByteArray) = B at *
 go_still_tail 25, (by kernel_rfl)
 change wpList _ _ _ _ _ W1.drew
 have q1 : Blk W1.drew p _ _ := q0
 have r1 : W1.drew.ownsRow 0 _ _ _ _ _ := own_keep1 (w' := W1.drew) r0 rfl
 have x1 : But2 p g w W1.drew := ⟨x0.os, x0.tape, x0.output, x0.size, x0.block⟩
 have hfz2 := own_frozen r1 r
 obtain ⟨c0, c1, c2, c3, c4, g0, g1, g2, g3, g4⟩ := q1.c5
 have hcell3 : W1.drew.cell? ⟨g, r, none⟩ = some (.string B) := hcell2
 clear hcell2 q0 r0 x0
 generalize W1.drew = W2 at *
 rw [HC.out]
 have q2 := ((q1.set_other hne r (.string ⟨(s.data.toList.take k ++ d.L[r].drop k).toArray⟩)).set_ 1 (.int .i64 0)).set_ 3 (.bool true)
 have r2 := own_keep1 (own_keep1 (own_set1 r1 r (.string ⟨(s.data.toList.take k ++ d.L[r].drop k).toArray⟩)) (Below.heap_setCell _ ⟨p, 1, none⟩ (.int .i64 0) g (Ne.symm hne))) (Below.heap_setCell _ ⟨p, 3, none⟩ (.bool true) g (Ne.symm hne))
 simp only [List.setIfInBounds_toArray, List.set_cons_succ, List.set_cons_zero] at q2
 have hx := x1.setG r (.string ⟨(s.data.toList.take k ++ d.L[r].drop k).toArray⟩)
 have hx2 := (hx.set1 1 (.int .i64 0)).set1 3 (.bool true)
 clear hx x1 r1 q1
 go_wp2_with fail
 go_ret
 rw [← HK.out]
 refine ⟨rfl, ⟨k, ?_, ?_, hne, fun _ => rfl, hk64, HFIT.out, by rw [List.length_set]; exact f1, Nat.zero_le _, hn⟩, hx2⟩
 ·show Blk _ _ _ #[.slice _ (d.L.set r _).length c, .int .i64 ((0 : Nat) : Int), .int .i64 (k : Int), .bool true, .int .i64 ((d.n + 1 : Nat) : Int)]
  rw [List.length_set]
  exact q2
 ·show World.ownsRow _ _ _ _ (.slice _ (d.L.set r _).length c) (d.L.set r _).length ((d.L.set r _).map strV)
  rw [List.length_set, List.map_set]
  exact r2
set_option maxRecDepth 100000 in
theorem RWrite_ok (h : RAt w p g c k d) (hd : d.down = false) (hl : d.left ≠ 1) (hr : r < d.L.length) (hs : s.size = 64) (hn : d.n < 1000000) :
  Calls Tryz.prog 18 #[.pointer (some ⟨p, 0, none⟩), .int .i64 (r : Int), .string s] w (RTurned (.int .i64 0) p g c { L := d.L.set r s.data.toList, left := d.left - 1, cut := d.cut, down := false, n := d.n + 1 } w) := by
 obtain ⟨c0, c1, c2, c3, c4, g0, g1, g2, g3, g4⟩ := h.disk.c5
 rw [hd] at c3
 have hne := h.ne
 have i1 : (0 : Int) ≤ (r : Int) := by omega
 have i2 : (r : Int) < (d.L.length : Int) := by omega
 have i3 : ¬ (r : Int) < 0 := by omega
 have hfz := own_frozen h.row r
 have hcell := h.cell hr
 generalize (⟨d.L[r].toArray⟩ : ByteArray) = B at *
 have hk := h.cut
 have hk64 := h.k64
 have f1 := h.len
 have f2 := h.left
 have hfit := (DN.write_fit h.fit (r : Int) s.data.toList).1
 rw [DN.write_ok h.fit hd hl hr (by rw [list_len]; exact hs)] at hfit
 dsimp only at hfit
 have hss : strV s.data.toList = .string s := by show Value.string ⟨s.data.toList.toArray⟩ = _; rfl
 have HF := Lib.hid hfit
 have HK := Lib.hid hk
 have HSS := Lib.hid hss
 clear hfit hk hss
 by_cases h0 : d.left = 0
 ·have q2 := (h.disk.set_ 4 (.int .i64 ((d.n : Int) + 1))).set_other hne r (.string s)
  rw [hd] at q2
  simp only [List.setIfInBounds_toArray, List.set_cons_succ, List.set_cons_zero] at q2
  have r2 := own_set1 (own_keep1 h.row (Below.heap_setCell w ⟨p, 4, none⟩ (.int .i64 ((d.n : Int) + 1)) g (Ne.symm hne))) r (.string s)
  have hx := ((But2.refl p g w).set1 4 (.int .i64 ((d.n : Int) + 1))).setG r (.string s)
  have h1 : d.left - 1 = d.left := by omega
  have H1 := Lib.hid h1
  rw [h0] at c1
  have H0 := Lib.hid h0
  clear h h1 h0 hl
  go_enter Tryz.func18, Tryz.ntmps18
  go_wp2_with fail
  go_ret
  rw [H1.out]
  refine ⟨rfl, ⟨k, ?_, ?_, hne, fun e => absurd e (by show ¬ 1 ≤ d.left; have := H0.out; omega), hk64, by have := HF.out; rwa [H1.out] at this, by rw [List.length_set]; exact f1, f2, hn⟩, hx⟩
  ·show Blk _ _ _ #[.slice _ (d.L.set r _).length c, .int .i64 ((d.left : Nat) : Int), .int .i64 (k : Int), .bool false, .int .i64 ((d.n + 1 : Nat) : Int)]
   rw [List.length_set]
   exact q2
  ·show World.ownsRow _ _ _ _ (.slice _ (d.L.set r _).length c) (d.L.set r _).length ((d.L.set r _).map strV)
   rw [List.length_set, List.map_set, HSS.out]
   exact r2
 ·have q2 := ((h.disk.set_ 4 (.int .i64 ((d.n : Int) + 1))).set_ 1 (.int .i64 ((d.left : Int) - 1))).set_other hne r (.string s)
  rw [hd] at q2
  simp only [List.setIfInBounds_toArray, List.set_cons_succ, List.set_cons_zero] at q2
  have r2 := own_set1 (own_keep1 (own_keep1 h.row (Below.heap_setCell w ⟨p, 4, none⟩ (.int .i64 ((d.n : Int) + 1)) g (Ne.symm hne))) (Below.heap_setCell _ ⟨p, 1, none⟩ (.int .i64 ((d.left : Int) - 1)) g (Ne.symm hne))) r (.string s)
  have hx := (((But2.refl p g w).set1 4 (.int .i64 ((d.n : Int) + 1))).set1 1 (.int .i64 ((d.left : Int) - 1))).setG r (.string s)
  have j1 : ¬ (d.left : Int) = 1 := by omega
  have j2 : (1 : Int) < (d.left : Int) := by omega
  have j3 : ((d.left - 1 : Nat) : Int) = (d.left : Int) - 1 := by omega
  have j4 : 1 ≤ d.left := by omega
  have j5 : ¬ d.left = 1 := hl
  have J3 := Lib.hid j3
  clear h j3 hl h0
  go_enter Tryz.func18, Tryz.ntmps18
  go_wp2_with fail
  go_ret
  refine ⟨rfl, ⟨k, ?_, ?_, hne, fun _ => HK.out j4, hk64, HF.out, by rw [List.length_set]; exact f1, by show d.left - 1 ≤ _; omega, hn⟩, hx⟩
  ·show Blk _ _ _ #[.slice _ (d.L.set r _).length c, .int .i64 ((d.left - 1 : Nat) : Int), .int .i64 (k : Int), .bool false, .int .i64 ((d.n + 1 : Nat) : Int)]
   rw [List.length_set, J3.out]
   exact q2
  ·show World.ownsRow _ _ _ _ (.slice _ (d.L.set r _).length c) (d.L.set r _).length ((d.L.set r _).map strV)
   rw [List.length_set, List.map_set, HSS.out]
   exact r2
theorem RWrite_any (i : Int) (s : ByteArray) (h : RAt w p g c k d) (hn : d.n < 1000000) :
  Calls Tryz.prog 18 #[.pointer (some ⟨p, 0, none⟩), .int .i64 i, .string s] w (RTurned (.int .i64 (d.write i s.data.toList).2) p g c (d.write i s.data.toList).1 w) := by
 rcases bool_cases d.down with hd | hd
 ·rcases has_cases d i with hno | ⟨r, rfl, hr⟩
  ·exact RWrite_no h (.inr (.inl hno))
  ·by_cases hs : s.size = 64
   ·have hsl : s.data.toList.length = 64 := by rw [list_len]; exact hs
    by_cases hl : d.left = 1
    ·rw [DN.write_last hd hl hr hsl]
     exact RWrite_last h hd hl hr hs hn
    ·rw [DN.write_ok h.fit hd hl hr hsl]
     exact RWrite_ok h hd hl hr hs hn
   ·exact RWrite_no h (.inr (.inr hs))
 ·exact RWrite_no h (.inl hd)
end Go.Proofs.YtmebjdbkngehiaaGreatDoor
