/-
  The document's disk in memory (package postriderref18): Bytes, New. No condition.
-/
import Derived.Test.YtmebjdbkngehiaaGreatDoorQgO
import Derived.Test.YtmebjdbkngehiaaGreatDoorQgN
import Derived.Test.YtmebjdbkngehiaaGreatDoorQgA
import Derived.Deep.AppendLies
namespace Go.Proofs.YtmebjdbkngehiaaGreatDoor
open Go.RowKit Go.Shelf
set_option maxHeartbeats 4000000
variable {w : World} {p g c : Nat}
def flT (L : List (List UInt8)) (j : Nat) : ByteArray := ⟨(L.take j).flatten.toArray⟩
theorem flT_succ (L : List (List UInt8)) {j : Nat} (h : j < L.length) : flT L (j + 1) = flT L j ++ ⟨L[j].toArray⟩ := by
 apply ByteArray.ext
 rw [ByteArray.data_append]
 show (L.take (j + 1)).flatten.toArray = (L.take j).flatten.toArray ++ L[j].toArray
 rw [List.take_succ_eq_append_getElem h, List.flatten_append, List.append_toArray]
 congr 2
 exact List.append_nil _
theorem flT_all (L : List (List UInt8)) : flT L L.length = ⟨L.flatten.toArray⟩ := by rw [flT, List.take_length]
theorem flT_size {L : List (List UInt8)} (h : ∀ s ∈ L, s.length = 64) (j : Nat) : (flT L j).size ≤ 64 * L.length := by
 show (L.take j).flatten.toArray.size ≤ _
 rw [List.size_toArray, flat_length (fun s hs => h s (List.mem_of_mem_take hs)), List.length_take]
 omega
set_option maxRecDepth 100000 in
theorem RBytes_any {k : Nat} {d : DN} (a n : Int) (h : RAt w p g c k d) (hn1 : -9223372036854775808 ≤ n) (hn2 : n ≤ 9223372036854775807) :
  Calls Tryz.prog 43 #[.pointer (some ⟨p, 0, none⟩), .int .i64 a, .int .i64 n] w (Pure (.tuple #[.string (d.bytes a n).1, .int .i64 (d.bytes a n).2]) w) := by
 obtain ⟨c0, c1, c2, c3, c4, -⟩ := h.disk.c5
 rcases bool_cases d.down with hd | hd
 ·rw [DN.bytes, if_neg (by rw [hd]; decide)]
  rw [hd] at c3
  have hcell := fun j (hj : j < d.L.length) => h.cell hj
  have f1 := h.len
  have hfs := flT_size h.fit.sec
  have hC := fun T w' (q : T.size ≤ 9223372036854775807) => rCut_any T a n w' q hn1 hn2
  have hfb : ∀ j (hj : j < d.L.length), (⟨d.L[j].toArray⟩ : ByteArray).size = 64 := fun j hj => by
   show d.L[j].toArray.size = 64
   rw [List.size_toArray]
   exact h.fit.sec _ (List.getElem_mem hj)
  clear h
  rw [← flT_all]
  have HC := Lib.hid hcell
  have HF := Lib.hid hfs
  have HB := Lib.hid hfb
  have HCC := Lib.hid hC
  clear hcell hfs hfb hC
  go_enter Tryz.func43, Tryz.ntmps43
  go_wp2_with fail
  go_loop [8, 9] (fun o i => ∃ j : Nat, j ≤ d.L.length ∧ i = .int .i64 (j : Int) ∧ o = .string (flT d.L j)) (fun _ i => d.L.length - (intOf i).toNat)
  case atStart => exact ⟨0, by omega, rfl, rfl⟩
  case round =>
   obtain ⟨j, hj, rfl, rfl⟩ := hrel
   have hfj := HF.out j
   by_cases hlt : j < d.L.length
   ·have hc := HC.out j hlt
    have hb := HB.out j hlt
    have i1 : (0 : Int) ≤ (j : Int) := by omega
    have i2 : (j : Int) < (d.L.length : Int) := by omega
    have hs := flT_succ d.L hlt
    have HS := Lib.hid hs
    clear hs
    generalize (⟨d.L[j].toArray⟩ : ByteArray) = B at *
    generalize flT d.L j = F at *
    have u1 : ¬ (9223372036854775807 < F.size + B.size) := by omega
    have u2 : ¬ (9223372036854775807 < F.size + 64) := by omega
    go_wp2_with fail
    go_round
    case rel => exact ⟨j + 1, by omega, by go_num, by rw [HS.out]⟩
    case measure => simp [intOf]; omega
   ·obtain rfl : j = d.L.length := by omega
    go_wp2_with fail
    refine (HCC.out _ _ (by omega)).mono ?_
    rintro e w1 ⟨rfl, rfl⟩
    generalize cutV (flT d.L d.L.length) a n = q at *
    go_wp2_with fail
    go_ret2
    exact ⟨rfl, rfl⟩
 ·rw [DN.bytes, if_pos hd]
  rw [hd] at c3
  go_enter Tryz.func43, Tryz.ntmps43
  go_wp2_with fail
  go_ret2
  exact ⟨rfl, rfl⟩
theorem RNew_no (k : Int) (w : World) (h : k < 1 ∨ 256 < k) : Calls Tryz.prog 16 #[.int .i64 k] w (Pure (.tuple #[.pointer none, .int .i64 2]) w) := by
 by_cases h1 : k < 1
 ·go_enter Tryz.func16, Tryz.ntmps16
  go_wp2_with fail
  go_ret2
  exact ⟨rfl, rfl⟩
 ·have h2 : (256 : Int) < k := by omega
  go_enter Tryz.func16, Tryz.ntmps16
  go_wp2_with fail
  go_ret2
  exact ⟨rfl, rfl⟩
theorem infoRS : (Tryz.prog.info? 9).map (fun i => (i.zero, i.size, i.bytes)) = some (some (.string ByteArray.empty), 1, 16) := by kernel_rfl
def zT : ByteArray := ⟨(List.replicate 64 (0 : UInt8)).toArray⟩
def zeros64 : List UInt8 := List.replicate 64 0
theorem made_z64 : madeCells (Value.int .u8 0).cells (64 * 1) = (cellsB zeros64).toArray := by kernel_rfl
structure RNew (w : World) (p j : Nat) (V : Value) (W : World) : Prop where
 disk : Blk W p 59 #[V, .int .i64 0, .int .i64 0, .bool false, .int .i64 0]
 row : W.ownsRow (p + 1) 9 1 V j (List.replicate j (strV zeros64))
 bel : Below w.heap.size w W
theorem conv_z64 {W : World} (h : Blk W g 5 (cellsB zeros64).toArray) : (convert 36 9 (.slice (some ⟨g, 0, none⟩) 64 64)).run Tryz.prog W = .ok (strV zeros64) W := by
 refine run_convert_bytes_back (P := Tryz.prog) _ 36 9 5 ⟨g, 0, none⟩ 64 zeros64 Tryz.underlying36 Tryz.underlying5 Tryz.underlying9 (fun j hj => ?_)
 have hc := h.cell j
 rw [show (⟨g, 0, none⟩ : Addr).add j = ⟨g, j, none⟩ by unfold Addr.add; split <;> simp_all, hc, List.getElem?_toArray, cellsB, List.getElem?_map, List.getElem?_eq_getElem hj]
 rfl
theorem RNew.step {w1 : World} {j : Nat} {V : Value} (h1 : Blk w1 p 59 #[V, .int .i64 0, .int .i64 0, .bool false, .int .i64 0]) (h2 : w1.ownsRow (p + 1) 9 1 (.slice (some ⟨g, 0, none⟩) (j + 1) c) (j + 1) (List.replicate j (strV zeros64) ++ [strV zeros64])) (h3 : Below w.heap.size w w1) (hp : w.heap.size ≤ p) :
  RNew w p (j + 1) (.slice (some ⟨g, 0, none⟩) (j + 1) c) (w1.setCell ⟨p, 0, none⟩ (.slice (some ⟨g, 0, none⟩) (j + 1) c)) := by
 have q := h1.set_ 0 (.slice (some ⟨g, 0, none⟩) (j + 1) c)
 simp only [List.setIfInBounds_toArray, List.set_cons_zero] at q
 refine ⟨q, ?_, h3.setCell hp _⟩
 rw [List.replicate_succ']
 exact ownsRow_setCell_below h2 (Nat.lt_succ_self p) _
def RNewRes (k : Nat) (w : World) (e : Ending) (w' : World) : Prop := ∃ p g c, e = .returned (.tuple #[.pointer (some ⟨p, 0, none⟩), .int .i64 0]) ∧ w.heap.size ≤ p ∧ w.heap.size ≤ g ∧ RAt w' p g c 0 (DN.new k) ∧ Below w.heap.size w w'
set_option maxRecDepth 100000 in
theorem RNew_ok (k : Nat) (w : World) (h1 : 1 ≤ k) (h2 : k ≤ 256) : Calls Tryz.prog 16 #[.int .i64 (k : Int)] w (RNewRes k w) := by
 obtain ⟨b0, hb0, hbz, hb1, hb2⟩ := info_parts infoB8
 obtain ⟨i0, hi0, hz0, hz1, hz2⟩ := info_parts infoRS
 have i1 : ¬ (k : Int) < 1 := by omega
 have i2 : ¬ (256 : Int) < (k : Int) := by omega
 have q0 := Blk.new_ w 59 #[.slice none 0 0, .int .i64 0, .int .i64 0, .bool false, .int .i64 0]
 have hsz : (w.alloc (.cells #[.slice none 0 0, .int .i64 0, .int .i64 0, .bool false, .int .i64 0] 59)).heap.size = w.heap.size + 1 := by simp
 have q1 := ext_new w (.cells #[.slice none 0 0, .int .i64 0, .int .i64 0, .bool false, .int .i64 0] 59)
 have HQ := Lib.hid q0
 have HS := Lib.hid hsz
 clear q0 hsz
 go_enter Tryz.func16, Tryz.ntmps16
 go_wp2_with fail
 generalize hW : w.alloc (.cells #[.slice none 0 0, .int .i64 0, .int .i64 0, .bool false, .int .i64 0] 59) = W at *
 clear hW
 go_loopw [5] (fun i wr => ∃ (j : Nat) (V : Value), j ≤ k ∧ i = .int .i64 (j : Int) ∧ RNew w w.heap.size j V wr) (fun i _ => k - (intOf i).toNat)
 case atStart => exact ⟨0, _, by omega, rfl, HQ.out, own_nil, q1⟩
 case round =>
  obtain ⟨j, V, hj, rfl, hB, hown, hbe⟩ := hrel
  by_cases hlt : j < k
  ·have i3 : (j : Int) < (k : Int) := by omega
   go_wp2_with fail
   have hmk := run_makeSlice (P := Tryz.prog) (w := wr.drew) 36 5 b0 _ Tryz.underlying36 hb0 hbz .i64 .i64 64 64 (by decide) (by decide) (by rw [hb1]; decide) (by rw [hb2]; decide) (by decide)
   rw [hb1, show ((64 : Int)).toNat = 64 from rfl, made_z64] at hmk
   have m1 : Blk (wr.drew.alloc (.cells (cellsB zeros64).toArray 5)) wr.heap.size 5 (cellsB zeros64).toArray := Blk.new_ wr.drew _ _
   have m2 : (wr.drew.alloc (.cells (cellsB zeros64).toArray 5)).heap.size = wr.heap.size + 1 := by simp
   have m3 : (wr.drew.alloc (.cells (cellsB zeros64).toArray 5)).ownsRow (w.heap.size + 1) _ _ _ _ _ := hown.drew.alloc _
   have m4 : Blk (wr.drew.alloc (.cells (cellsB zeros64).toArray 5)) w.heap.size _ _ := Blk.alloc (show Blk wr.drew w.heap.size _ _ from hB) _
   have m5 : Below w.heap.size w (wr.drew.alloc (.cells (cellsB zeros64).toArray 5)) := (below_drewN' hbe 1).alloc hbe.size _
   rw [show wr.drew.heap.size = wr.heap.size from rfl] at hmk
   generalize wr.drew.alloc (.cells (cellsB zeros64).toArray 5) = WA at *
   have hcv := conv_z64 m1
   rw [show strV zeros64 = Value.string zT from rfl] at hcv
   have x0 : wr.drew.cell? ⟨w.heap.size, 0, none⟩ = some V := (hB.cell 0).trans rfl
   have xA : WA.cell? ⟨w.heap.size, 0, none⟩ = some V := (m4.cell 0).trans rfl
   have hBB : Blk (WA.alloc (.cells #[Value.string zT] 9)) w.heap.size _ _ := m4.alloc _
   have hownB : (WA.alloc (.cells #[Value.string zT] 9)).ownsRow (w.heap.size + 1) _ _ _ _ _ := m3.alloc _
   have hbB : Below w.heap.size w (WA.alloc (.cells #[Value.string zT] 9)) := m5.alloc (m5.size) _
   have hbase : w.heap.size + 1 ≤ (WA.alloc (.cells #[Value.string zT] 9)).heap.size := by have := hbe.size; simp; omega
   have hnew : ∀ (i : Nat) (u : Value), [Value.string zT][i]? = some u → (WA.alloc (.cells #[Value.string zT] 9)).cell? ((⟨WA.heap.size, 0, none⟩ : Addr).add i) = some u := new_cells WA [Value.string zT] _
   have hone : ∀ u ∈ [Value.string zT], u.oneCell' = true := fun u hu => by rw [List.mem_singleton.1 hu]; rfl
   have xB : (WA.alloc (.cells #[Value.string zT] 9)).cell? ⟨w.heap.size, 0, none⟩ = some V := (hBB.cell 0).trans rfl
   have hne1 := World.new_ne WA ⟨w.heap.size, 0, none⟩ xA
   clear hB hbe m1 m4 m5 m3 m2
   refine wp_region_held_drew (S := (fun _ => True)) (by kernel_rfl) trivial (fun hHeld => ?_)
   refine wt_ 0 rfl ?_
   refine wt_ 1 rfl ?_
   refine wt_ 2 rfl ?_
   refine wt_ 3 rfl ?_
   try simp only [Act.put, List.setIfInBounds_toArray]
   refine wpAnyH_ready (rs := [4, 5]) (by kernel_rfl) (by simp) ?_
   refine AllReadyH.cons rfl (fun K hK => ?_) (AllReadyH.cons rfl (fun K hK => ?_) AllReadyH.nil)
   ·go_simp
    refine hK.out _ _ trivial (fun hHeld => ?_)
    clear hK K
    try simp only [Act.put, List.setIfInBounds_toArray, List.set_cons_succ, List.set_cons_zero]
    refine wpAnyH_ready (rs := [5]) (by kernel_rfl) (by simp) ?_
    refine AllReadyH.cons rfl (fun K hK => ?_) AllReadyH.nil
    go_simp
    refine hK.out _ _ trivial (fun hHeld => ?_)
    clear hK K
    try simp only [Act.put, List.setIfInBounds_toArray, List.set_cons_succ, List.set_cons_zero]
    refine wpAnyH_ready (rs := [6]) (by kernel_rfl) (by simp) ?_
    refine AllReadyH.cons rfl (fun K hK => ?_) AllReadyH.nil
    go_simp
    refine hK.out _ _ trivial (fun hHeld => ?_)
    clear hK K
    try simp only [Act.put, List.setIfInBounds_toArray, List.set_cons_succ, List.set_cons_zero]
    refine wpAnyH_ready (rs := [7]) (by kernel_rfl) (by simp) ?_
    refine AllReadyH.cons rfl (fun K hK => ?_) AllReadyH.nil
    go_simp
    refine hK.out _ _ trivial (fun hHeld => ?_)
    clear hK K
    try simp only [Act.put, List.setIfInBounds_toArray, List.set_cons_succ, List.set_cons_zero]
    refine wpAnyH_ready (rs := [8]) (by kernel_rfl) (by simp) ?_
    refine AllReadyH.cons rfl (fun K hK => ?_) AllReadyH.nil
    refine step_append_lies _ (by rfl) _ _ _ (by rfl) (w.heap.size + 1) 9 i0 (.string ByteArray.empty) 1 16 Tryz.underlying54 hi0 hz0 hz1 hz2 rfl (by omega) V j _ (by rfl) hownB ⟨WA.heap.size, 0, none⟩ 1 1 [Value.string zT] (by rfl) rfl hnew hone (by omega) (by unfold maxLen; omega) (by omega) hbase _ rfl ?_
    intro g1 cap1 w1 hown1 hgrow hat hlt1
    refine hK.out _ _ trivial (fun hHeld => ?_)
    clear hK K
    refine wt_ 9 rfl ?_
    refine wt_ 10 rfl ?_
    try simp only [Act.put, List.setIfInBounds_toArray]
    refine wpAnyH_ready (rs := [11]) (by kernel_rfl) (by simp) ?_
    refine AllReadyH.cons rfl (fun K hK => ?_) AllReadyH.nil
    have hb2 := below_append (Below.refl (w.heap.size + 1) (WA.alloc (.cells #[Value.string zT] 9))) hownB (Nat.le_refl _) hbase hgrow
    have hP1 : Blk w1 w.heap.size _ _ := (hb2.block _ (by omega)).trans hBB
    have hb1 := hbB.trans (hb2.mono (by omega))
    obtain ⟨y0, y1, y2, y3, y4, z0, -⟩ := hP1.c5
    go_simp
    refine hK.out _ _ trivial (fun hHeld => ?_)
    clear hK K
    try simp only [Act.put, List.setIfInBounds_toArray, List.set_cons_succ, List.set_cons_zero]
    refine wpAnyH_done (by kernel_rfl) ?_ _
    go_wp2_with fail
    go_roundw
    case rel => exact ⟨j + 1, _, by omega, by go_num, RNew.step hP1 hown1 hb1 (Nat.le_refl _)⟩
    case measure => simp [intOf]; omega
   ·go_simp
    refine hK.out _ _ trivial (fun hHeld => ?_)
    clear hK K
    try simp only [Act.put, List.setIfInBounds_toArray, List.set_cons_succ, List.set_cons_zero]
    refine wpAnyH_ready (rs := [4, 6]) (by kernel_rfl) (by simp) ?_
    refine AllReadyH.cons rfl (fun K hK => ?_) (AllReadyH.cons rfl (fun K hK => ?_) AllReadyH.nil)
    ·go_simp
     refine hK.out _ _ trivial (fun hHeld => ?_)
     clear hK K
     try simp only [Act.put, List.setIfInBounds_toArray, List.set_cons_succ, List.set_cons_zero]
     refine wpAnyH_ready (rs := [6]) (by kernel_rfl) (by simp) ?_
     refine AllReadyH.cons rfl (fun K hK => ?_) AllReadyH.nil
     go_simp
     refine hK.out _ _ trivial (fun hHeld => ?_)
     clear hK K
     try simp only [Act.put, List.setIfInBounds_toArray, List.set_cons_succ, List.set_cons_zero]
     refine wpAnyH_ready (rs := [7]) (by kernel_rfl) (by simp) ?_
     refine AllReadyH.cons rfl (fun K hK => ?_) AllReadyH.nil
     go_simp
     refine hK.out _ _ trivial (fun hHeld => ?_)
     clear hK K
     try simp only [Act.put, List.setIfInBounds_toArray, List.set_cons_succ, List.set_cons_zero]
     refine wpAnyH_ready (rs := [8]) (by kernel_rfl) (by simp) ?_
     refine AllReadyH.cons rfl (fun K hK => ?_) AllReadyH.nil
     refine step_append_lies _ (by rfl) _ _ _ (by rfl) (w.heap.size + 1) 9 i0 (.string ByteArray.empty) 1 16 Tryz.underlying54 hi0 hz0 hz1 hz2 rfl (by omega) V j _ (by rfl) hownB ⟨WA.heap.size, 0, none⟩ 1 1 [Value.string zT] (by rfl) rfl hnew hone (by omega) (by unfold maxLen; omega) (by omega) hbase _ rfl ?_
     intro g1 cap1 w1 hown1 hgrow hat hlt1
     refine hK.out _ _ trivial (fun hHeld => ?_)
     clear hK K
     refine wt_ 9 rfl ?_
     refine wt_ 10 rfl ?_
     try simp only [Act.put, List.setIfInBounds_toArray]
     refine wpAnyH_ready (rs := [11]) (by kernel_rfl) (by simp) ?_
     refine AllReadyH.cons rfl (fun K hK => ?_) AllReadyH.nil
     have hb2 := below_append (Below.refl (w.heap.size + 1) (WA.alloc (.cells #[Value.string zT] 9))) hownB (Nat.le_refl _) hbase hgrow
     have hP1 : Blk w1 w.heap.size _ _ := (hb2.block _ (by omega)).trans hBB
     have hb1 := hbB.trans (hb2.mono (by omega))
     obtain ⟨y0, y1, y2, y3, y4, z0, -⟩ := hP1.c5
     go_simp
     refine hK.out _ _ trivial (fun hHeld => ?_)
     clear hK K
     try simp only [Act.put, List.setIfInBounds_toArray, List.set_cons_succ, List.set_cons_zero]
     refine wpAnyH_done (by kernel_rfl) ?_ _
     go_wp2_with fail
     go_roundw
     case rel => exact ⟨j + 1, _, by omega, by go_num, RNew.step hP1 hown1 hb1 (Nat.le_refl _)⟩
     case measure => simp [intOf]; omega
    ·go_simp
     refine hK.out _ _ trivial (fun hHeld => ?_)
     clear hK K
     try simp only [Act.put, List.setIfInBounds_toArray, List.set_cons_succ, List.set_cons_zero]
     refine wpAnyH_ready (rs := [4, 7]) (by kernel_rfl) (by simp) ?_
     refine AllReadyH.cons rfl (fun K hK => ?_) (AllReadyH.cons rfl (fun K hK => ?_) AllReadyH.nil)
     ·go_simp
      refine hK.out _ _ trivial (fun hHeld => ?_)
      clear hK K
      try simp only [Act.put, List.setIfInBounds_toArray, List.set_cons_succ, List.set_cons_zero]
      refine wpAnyH_ready (rs := [7]) (by kernel_rfl) (by simp) ?_
      refine AllReadyH.cons rfl (fun K hK => ?_) AllReadyH.nil
      go_simp
      refine hK.out _ _ trivial (fun hHeld => ?_)
      clear hK K
      try simp only [Act.put, List.setIfInBounds_toArray, List.set_cons_succ, List.set_cons_zero]
      refine wpAnyH_ready (rs := [8]) (by kernel_rfl) (by simp) ?_
      refine AllReadyH.cons rfl (fun K hK => ?_) AllReadyH.nil
      refine step_append_lies _ (by rfl) _ _ _ (by rfl) (w.heap.size + 1) 9 i0 (.string ByteArray.empty) 1 16 Tryz.underlying54 hi0 hz0 hz1 hz2 rfl (by omega) V j _ (by rfl) hownB ⟨WA.heap.size, 0, none⟩ 1 1 [Value.string zT] (by rfl) rfl hnew hone (by omega) (by unfold maxLen; omega) (by omega) hbase _ rfl ?_
      intro g1 cap1 w1 hown1 hgrow hat hlt1
      refine hK.out _ _ trivial (fun hHeld => ?_)
      clear hK K
      refine wt_ 9 rfl ?_
      refine wt_ 10 rfl ?_
      try simp only [Act.put, List.setIfInBounds_toArray]
      refine wpAnyH_ready (rs := [11]) (by kernel_rfl) (by simp) ?_
      refine AllReadyH.cons rfl (fun K hK => ?_) AllReadyH.nil
      have hb2 := below_append (Below.refl (w.heap.size + 1) (WA.alloc (.cells #[Value.string zT] 9))) hownB (Nat.le_refl _) hbase hgrow
      have hP1 : Blk w1 w.heap.size _ _ := (hb2.block _ (by omega)).trans hBB
      have hb1 := hbB.trans (hb2.mono (by omega))
      obtain ⟨y0, y1, y2, y3, y4, z0, -⟩ := hP1.c5
      go_simp
      refine hK.out _ _ trivial (fun hHeld => ?_)
      clear hK K
      try simp only [Act.put, List.setIfInBounds_toArray, List.set_cons_succ, List.set_cons_zero]
      refine wpAnyH_done (by kernel_rfl) ?_ _
      go_wp2_with fail
      go_roundw
      case rel => exact ⟨j + 1, _, by omega, by go_num, RNew.step hP1 hown1 hb1 (Nat.le_refl _)⟩
      case measure => simp [intOf]; omega
     ·go_simp
      refine hK.out _ _ trivial (fun hHeld => ?_)
      clear hK K
      try simp only [Act.put, List.setIfInBounds_toArray, List.set_cons_succ, List.set_cons_zero]
      refine wpAnyH_ready (rs := [4]) (by kernel_rfl) (by simp) ?_
      refine AllReadyH.cons rfl (fun K hK => ?_) AllReadyH.nil
      go_simp
      refine hK.out _ _ trivial (fun hHeld => ?_)
      clear hK K
      try simp only [Act.put, List.setIfInBounds_toArray, List.set_cons_succ, List.set_cons_zero]
      refine wpAnyH_ready (rs := [8]) (by kernel_rfl) (by simp) ?_
      refine AllReadyH.cons rfl (fun K hK => ?_) AllReadyH.nil
      refine step_append_lies _ (by rfl) _ _ _ (by rfl) (w.heap.size + 1) 9 i0 (.string ByteArray.empty) 1 16 Tryz.underlying54 hi0 hz0 hz1 hz2 rfl (by omega) V j _ (by rfl) hownB ⟨WA.heap.size, 0, none⟩ 1 1 [Value.string zT] (by rfl) rfl hnew hone (by omega) (by unfold maxLen; omega) (by omega) hbase _ rfl ?_
      intro g1 cap1 w1 hown1 hgrow hat hlt1
      refine hK.out _ _ trivial (fun hHeld => ?_)
      clear hK K
      refine wt_ 9 rfl ?_
      refine wt_ 10 rfl ?_
      try simp only [Act.put, List.setIfInBounds_toArray]
      refine wpAnyH_ready (rs := [11]) (by kernel_rfl) (by simp) ?_
      refine AllReadyH.cons rfl (fun K hK => ?_) AllReadyH.nil
      have hb2 := below_append (Below.refl (w.heap.size + 1) (WA.alloc (.cells #[Value.string zT] 9))) hownB (Nat.le_refl _) hbase hgrow
      have hP1 : Blk w1 w.heap.size _ _ := (hb2.block _ (by omega)).trans hBB
      have hb1 := hbB.trans (hb2.mono (by omega))
      obtain ⟨y0, y1, y2, y3, y4, z0, -⟩ := hP1.c5
      go_simp
      refine hK.out _ _ trivial (fun hHeld => ?_)
      clear hK K
      try simp only [Act.put, List.setIfInBounds_toArray, List.set_cons_succ, List.set_cons_zero]
      refine wpAnyH_done (by kernel_rfl) ?_ _
      go_wp2_with fail
      go_roundw
      case rel => exact ⟨j + 1, _, by omega, by go_num, RNew.step hP1 hown1 hb1 (Nat.le_refl _)⟩
      case measure => simp [intOf]; omega
  ·obtain rfl : j = k := by omega
   obtain ⟨c0, c1, c2, c3, c4, -⟩ := hB.c5
   obtain ⟨g, c, rfl, hg, hgl⟩ := hown.form (by omega)
   go_wp2_with fail
   go_ret2
   refine ⟨_, g, c, rfl, Nat.le_refl _, by omega, ⟨?_, ?_, by omega, fun _ => rfl, by omega, DN.new_fit _, ?_, Nat.zero_le _, Nat.zero_le _⟩, hbe⟩
   ·show Blk _ _ _ #[.slice _ (List.replicate j _).length _, _, _, _, _]
    rw [List.length_replicate]
    exact hB
   ·show World.ownsRow _ _ _ _ (.slice _ (List.replicate j _).length _) (List.replicate j _).length ((List.replicate j _).map strV)
    rw [List.length_replicate, List.map_replicate]
    exact own_base hown (Nat.zero_le _)
   ·show (List.replicate j _).length ≤ 256
    rw [List.length_replicate]
    exact h2
end Go.Proofs.YtmebjdbkngehiaaGreatDoor
