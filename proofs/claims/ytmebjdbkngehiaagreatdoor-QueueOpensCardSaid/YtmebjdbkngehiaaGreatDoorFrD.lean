/-
  Package frame: the records at a text's beginning (records, Scan). Conditions: the listed variables hold what 'CInv' says.
-/
import Derived.Test.YtmebjdbkngehiaaGreatDoorFrC
import Derived.Test.YtmebjdbkngehiaaGreatDoorQgB
import Derived.Test.YtmebjdbkngehiaaGreatDoorQgA
namespace Go.Proofs.YtmebjdbkngehiaaGreatDoor
open Go.RowKit
set_option maxHeartbeats 4000000
attribute [local go_sem] Oper.semAt_some
theorem records_any (a : Addr) (w : World) : Calls Tryz.prog 126 #[.pointer (some a)] w fun e w' => e = .returned (.func (.func 151) #[] #[.pointer (some ⟨w.heap.size, 0, none⟩)]) ∧ w.alloc (.cells #[.pointer (some a)] 196) = w' := by
 go_enter Tryz.func126, Tryz.ntmps126
 go_wp2
 go_ret
 exact ⟨rfl, rfl⟩
def recE (r : RecN) : Array Value := #[.agg #[.int .i64 (r.op : Int), .int .i64 (r.id : Int), .string ⟨r.data.toArray⟩]]
set_option maxRecDepth 100000 in
theorem records_seq (s : ByteArray) (hs : s.size ≤ 1000000) (Bc R m : Nat) (aA aT aN aW aS : Addr) (w0 : World) (hI0 : CInv w0 aA aT aN aW aS) (hR : w0.heap.size ≤ R) (hBR : R < Bc) :
  SeqW Fence.wide m Tryz.prog 151 #[.pointer (some ⟨Bc, 0, none⟩)] recE
   (fun A B => Below (R + 1) A B ∧ B.heap[Bc]? = A.heap[Bc]?) (Besides R) (fun pre x => ∃ t, (scanOf s.data.toList).1 = pre ++ x :: t)
   (fun xs W => xs = (scanOf s.data.toList).1 ∧ Blk W R 200 #[.string s, .int .i64 ((scanOf s.data.toList).2 : Int)]) (fun _ => True)
   (fun W => Boxed W Bc 196 (.pointer (some ⟨R, 0, none⟩)) ∧ Blk W R 200 #[.string s, .int .i64 0] ∧ Below w0.heap.size w0 W) := by
 rintro l J Jx W ⟨hbc, hbr, hbw⟩ hJ hJx hY h0
 refine callsIn_of_wp Tryz.func151 rfl trivial ?_ rfl
 simp only [Tryz.ntmps151, List.size_toArray, List.length_cons, List.length_nil, Nat.reduceAdd, Nat.reduceSub, Array.replicate_succ, Array.replicate_zero, List.push_toArray, List.append_toArray, List.nil_append, List.cons_append]
 refine wpIn_scope ?_
 gi_wp2
 refine wpIn_label ?_
 gi_wp2
 gi_loopw [3] (fun _ wr => ∃ (pre : List RecN) (p : Nat), p ≤ s.size ∧ J pre wr ∧ Boxed wr Bc 196 (.pointer (some ⟨R, 0, none⟩)) ∧ Blk wr R 200 #[.string s, .int .i64 (p : Int)] ∧ Below w0.heap.size w0 wr ∧ scanOf s.data.toList = (pre ++ (scanOf (s.data.toList.drop p)).1, p + (scanOf (s.data.toList.drop p)).2)) (fun _ wr => s.size - (intOf ((wr.cell? ⟨R, 1, none⟩).getD .nilIface)).toNat)
 case atStart => exact ⟨[], 0, by omega, h0, hbc, hbr, hbw, by simp⟩
 case round =>
  obtain ⟨pre, p, hp, hJk, hck, hrk, hwk, hsc⟩ := hrel
  have cx := hck.cell
  have HF := fun w' h' => frame_any s (p : Int) w' aA aT aN aW aS h' hs
  -- ROUND
  cases hfv : frV s (p : Int) with
  | none =>
   rw [hfv] at HF
   unfold frR at HF
   dsimp only at HF
   rw [frV_nat s p hp] at hfv
   rw [scanOf_none hfv] at hsc
   have HS := Lib.hid hsc
   clear hsc hfv
   gi_wp2
   refine wpIn_wide.2 ?_
   refine wp_region_held_drew (S := (fun w' => Below wr.heap.size wr w')) (by kernel_rfl) (Below.refl _ _).drew (fun hHeld => ?_)
   refine wt_ 0 rfl ?_ (fun wx hSx => by have hx0 := (boxed_kept' hck (hSx.block Bc hck.lt)).cell; have hx1 := (hrk.below hSx).cell 0; have hx2 := (hrk.below hSx).cell 1; simp only [List.getElem?_toArray, List.getElem?_cons_zero, List.getElem?_cons_succ] at hx1 hx2; go_simp; try with_reducible rfl)
   refine wt_ 1 rfl ?_
   refine wt_ 2 rfl ?_
   refine wt_ 3 rfl ?_ (fun wx hSx => by have hx0 := (boxed_kept' hck (hSx.block Bc hck.lt)).cell; have hx1 := (hrk.below hSx).cell 0; have hx2 := (hrk.below hSx).cell 1; simp only [List.getElem?_toArray, List.getElem?_cons_zero, List.getElem?_cons_succ] at hx1 hx2; go_simp; try with_reducible rfl)
   refine wt_ 4 rfl ?_ (fun wx hSx => by have hx0 := (boxed_kept' hck (hSx.block Bc hck.lt)).cell; have hx1 := (hrk.below hSx).cell 0; have hx2 := (hrk.below hSx).cell 1; simp only [List.getElem?_toArray, List.getElem?_cons_zero, List.getElem?_cons_succ] at hx1 hx2; go_simp; try with_reducible rfl)
   refine wt_ 5 rfl ?_
   refine wt_ 6 rfl ?_
   refine wt_ 7 rfl ?_ (fun wx hSx => by have hx0 := (boxed_kept' hck (hSx.block Bc hck.lt)).cell; have hx1 := (hrk.below hSx).cell 0; have hx2 := (hrk.below hSx).cell 1; simp only [List.getElem?_toArray, List.getElem?_cons_zero, List.getElem?_cons_succ] at hx1 hx2; go_simp; try with_reducible rfl)
   try simp only [Act.put, List.setIfInBounds_toArray]
   refine wpAnyH_ready (rs := [8, 9]) (by kernel_rfl) (by simp) ?_
   refine AllReadyH.cons rfl (fun K hK => ?_) (AllReadyH.cons rfl (fun K hK => ?_) AllReadyH.nil)
   ·go_simp
    refine (HF _ (hI0.below (ext_trans hwk hHeld))).mono ?_
    rintro e w1 ⟨rfl, hb1⟩
    have hx1 := ext_trans hHeld hb1
    have hlt1 : wr.heap.size ≤ w1.heap.size := hx1.size
    refine hK.out _ _ (ext_trans hHeld hb1) (fun hHeld => ?_)
    clear hK K
    try simp only [Act.put, List.setIfInBounds_toArray, List.set_cons_succ, List.set_cons_zero]
    refine wpAnyH_ready (rs := [9]) (by kernel_rfl) (by simp) ?_
    refine AllReadyH.cons rfl (fun K hK => ?_) AllReadyH.nil
    go_simp
    refine hK.out _ _ (ext_alloc hHeld _) (fun hHeld => ?_)
    clear hK K
    try simp only [Act.put, List.setIfInBounds_toArray, List.set_cons_succ, List.set_cons_zero]
    refine wpAnyH_ready (rs := [10]) (by kernel_rfl) (by simp) ?_
    refine AllReadyH.cons rfl (fun K hK => ?_) AllReadyH.nil
    go_simp
    refine hK.out _ _ (by first | exact ext_alloc hx1 _ | exact ((((hHeld.setCell (p := ⟨wr.heap.size, 0, none⟩) (Nat.le_refl _) _).setCell (p := ⟨wr.heap.size, 1, none⟩) (Nat.le_refl _) _).setCell (p := ⟨wr.heap.size, 2, none⟩) (Nat.le_refl _) _).setCell (p := ⟨wr.heap.size, 3, none⟩) (Nat.le_refl _) _).setCell (p := ⟨wr.heap.size, 4, none⟩) (Nat.le_refl _) _) (fun hHeld => ?_)
    clear hK K
    try simp only [Act.put, List.setIfInBounds_toArray, List.set_cons_succ, List.set_cons_zero]
    refine wpAnyH_done (by kernel_rfl) ?_ _
    have hG := Blk.new_ w1 237 #[.int .i64 0, .int .i64 0, .string ByteArray.empty, .int .i64 0, .bool false]
    have hgR := hlt1
    generalize w1.alloc (.cells #[.int .i64 0, .int .i64 0, .string ByteArray.empty, .int .i64 0, .bool false] 237) = W9 at *
    obtain ⟨y0, y1, y2, y3, y4, -⟩ := (hG.alloc (.cells #[.int .i64 0, .int .i64 0, .string ⟨#[]⟩] 128)).c5
    have hr9 := (hrk.below hHeld).alloc (.cells #[.int .i64 0, .int .i64 0, .string ⟨#[]⟩] 128)
    have hb9 := Besides.of_below (g := R) (ext_alloc hHeld (.cells #[.int .i64 0, .int .i64 0, .string ⟨#[]⟩] 128))
    clear hG hgR
    gi_wp2
    simp only [Exit.noGoto]
    go_end0
    exact ⟨⟨_, rfl⟩, .inl ⟨pre, ⟨by rw [HS.out]; simp, by rw [HS.out]; simpa using hr9⟩, hJ _ _ _ hJk hb9⟩⟩
   ·go_simp
    refine hK.out _ _ (ext_alloc hHeld _) (fun hHeld => ?_)
    clear hK K
    try simp only [Act.put, List.setIfInBounds_toArray, List.set_cons_succ, List.set_cons_zero]
    refine wpAnyH_ready (rs := [8]) (by kernel_rfl) (by simp) ?_
    refine AllReadyH.cons rfl (fun K hK => ?_) AllReadyH.nil
    go_simp
    refine (HF _ (hI0.below (ext_trans hwk hHeld))).mono ?_
    rintro e w1 ⟨rfl, hb1⟩
    have hx1 := ext_trans hHeld hb1
    have hg : Blk w1 wr.heap.size 237 #[.int .i64 0, .int .i64 0, .string ⟨#[]⟩, .int .i64 0, .bool false] := Blk.below (w := (wr.alloc (.cells #[.int .i64 0, .int .i64 0, .string ⟨#[]⟩, .int .i64 0, .bool false] 237)).drew) (Blk.new_ wr 237 #[.int .i64 0, .int .i64 0, .string ⟨#[]⟩, .int .i64 0, .bool false]) hb1
    refine hK.out _ _ (ext_trans hHeld hb1) (fun hHeld => ?_)
    clear hK K
    try simp only [Act.put, List.setIfInBounds_toArray, List.set_cons_succ, List.set_cons_zero]
    refine wpAnyH_ready (rs := [10]) (by kernel_rfl) (by simp) ?_
    refine AllReadyH.cons rfl (fun K hK => ?_) AllReadyH.nil
    obtain ⟨x0, x1, x2, x3, x4, g0, g1, g2, g3, g4⟩ := hg.c5
    go_simp
    refine hK.out _ _ (by first | exact ext_alloc hx1 _ | exact ((((hHeld.setCell (p := ⟨wr.heap.size, 0, none⟩) (Nat.le_refl _) _).setCell (p := ⟨wr.heap.size, 1, none⟩) (Nat.le_refl _) _).setCell (p := ⟨wr.heap.size, 2, none⟩) (Nat.le_refl _) _).setCell (p := ⟨wr.heap.size, 3, none⟩) (Nat.le_refl _) _).setCell (p := ⟨wr.heap.size, 4, none⟩) (Nat.le_refl _) _) (fun hHeld => ?_)
    clear hK K
    try simp only [Act.put, List.setIfInBounds_toArray, List.set_cons_succ, List.set_cons_zero]
    refine wpAnyH_done (by kernel_rfl) ?_ _
    have hG := ((((hg.set_ 0 (.int .i64 0)).set_ 1 (.int .i64 0)).set_ 2 (.string ByteArray.empty)).set_ 3 (.int .i64 0)).set_ 4 (.bool false)
    simp only [List.setIfInBounds_toArray, List.set_cons_succ, List.set_cons_zero] at hG
    have hgR : wr.heap.size ≤ wr.heap.size := Nat.le_refl _
    generalize ((((w1.setCell ⟨wr.heap.size, 0, none⟩ (.int .i64 0)).setCell ⟨wr.heap.size, 1, none⟩ (.int .i64 0)).setCell ⟨wr.heap.size, 2, none⟩ (.string ByteArray.empty)).setCell ⟨wr.heap.size, 3, none⟩ (.int .i64 0)).setCell ⟨wr.heap.size, 4, none⟩ (.bool false) = W9 at *
    clear hg x0 x1 x2 x3 x4 g0 g1 g2 g3 g4
    obtain ⟨y0, y1, y2, y3, y4, -⟩ := (hG.alloc (.cells #[.int .i64 0, .int .i64 0, .string ⟨#[]⟩] 128)).c5
    have hr9 := (hrk.below hHeld).alloc (.cells #[.int .i64 0, .int .i64 0, .string ⟨#[]⟩] 128)
    have hb9 := Besides.of_below (g := R) (ext_alloc hHeld (.cells #[.int .i64 0, .int .i64 0, .string ⟨#[]⟩] 128))
    clear hG hgR
    gi_wp2
    simp only [Exit.noGoto]
    go_end0
    exact ⟨⟨_, rfl⟩, .inl ⟨pre, ⟨by rw [HS.out]; simp, by rw [HS.out]; simpa using hr9⟩, hJ _ _ _ hJk hb9⟩⟩
  | some r =>
   rw [hfv] at HF
   unfold frR at HF
   dsimp only at HF
   rw [frV_nat s p hp] at hfv
   obtain ⟨hok, -, hlen⟩ := frame_dec hfv
   have hfl := frameL_length r
   rw [List.length_drop, list_size, hfl] at hlen
   rw [scanOf_some hfv, List.drop_drop] at hsc
   dsimp only at hsc
   rw [hfl] at hsc
   have hnx : ∃ t, (scanOf s.data.toList).1 = pre ++ r :: t := ⟨_, by rw [hsc]⟩
   have HS := Lib.hid hsc
   have HNX := Lib.hid hnx
   clear hsc hfv hnx hfl
   have hY0 := fun A hA => hY pre r A hA HNX.out
   unfold recE at hY0
   have hop : (1 : Int) ≤ (r.op : Int) := by have := hok.1; omega
   obtain ⟨nx, hnx⟩ : ∃ nx : Nat, p + (14 + r.data.length) = nx := ⟨_, rfl⟩
   rw [← Int.natCast_add, hnx] at HF
   generalize (⟨r.data.toArray⟩ : ByteArray) = D at *
   generalize (r.op : Int) = op at *
   generalize (r.id : Int) = id at *
   clear hok
   gi_wp2
   refine wpIn_wide.2 ?_
   refine wp_region_held_drew (S := (fun w' => Below wr.heap.size wr w')) (by kernel_rfl) (Below.refl _ _).drew (fun hHeld => ?_)
   refine wt_ 0 rfl ?_ (fun wx hSx => by have hx0 := (boxed_kept' hck (hSx.block Bc hck.lt)).cell; have hx1 := (hrk.below hSx).cell 0; have hx2 := (hrk.below hSx).cell 1; simp only [List.getElem?_toArray, List.getElem?_cons_zero, List.getElem?_cons_succ] at hx1 hx2; go_simp; try with_reducible rfl)
   refine wt_ 1 rfl ?_
   refine wt_ 2 rfl ?_
   refine wt_ 3 rfl ?_ (fun wx hSx => by have hx0 := (boxed_kept' hck (hSx.block Bc hck.lt)).cell; have hx1 := (hrk.below hSx).cell 0; have hx2 := (hrk.below hSx).cell 1; simp only [List.getElem?_toArray, List.getElem?_cons_zero, List.getElem?_cons_succ] at hx1 hx2; go_simp; try with_reducible rfl)
   refine wt_ 4 rfl ?_ (fun wx hSx => by have hx0 := (boxed_kept' hck (hSx.block Bc hck.lt)).cell; have hx1 := (hrk.below hSx).cell 0; have hx2 := (hrk.below hSx).cell 1; simp only [List.getElem?_toArray, List.getElem?_cons_zero, List.getElem?_cons_succ] at hx1 hx2; go_simp; try with_reducible rfl)
   refine wt_ 5 rfl ?_
   refine wt_ 6 rfl ?_
   refine wt_ 7 rfl ?_ (fun wx hSx => by have hx0 := (boxed_kept' hck (hSx.block Bc hck.lt)).cell; have hx1 := (hrk.below hSx).cell 0; have hx2 := (hrk.below hSx).cell 1; simp only [List.getElem?_toArray, List.getElem?_cons_zero, List.getElem?_cons_succ] at hx1 hx2; go_simp; try with_reducible rfl)
   try simp only [Act.put, List.setIfInBounds_toArray]
   refine wpAnyH_ready (rs := [8, 9]) (by kernel_rfl) (by simp) ?_
   refine AllReadyH.cons rfl (fun K hK => ?_) (AllReadyH.cons rfl (fun K hK => ?_) AllReadyH.nil)
   ·go_simp
    refine (HF _ (hI0.below (ext_trans hwk hHeld))).mono ?_
    rintro e w1 ⟨rfl, hb1⟩
    have hx1 := ext_trans hHeld hb1
    have hlt1 : wr.heap.size ≤ w1.heap.size := hx1.size
    refine hK.out _ _ (ext_trans hHeld hb1) (fun hHeld => ?_)
    clear hK K
    try simp only [Act.put, List.setIfInBounds_toArray, List.set_cons_succ, List.set_cons_zero]
    refine wpAnyH_ready (rs := [9]) (by kernel_rfl) (by simp) ?_
    refine AllReadyH.cons rfl (fun K hK => ?_) AllReadyH.nil
    go_simp
    refine hK.out _ _ (ext_alloc hHeld _) (fun hHeld => ?_)
    clear hK K
    try simp only [Act.put, List.setIfInBounds_toArray, List.set_cons_succ, List.set_cons_zero]
    refine wpAnyH_ready (rs := [10]) (by kernel_rfl) (by simp) ?_
    refine AllReadyH.cons rfl (fun K hK => ?_) AllReadyH.nil
    go_simp
    refine hK.out _ _ (by first | exact ext_alloc hx1 _ | exact ((((hHeld.setCell (p := ⟨wr.heap.size, 0, none⟩) (Nat.le_refl _) _).setCell (p := ⟨wr.heap.size, 1, none⟩) (Nat.le_refl _) _).setCell (p := ⟨wr.heap.size, 2, none⟩) (Nat.le_refl _) _).setCell (p := ⟨wr.heap.size, 3, none⟩) (Nat.le_refl _) _).setCell (p := ⟨wr.heap.size, 4, none⟩) (Nat.le_refl _) _) (fun hHeld => ?_)
    clear hK K
    try simp only [Act.put, List.setIfInBounds_toArray, List.set_cons_succ, List.set_cons_zero]
    refine wpAnyH_done (by kernel_rfl) ?_ _
    have hG := Blk.new_ w1 237 #[.int .i64 op, .int .i64 id, .string D, .int .i64 (nx : Int), .bool true]
    have hgR := hlt1
    generalize w1.alloc (.cells #[.int .i64 op, .int .i64 id, .string D, .int .i64 (nx : Int), .bool true] 237) = W9 at *
    obtain ⟨y0, y1, y2, y3, y4, -⟩ := (hG.alloc (.cells #[.int .i64 0, .int .i64 0, .string ⟨#[]⟩] 128)).c5
    have hr9 := (hrk.below hHeld).alloc (.cells #[.int .i64 0, .int .i64 0, .string ⟨#[]⟩] 128)
    have hb9 := Besides.of_below (g := R) (ext_alloc hHeld (.cells #[.int .i64 0, .int .i64 0, .string ⟨#[]⟩] 128))
    have hck9 : Boxed (W9.alloc (.cells #[.int .i64 0, .int .i64 0, .string ⟨#[]⟩] 128)) Bc 196 (.pointer (some ⟨R, 0, none⟩)) := boxed_kept' hck ((Below.heap_alloc _ _ _ (Nat.lt_of_lt_of_le hck.lt hHeld.size)).trans (hHeld.block Bc hck.lt))
    have cx9 := hck9.cell
    obtain ⟨r0, r1, -, f1⟩ := hr9.c2
    have hRl := hrk.lt
    have hne1 : ¬ w1.heap.size = R := by omega
    have hne2 : ¬ R = w1.heap.size := by omega
    have hwA : Below w0.heap.size w0 ((W9.alloc (.cells #[.int .i64 0, .int .i64 0, .string ⟨#[]⟩] 128)).setCell ⟨R, 1, none⟩ (.int .i64 (nx : Int))) := (ext_alloc (ext_trans hwk hHeld) _).setCell (by exact hR) _
    have hrA := hr9.set_ 1 (.int .i64 (nx : Int))
    simp only [List.setIfInBounds_toArray, List.set_cons_succ, List.set_cons_zero] at hrA
    have hckA : Boxed ((W9.alloc (.cells #[.int .i64 0, .int .i64 0, .string ⟨#[]⟩] 128)).setCell ⟨R, 1, none⟩ (.int .i64 (nx : Int))) Bc 196 (.pointer (some ⟨R, 0, none⟩)) := (Below.heap_setCell _ _ _ _ (show Bc ≠ R by omega)).trans hck9
    have hy := hY0 _ (hJ _ _ _ hJk (hb9.set_ 1 (.int .i64 (nx : Int))))
    obtain ⟨fnn, tmps, assign, body, hy, hR2⟩ := hy
    have hltn : p < nx := by omega
    have hlen2 : nx ≤ s.size := by omega
    have HNN := Lib.hid hnx
    have HFR := Lib.hid (hrk.cell 1)
    clear hG hgR hnx hrk HF hY0 hr9 hb9 hck9 hlen
    gi_wp2
    refine ⟨fun hd => (by cases hd), hR2.mono ?_⟩
    rintro e W3 (⟨rfl, hJ3, hk3, hk4⟩ | ⟨rfl, hJx3⟩)
    ·have hr3 := hrA.kept (hk3.block R (Nat.lt_succ_self R))
     have hc3 := boxed_kept' hckA hk4
     have hw3 := hwA.trans (hk3.mono (by omega))
     gi_wp2
     refine ⟨⟨pre ++ [r], nx, hlen2, hJ3, hc3, hr3, hw3, ?_⟩, ?_⟩
     ·rw [HS.out, ← HNN.out]; simp [Nat.add_assoc]
     ·rw [hr3.cell 1, HFR.out]
      simp [intOf]
      omega
    ·gi_wp2
     simp only [Exit.noGoto]
     go_end0
     exact ⟨⟨_, rfl⟩, .inr ⟨_, trivial, hJx3⟩⟩
   ·go_simp
    refine hK.out _ _ (ext_alloc hHeld _) (fun hHeld => ?_)
    clear hK K
    try simp only [Act.put, List.setIfInBounds_toArray, List.set_cons_succ, List.set_cons_zero]
    refine wpAnyH_ready (rs := [8]) (by kernel_rfl) (by simp) ?_
    refine AllReadyH.cons rfl (fun K hK => ?_) AllReadyH.nil
    go_simp
    refine (HF _ (hI0.below (ext_trans hwk hHeld))).mono ?_
    rintro e w1 ⟨rfl, hb1⟩
    have hx1 := ext_trans hHeld hb1
    have hg : Blk w1 wr.heap.size 237 #[.int .i64 0, .int .i64 0, .string ⟨#[]⟩, .int .i64 0, .bool false] := Blk.below (w := (wr.alloc (.cells #[.int .i64 0, .int .i64 0, .string ⟨#[]⟩, .int .i64 0, .bool false] 237)).drew) (Blk.new_ wr 237 #[.int .i64 0, .int .i64 0, .string ⟨#[]⟩, .int .i64 0, .bool false]) hb1
    refine hK.out _ _ (ext_trans hHeld hb1) (fun hHeld => ?_)
    clear hK K
    try simp only [Act.put, List.setIfInBounds_toArray, List.set_cons_succ, List.set_cons_zero]
    refine wpAnyH_ready (rs := [10]) (by kernel_rfl) (by simp) ?_
    refine AllReadyH.cons rfl (fun K hK => ?_) AllReadyH.nil
    obtain ⟨x0, x1, x2, x3, x4, g0, g1, g2, g3, g4⟩ := hg.c5
    go_simp
    refine hK.out _ _ (by first | exact ext_alloc hx1 _ | exact ((((hHeld.setCell (p := ⟨wr.heap.size, 0, none⟩) (Nat.le_refl _) _).setCell (p := ⟨wr.heap.size, 1, none⟩) (Nat.le_refl _) _).setCell (p := ⟨wr.heap.size, 2, none⟩) (Nat.le_refl _) _).setCell (p := ⟨wr.heap.size, 3, none⟩) (Nat.le_refl _) _).setCell (p := ⟨wr.heap.size, 4, none⟩) (Nat.le_refl _) _) (fun hHeld => ?_)
    clear hK K
    try simp only [Act.put, List.setIfInBounds_toArray, List.set_cons_succ, List.set_cons_zero]
    refine wpAnyH_done (by kernel_rfl) ?_ _
    have hG := ((((hg.set_ 0 (.int .i64 op)).set_ 1 (.int .i64 id)).set_ 2 (.string D)).set_ 3 (.int .i64 (nx : Int))).set_ 4 (.bool true)
    simp only [List.setIfInBounds_toArray, List.set_cons_succ, List.set_cons_zero] at hG
    have hgR : wr.heap.size ≤ wr.heap.size := Nat.le_refl _
    generalize ((((w1.setCell ⟨wr.heap.size, 0, none⟩ (.int .i64 op)).setCell ⟨wr.heap.size, 1, none⟩ (.int .i64 id)).setCell ⟨wr.heap.size, 2, none⟩ (.string D)).setCell ⟨wr.heap.size, 3, none⟩ (.int .i64 (nx : Int))).setCell ⟨wr.heap.size, 4, none⟩ (.bool true) = W9 at *
    clear hg x0 x1 x2 x3 x4 g0 g1 g2 g3 g4
    obtain ⟨y0, y1, y2, y3, y4, -⟩ := (hG.alloc (.cells #[.int .i64 0, .int .i64 0, .string ⟨#[]⟩] 128)).c5
    have hr9 := (hrk.below hHeld).alloc (.cells #[.int .i64 0, .int .i64 0, .string ⟨#[]⟩] 128)
    have hb9 := Besides.of_below (g := R) (ext_alloc hHeld (.cells #[.int .i64 0, .int .i64 0, .string ⟨#[]⟩] 128))
    have hck9 : Boxed (W9.alloc (.cells #[.int .i64 0, .int .i64 0, .string ⟨#[]⟩] 128)) Bc 196 (.pointer (some ⟨R, 0, none⟩)) := boxed_kept' hck ((Below.heap_alloc _ _ _ (Nat.lt_of_lt_of_le hck.lt hHeld.size)).trans (hHeld.block Bc hck.lt))
    have cx9 := hck9.cell
    obtain ⟨r0, r1, -, f1⟩ := hr9.c2
    have hRl := hrk.lt
    have hne1 : ¬ wr.heap.size = R := by omega
    have hne2 : ¬ R = wr.heap.size := by omega
    have hwA : Below w0.heap.size w0 ((W9.alloc (.cells #[.int .i64 0, .int .i64 0, .string ⟨#[]⟩] 128)).setCell ⟨R, 1, none⟩ (.int .i64 (nx : Int))) := (ext_alloc (ext_trans hwk hHeld) _).setCell (by exact hR) _
    have hrA := hr9.set_ 1 (.int .i64 (nx : Int))
    simp only [List.setIfInBounds_toArray, List.set_cons_succ, List.set_cons_zero] at hrA
    have hckA : Boxed ((W9.alloc (.cells #[.int .i64 0, .int .i64 0, .string ⟨#[]⟩] 128)).setCell ⟨R, 1, none⟩ (.int .i64 (nx : Int))) Bc 196 (.pointer (some ⟨R, 0, none⟩)) := (Below.heap_setCell _ _ _ _ (show Bc ≠ R by omega)).trans hck9
    have hy := hY0 _ (hJ _ _ _ hJk (hb9.set_ 1 (.int .i64 (nx : Int))))
    obtain ⟨fnn, tmps, assign, body, hy, hR2⟩ := hy
    have hltn : p < nx := by omega
    have hlen2 : nx ≤ s.size := by omega
    have HNN := Lib.hid hnx
    have HFR := Lib.hid (hrk.cell 1)
    clear hG hgR hnx hrk HF hY0 hr9 hb9 hck9 hlen
    gi_wp2
    refine ⟨fun hd => (by cases hd), hR2.mono ?_⟩
    rintro e W3 (⟨rfl, hJ3, hk3, hk4⟩ | ⟨rfl, hJx3⟩)
    ·have hr3 := hrA.kept (hk3.block R (Nat.lt_succ_self R))
     have hc3 := boxed_kept' hckA hk4
     have hw3 := hwA.trans (hk3.mono (by omega))
     gi_wp2
     refine ⟨⟨pre ++ [r], nx, hlen2, hJ3, hc3, hr3, hw3, ?_⟩, ?_⟩
     ·rw [HS.out, ← HNN.out]; simp [Nat.add_assoc]
     ·rw [hr3.cell 1, HFR.out]
      simp [intOf]
      omega
    ·gi_wp2
     simp only [Exit.noGoto]
     go_end0
     exact ⟨⟨_, rfl⟩, .inr ⟨_, trivial, hJx3⟩⟩
  -- END
theorem infoR : (Tryz.prog.info? 128).map (fun i => (i.zero, i.size, i.bytes)) = some (some (.agg #[.int .i64 0, .int .i64 0, .string ByteArray.empty]), 3, 32) := by kernel_rfl
def recC (r : RecN) : List Value := [.int .i64 (r.op : Int), .int .i64 (r.id : Int), .string ⟨r.data.toArray⟩]
def cellsR (l : List RecN) : List Value := l.flatMap recC
theorem cellsR_snoc (l : List RecN) (r : RecN) : cellsR (l ++ [r]) = cellsR l ++ recC r := by simp [cellsR]
theorem recC_one (r : RecN) : ∀ u ∈ recC r, u.oneCell' = true := by
 intro u hu
 simp only [recC, List.mem_cons, List.not_mem_nil, or_false] at hu
 obtain rfl | rfl | rfl := hu <;> rfl
def ScanRes (l : List RecN) (n : Nat) (w : World) (e : Ending) (w' : World) : Prop := ∃ V, e = .returned (.tuple #[V, .int .i64 (n : Int)]) ∧ w'.ownsRow w.heap.size 128 3 V l.length (cellsR l) ∧ Below w.heap.size w w'
theorem scan_small (l : List UInt8) : (scanOf l).1.length ≤ l.length := by
 obtain ⟨-, h2, h3, -⟩ := lay_scan (l.length + 1) l (Nat.lt_succ_self _)
 have : ∀ m : List RecN, m.length ≤ (layL m).length := by
  intro m
  induction m with
  | nil => simp
  | cons r m ih =>
   have := frameL_length r
   rw [show layL (r :: m) = frameL r ++ layL m by simp [layL], List.length_append, List.length_cons]
   omega
 have := this (scanOf l).1
 omega
def ScI (d : Nat) (w : World) (pre : List RecN) (W : World) : Prop := ∃ V, Boxed W (d + 1) 132 V ∧ W.ownsRow (d + 5) 128 3 V pre.length (cellsR pre) ∧ Below d w W
set_option maxRecDepth 100000 in
theorem Scan_any (s : ByteArray) (hs : s.size ≤ 1000000) (w : World) (aA aT aN aW aS : Addr) (hI : CInv w aA aT aN aW aS) :
  Calls Tryz.prog 96 #[.string s] w (ScanRes (scanOf s.data.toList).1 (scanOf s.data.toList).2 w) := by
 obtain ⟨i0, hi0, hz0, hz1, hz2⟩ := info_parts infoR
 have hsm := scan_small s.data.toList
 rw [list_size] at hsm
 refine callsIn_wide.1 (callsIn_of_wp_marks (n := 5) Tryz.func96 rfl trivial ?_ rfl)
 simp only [Tryz.ntmps96, List.size_toArray, List.length_cons, List.length_nil, Nat.reduceAdd, Nat.reduceSub, Array.replicate_succ, Array.replicate_zero, List.push_toArray, List.append_toArray, List.nil_append, List.cons_append]
 refine wpIn_wide.2 ?_
 go_wp2_with fail
 refine (records_any ⟨w.heap.size, 0, none⟩ _).mono ?_
 rintro e w5 ⟨rfl, rfl⟩
 go_wp2_with fail
 obtain ⟨d, hd⟩ : ∃ d, w.heap.size = d := ⟨_, rfl⟩
 rw [hd]
 generalize hW5 : ((w.alloc (.cells #[.string s, .int .i64 0] 200)).alloc (.cells #[.slice none 0 0] 132)).alloc (.cells #[.pointer (some ⟨d, 0, none⟩)] 196) = W5
 have hW5s : W5.heap.size = d + 3 := by rw [← hW5]; simp [hd]
 have p1 : Blk W5 d 200 #[.string s, .int .i64 0] := by rw [← hW5]; exact ((Blk.at_ hd.symm).alloc _).alloc _
 have p2 : Boxed W5 (d + 1) 132 (.slice none 0 0) := by rw [← hW5]; exact Blk.alloc (Blk.at_ (by simp [hd])) _
 have p3 : Boxed W5 (d + 1 + 1) 196 (.pointer (some ⟨d, 0, none⟩)) := by rw [← hW5]; exact Blk.at_ (by simp [hd])
 have p7 : Below d w W5 := by
  rw [← hW5]
  exact (((Below.refl _ w).alloc (by omega) _).alloc (by simp; omega) _).alloc (by simp; omega) _
 have p0 : ScI d w [] W5 := ⟨_, p2, own_nil, p7⟩
 clear hW5 p2
 have HD := Lib.hid hd
 have hdw : w.heap.size ≤ d := by omega
 clear hd
 refine wpIn_wide.1 (wpIn_rangeX (n := 5) (gf := 151) (lb := #[.pointer (some ⟨d + 1 + 1, 0, none⟩)]) rfl (by omega) rfl trivial (enters_of Tryz.func151 (by kernel_rfl) rfl)
  (records_seq s hs (d + 1 + 1) d _ aA aT aN aW aS w hI hdw (by omega)) (fun _ => rfl) ?hSt ?hSe (fun h k => ⟨h.1.trans k.1, k.2.trans h.2⟩) ?hKb ?hMb
  (ScI d w) (fun _ _ _ => False) ?hI (fun _ _ _ _ _ h _ _ => h) ?hIM (fun _ _ _ _ h _ => h) p0 ?hround ?hdone (fun _ _ _ _ h _ => h.elim))
 case hSt =>
  intro o o'
  have p8 : Below w.heap.size w W5 := by rw [HD.out]; exact p7
  exact ⟨(p3.alloc _).alloc _, (p1.alloc _).alloc _, ext_alloc (ext_alloc p8 _) _⟩
 case hSe =>
  rintro xs W l o o' hl _ _ ⟨h1, h2⟩
  exact ⟨h1, h2.kept (World.putObj_heap_other (by omega))⟩
 case hKb =>
  intro W l o o' hl ho _
  have hlt := (Array.getElem?_eq_some_iff.1 ho).1
  exact ⟨(Below.refl (d + 1) W).grown (grownBy_putObj' W l _) (by omega) (fun k e => by cases e; omega), World.putObj_heap_other (by omega)⟩
 case hMb =>
  rintro A B hM l o hl ho _
  exact (hM.block l (Array.getElem?_eq_some_iff.1 ho).1 (by omega)).trans ho
 case hI =>
  rintro pre A B row ⟨V, b1, b2, b3⟩ hgr hr
  have := b1.lt
  exact ⟨V, b1.kept hgr (fun e => by have := (hr (d + 1) e.symm).1; omega), own_other b2 hgr (fun r e => (hr r e).2), b3.grown hgr (by omega) (fun r e => by have := (hr r e).1; omega)⟩
 case hIM =>
  rintro pre A B ⟨V, b1, b2, b3⟩ hM
  have := b1.lt
  exact ⟨V, boxed_kept' b1 (hM.block (d + 1) b1.lt (by omega)), own_besides b2 hM (by omega), b3.trans (hM.below (Nat.le_refl _) (by omega))⟩
 case hround =>
  rintro l pre x W ⟨V, b1, b2, b3⟩ ⟨t, ht⟩ hlW
  have hlen := congrArg List.length ht
  rw [List.length_append, List.length_cons] at hlen
  have hb1 := b1.lt
  unfold recE
  gi_wp2
  refine ⟨KeepsFrom.of_grownBy (World.grownBy_alloc W _ none) (fun j hj => by cases hj), ⟨(Below.refl (d + 1) W).alloc (by omega) _, Below.heap_alloc _ _ _ (by omega)⟩, ⟨V, b1.alloc _, b2.alloc _, b3.alloc (by omega) _⟩, ?_⟩
  rintro Wb ⟨V', c1, c2, c3⟩ hWb
  have bx : Blk Wb W.heap.size 128 #[.int .i64 (x.op : Int), .int .i64 (x.id : Int), .string ⟨x.data.toArray⟩] := (hWb _ (by omega)).trans (World.alloc_heap_new W _)
  clear hWb b1 b2 b3
  obtain ⟨m, hm⟩ : ∃ m, pre.length = m := ⟨_, rfl⟩
  rw [hm] at c2 hlen
  have HM := Lib.hid hm
  have HT := Lib.hid ht
  clear hm ht
  obtain ⟨x0, x1, x2, -⟩ := bx.c3
  have cV := c1.cell
  have hn := new_cells Wb (recC x) 128
  have hxl := bx.lt
  have hc1 := c1.lt
  have hone := recC_one x
  have hsn := cellsR_snoc pre x
  unfold recC at hn hone hsn
  generalize (⟨x.data.toArray⟩ : ByteArray) = D at *
  generalize (x.op : Int) = op at *
  generalize (x.id : Int) = id at *
  have HSN := Lib.hid hsn
  clear hsn bx
  gi_wp2_with (gi_at_builtin; refine wpListIn_append_own _ rfl (.tmp 14) (.tmp 16) 132 rfl (d + 5) 128 i0 (.agg #[.int .i64 0, .int .i64 0, .string ByteArray.empty]) 3 32 Tryz.underlying132 hi0 hz0 hz1 hz2 rfl (by omega) V' m (cellsR pre) rfl (c2.alloc _) ⟨Wb.heap.size, 0, none⟩ 1 1 [.int .i64 op, .int .i64 id, .string D] rfl rfl hn hone (by unfold maxLen; omega) (by omega) (by simp; omega) ?_; intro v' w3 hown3 hgrow _; obtain ⟨A', c', rfl⟩ := own_form hown3; have hbx := (c1.alloc (.cells #[.int .i64 op, .int .i64 id, .string D] 128)).kept hgrow (fun e => by have := (c2.lt _ e.symm).1; omega); have cbx := hbx.cell; have fbx := hbx.frozen)
  have k1 := (KeepsOthers.alloc Wb (.cells #[.int .i64 op, .int .i64 id, .string D] 128)).trans (KeepsOthers.of_grownBy hgrow (fun j o e ho => own_cells (c2.alloc _) e ho))
  have k2 : Below (d + 1) Wb w3 := below_append ((Below.refl (d + 1) Wb).alloc (by omega) _) (c2.alloc _) (by omega) (by omega) hgrow
  have k3 : w3.heap[d + 1 + 1]? = Wb.heap[d + 1 + 1]? := (hgrow.block (d + 1 + 1) (by simp; omega) (fun e => by have := (c2.lt _ e.symm).1; omega)).trans (Below.heap_alloc _ _ _ (by omega))
  exact ⟨(k1.trans (KeepsOthers.setCell w3 _ _)).from _, ⟨k2.setCell (p := ⟨d + 1, 0, none⟩) (Nat.le_refl _) _, (Below.heap_setCell _ _ _ _ (show d + 1 + 1 ≠ d + 1 by omega)).trans k3⟩,
   ⟨.slice A' (m + 1) c', hbx.set _, by rw [List.length_append, HM.out, HSN.out]; exact own_besides hown3 ((Besides.refl (d + 1) w3).set_ 0 _) (by omega), (c3.trans (k2.mono (by omega))).setCell (p := ⟨d + 1, 0, none⟩) (show d ≤ d + 1 by omega) _⟩⟩
 case hdone =>
  rintro xs W ⟨rfl, hbk⟩ ⟨V, b1, b2, b3⟩ hD
  obtain ⟨A', c', rfl⟩ := own_form b2
  have cV := b1.cell
  obtain ⟨-, r1, -⟩ := hbk.c2
  obtain ⟨recs, hrec⟩ : ∃ l, (scanOf s.data.toList).1 = l := ⟨_, rfl⟩
  obtain ⟨q, hq⟩ : ∃ q, (scanOf s.data.toList).2 = q := ⟨_, rfl⟩
  rw [hq] at r1
  have HR := Lib.hid hrec
  have HQ := Lib.hid hq
  clear hrec hq hbk
  go_wp2_with fail
  go_quiet (fail)
  go_wp2_with fail
  have hD2 : (W.drewN nq).heap[W5.heap.size]? = some (.deferred (some [])) := hD
  have b2' : (W.drewN nq).ownsRow (d + 5) 128 3 (.slice A' (scanOf s.data.toList).1.length c') (scanOf s.data.toList).1.length (cellsR (scanOf s.data.toList).1) := b2
  have b3' : Below d w (W.drewN nq) := ⟨b3.os, b3.tape, b3.output, b3.size, b3.block⟩
  refine ⟨by simp, .inl ⟨_, _, rfl, run_takeDeferred hD2, ?_⟩⟩
  refine ⟨_, results_tmp2 rfl _ _ _, _, by rw [HQ.out]; rfl, ?_, ?_⟩
  ·rw [HD.out]
   exact own_base (own_other b2' (grownBy_putObj' _ W5.heap.size _) (fun r e => by cases e; exact ⟨_, hD2, rfl⟩)) (by omega)
  ·rw [HD.out]
   exact b3'.grown (grownBy_putObj' _ W5.heap.size _) (by have := b1.lt; show d ≤ W.heap.size; omega) (fun k e => by cases e; omega)
end Go.Proofs.YtmebjdbkngehiaaGreatDoor
