/-
  Package nums: the walk of Bytes. Conditions: the listed variables hold three different errors of errors.New's make ('NInv').
-/
import Derived.Test.YtmebjdbkngehiaaGreatDoorQgD
import Derived.Laws.EntriesVeiled
namespace Go.Proofs.YtmebjdbkngehiaaGreatDoor
open Go.RowKit
set_option maxHeartbeats 1000000
def bytesErr (okW fits : Bool) : Int := if okW then (if fits then 0 else 10) else 2
theorem bytes_any (n wd : Int) (w : World) :
  Calls Tryz.prog 159 #[.int .i64 n, .int .i64 wd] w fun e w' =>
   e = .returned (.func (.func 176) #[] #[.pointer (some ⟨w.heap.size + 1, 0, none⟩), .pointer (some ⟨w.heap.size, 0, none⟩)]) ∧
   (w.alloc (.cells #[.int .i64 n] 3)).alloc (.cells #[.int .i64 wd] 3) = w' := by
 go_enter Tryz.func159, Tryz.ntmps159
 go_wp2
 go_ret
 exact ⟨rfl, rfl⟩
theorem infoU8 : (Tryz.prog.info? 5).map (fun i => (i.zero, i.size, i.bytes)) = some (some (.int .u8 0), 1, 1) := by kernel_rfl
theorem Bytes_N (n wd : Int) (w : World) (aN aW aS : Addr) (hI : NInv w aN aW aS) (hk : okNum n = false) :
  Calls Tryz.prog 132 #[.int .i64 n, .int .i64 wd] w (Ret (.tuple #[.string ByteArray.empty, .int .i64 (bytesErr (okWidth wd) false)]) w) := by
 have hN := hI.cN
 have hlN := cell_lt hN
 have HK := Lib.hid hk
 clear hk
 go_enter Tryz.func132, Tryz.ntmps132
 go_wp2_with fail
 have hI0 := hI.below (ext_new w (.cells #[.int .i64 wd] 3))
 have c0 : (w.alloc (.cells #[.int .i64 wd] 3)).cell? ⟨w.heap.size, 0, none⟩ = some (.int .i64 wd) := by simp
 have c1 := hI0.cN
 have hE0 := ext_new w (.cells #[.int .i64 wd] 3)
 generalize hW0 : w.alloc (.cells #[.int .i64 wd] 3) = W0 at *
 have HW0 := Lib.hid hW0
 clear hW0 hN hlN
 refine wp_region_held_drew (S := fun w' => Below W0.heap.size W0 w') (by kernel_rfl) (Below.refl _ _).drew (fun hHeld => ?_)
 refine wt_ 0 rfl ?_ (fun wx hSx => by have hx0 := cell_later hSx c0; have hx1 := cell_later hSx c1; unfold ErrV at hx1; go_simp; try with_reducible rfl)
 refine wt_ 2 rfl ?_
 refine wt_ 16 rfl ?_ (fun wx hSx => by have hx0 := cell_later hSx c0; have hx1 := cell_later hSx c1; unfold ErrV at hx1; go_simp; try with_reducible rfl)
 try simp only [Act.put, List.setIfInBounds_toArray]
 refine wpAnyH_ready (rs := [1]) (by kernel_rfl) (by simp) ?_
 refine AllReadyH.cons rfl (fun K hK => ?_) AllReadyH.nil
 go_simp
 refine (width_any wd _ aW (hI0.below hHeld).cW).mono ?_
 rintro e w1 ⟨rfl, hb1⟩
 try go_wp2_with fail
 refine hK.out _ _ (ext_trans hHeld hb1) (fun hHeld => ?_)
 clear hK K
 try simp only [Act.put, List.setIfInBounds_toArray, List.set_cons_succ, List.set_cons_zero]
 refine wpAnyH_ready (rs := [3]) (by kernel_rfl) (by simp) ?_
 refine AllReadyH.cons rfl (fun K hK => ?_) AllReadyH.nil
 go_simp
 refine (Right_any n _).mono ?_
 rintro e w1x ⟨rfl, rfl⟩
 rw [HK.out]
 try go_wp2_with fail
 refine hK.out _ _ hHeld (fun hHeld => ?_)
 clear hK K
 refine wt_ 4 rfl ?_
 refine wn_ 5 rfl ?_
 refine wn_ 6 rfl ?_
 refine wn_ 7 rfl ?_
 refine wn_ 8 rfl ?_
 refine wn_ 9 rfl ?_
 refine wn_ 10 rfl ?_
 refine wn_ 11 rfl ?_
 refine wn_ 12 rfl ?_
 refine wn_ 13 rfl ?_
 refine wn_ 14 rfl ?_
 refine wt_ 15 rfl ?_
 refine wt_ 17 rfl ?_
 try simp only [Act.put, List.setIfInBounds_toArray]
 refine wpAnyH_ready (rs := [18]) (by kernel_rfl) (by simp) ?_
 refine AllReadyH.cons rfl (fun K hK => ?_) AllReadyH.nil
 go_simp
 refine hK.out _ _ (ext_alloc hHeld _) (fun hHeld => ?_)
 clear hK K
 try simp only [Act.put, List.setIfInBounds_toArray, List.set_cons_succ, List.set_cons_zero]
 refine wpAnyH_ready (rs := [19]) (by kernel_rfl) (by simp) ?_
 refine AllReadyH.cons rfl (fun K hK => ?_) AllReadyH.nil
 go_simp
 refine (first2_new _ _ _ _ _).mono ?_
 rintro e w3 ⟨rfl, hb3⟩
 try go_wp2_with fail
 refine hK.out _ _ (ext_trans hHeld hb3) (fun hHeld => ?_)
 clear hK K
 refine wt_ 20 rfl ?_
 try simp only [Act.put, List.setIfInBounds_toArray]
 refine wpAnyH_done (by kernel_rfl) ?_ _
 have hcw : okWidth wd = false ∨ okWidth wd = true := by cases okWidth wd <;> simp
 rcases hcw with hkw | hkw
 ·rw [hkw]
  simp only [firstErr, errOf, ErrV, Bool.false_eq_true, if_false]
  go_wp2_with fail
  refine (eithers_W ByteArray.empty _ aN aW aS (hI0.below hHeld)).mono ?_
  rintro e w5 ⟨rfl, rfl⟩
  go_wp2_with fail
  go_ret2
  exact ⟨by first | rfl | (rw [hkw]; rfl), ext_trans hE0 hHeld⟩
 ·rw [hkw]
  simp only [firstErr, errOf, ErrV, Bool.false_eq_true, if_false, if_true]
  go_wp2_with fail
  refine (eithers_N ByteArray.empty _ aN aW aS (hI0.below hHeld)).mono ?_
  rintro e w5 ⟨rfl, rfl⟩
  go_wp2_with fail
  go_ret2
  exact ⟨by first | rfl | (rw [hkw]; rfl), ext_trans hE0 hHeld⟩
theorem Bytes_W1 (n wd : Int) (w : World) (aN aW aS : Addr) (hI : NInv w aN aW aS) (hk : okNum n = true) (hw : 6 < wd) (hkw : okWidth wd = false) :
  Calls Tryz.prog 132 #[.int .i64 n, .int .i64 wd] w (Ret (.tuple #[.string ByteArray.empty, .int .i64 2]) w) := by
 have HKW := Lib.hid hkw
 clear hkw
 have hN := hI.cN
 have hlN := cell_lt hN
 have HK := Lib.hid hk
 clear hk
 go_enter Tryz.func132, Tryz.ntmps132
 go_wp2_with fail
 have hI0 := hI.below (ext_new w (.cells #[.int .i64 wd] 3))
 have c0 : (w.alloc (.cells #[.int .i64 wd] 3)).cell? ⟨w.heap.size, 0, none⟩ = some (.int .i64 wd) := by simp
 have c1 := hI0.cN
 have hE0 := ext_new w (.cells #[.int .i64 wd] 3)
 generalize hW0 : w.alloc (.cells #[.int .i64 wd] 3) = W0 at *
 have HW0 := Lib.hid hW0
 clear hW0 hN hlN
 refine wp_region_held_drew (S := fun w' => Below W0.heap.size W0 w') (by kernel_rfl) (Below.refl _ _).drew (fun hHeld => ?_)
 refine wt_ 0 rfl ?_ (fun wx hSx => by have hx0 := cell_later hSx c0; have hx1 := cell_later hSx c1; unfold ErrV at hx1; go_simp; try with_reducible rfl)
 refine wt_ 2 rfl ?_
 refine wt_ 16 rfl ?_ (fun wx hSx => by have hx0 := cell_later hSx c0; have hx1 := cell_later hSx c1; unfold ErrV at hx1; go_simp; try with_reducible rfl)
 try simp only [Act.put, List.setIfInBounds_toArray]
 refine wpAnyH_ready (rs := [1]) (by kernel_rfl) (by simp) ?_
 refine AllReadyH.cons rfl (fun K hK => ?_) AllReadyH.nil
 go_simp
 refine (width_any wd _ aW (hI0.below hHeld).cW).mono ?_
 rintro e w1 ⟨rfl, hb1⟩
 try go_wp2_with fail
 refine hK.out _ _ (ext_trans hHeld hb1) (fun hHeld => ?_)
 clear hK K
 try simp only [Act.put, List.setIfInBounds_toArray, List.set_cons_succ, List.set_cons_zero]
 refine wpAnyH_ready (rs := [3]) (by kernel_rfl) (by simp) ?_
 refine AllReadyH.cons rfl (fun K hK => ?_) AllReadyH.nil
 go_simp
 refine (Right_any n _).mono ?_
 rintro e w1x ⟨rfl, rfl⟩
 rw [HK.out]
 try go_wp2_with fail
 refine hK.out _ _ hHeld (fun hHeld => ?_)
 clear hK K
 refine wt_ 4 rfl ?_
 refine wt_ 5 rfl ?_ (fun wx hSx => by have hx0 := cell_later hSx c0; have hx1 := cell_later hSx c1; unfold ErrV at hx1; go_simp; try with_reducible rfl)
 refine wt_ 6 rfl ?_
 refine wt_ 7 rfl ?_
 refine wn_ 8 rfl ?_
 refine wn_ 9 rfl ?_
 refine wn_ 10 rfl ?_
 refine wn_ 11 rfl ?_
 refine wn_ 12 rfl ?_
 refine wn_ 13 rfl ?_
 refine wt_ 14 rfl ?_
 refine wt_ 15 rfl ?_
 refine wt_ 17 rfl ?_
 try simp only [Act.put, List.setIfInBounds_toArray]
 refine wpAnyH_ready (rs := [18]) (by kernel_rfl) (by simp) ?_
 refine AllReadyH.cons rfl (fun K hK => ?_) AllReadyH.nil
 go_simp
 refine hK.out _ _ (ext_alloc hHeld _) (fun hHeld => ?_)
 clear hK K
 try simp only [Act.put, List.setIfInBounds_toArray, List.set_cons_succ, List.set_cons_zero]
 refine wpAnyH_ready (rs := [19]) (by kernel_rfl) (by simp) ?_
 refine AllReadyH.cons rfl (fun K hK => ?_) AllReadyH.nil
 go_simp
 refine (first2_new _ _ _ _ _).mono ?_
 rintro e w3 ⟨rfl, hb3⟩
 try go_wp2_with fail
 refine hK.out _ _ (ext_trans hHeld hb3) (fun hHeld => ?_)
 clear hK K
 refine wt_ 20 rfl ?_
 try simp only [Act.put, List.setIfInBounds_toArray]
 refine wpAnyH_done (by kernel_rfl) ?_ _
 rw [HKW.out]
 simp only [firstErr, errOf, ErrV, Bool.false_eq_true, if_false, if_true]
 go_wp2_with fail
 refine (eithers_W ByteArray.empty _ aN aW aS (hI0.below hHeld)).mono ?_
 rintro e w5 ⟨rfl, rfl⟩
 go_wp2_with fail
 go_ret2
 exact ⟨rfl, ext_trans hE0 hHeld⟩
theorem Bytes_W2 (n wd : Int) (w : World) (aN aW aS : Addr) (hI : NInv w aN aW aS) (hk : okNum n = true) (hw : wd ≤ 0) :
  Calls Tryz.prog 132 #[.int .i64 n, .int .i64 wd] w (Ret (.tuple #[.string ByteArray.empty, .int .i64 2]) w) := by
 have hkw : okWidth wd = false := by simp [okWidth]; omega
 have HKW := Lib.hid hkw
 clear hkw
 have hd6 : decide (6 < wd) = false := by simp; omega
 have hmx : (if wd < 0 then 0 else wd) = 0 := by split <;> omega
 have hws : IntKind.i64.wrap 0 = 0 := by decide
 have hN := hI.cN
 have hlN := cell_lt hN
 have HK := Lib.hid hk
 clear hk
 go_enter Tryz.func132, Tryz.ntmps132
 go_wp2_with fail
 have hI0 := hI.below (ext_new w (.cells #[.int .i64 wd] 3))
 have c0 : (w.alloc (.cells #[.int .i64 wd] 3)).cell? ⟨w.heap.size, 0, none⟩ = some (.int .i64 wd) := by simp
 have c1 := hI0.cN
 have hE0 := ext_new w (.cells #[.int .i64 wd] 3)
 generalize hW0 : w.alloc (.cells #[.int .i64 wd] 3) = W0 at *
 have HW0 := Lib.hid hW0
 clear hW0 hN hlN
 refine wp_region_held_drew (S := fun w' => Below W0.heap.size W0 w') (by kernel_rfl) (Below.refl _ _).drew (fun hHeld => ?_)
 refine wt_ 0 rfl ?_ (fun wx hSx => by have hx0 := cell_later hSx c0; have hx1 := cell_later hSx c1; unfold ErrV at hx1; go_simp; try with_reducible rfl)
 refine wt_ 2 rfl ?_
 refine wt_ 16 rfl ?_ (fun wx hSx => by have hx0 := cell_later hSx c0; have hx1 := cell_later hSx c1; unfold ErrV at hx1; go_simp; try with_reducible rfl)
 try simp only [Act.put, List.setIfInBounds_toArray]
 refine wpAnyH_ready (rs := [1]) (by kernel_rfl) (by simp) ?_
 refine AllReadyH.cons rfl (fun K hK => ?_) AllReadyH.nil
 go_simp
 refine (width_any wd _ aW (hI0.below hHeld).cW).mono ?_
 rintro e w1 ⟨rfl, hb1⟩
 try go_wp2_with fail
 refine hK.out _ _ (ext_trans hHeld hb1) (fun hHeld => ?_)
 clear hK K
 try simp only [Act.put, List.setIfInBounds_toArray, List.set_cons_succ, List.set_cons_zero]
 refine wpAnyH_ready (rs := [3]) (by kernel_rfl) (by simp) ?_
 refine AllReadyH.cons rfl (fun K hK => ?_) AllReadyH.nil
 go_simp
 refine (Right_any n _).mono ?_
 rintro e w1x ⟨rfl, rfl⟩
 rw [HK.out]
 try go_wp2_with fail
 refine hK.out _ _ hHeld (fun hHeld => ?_)
 clear hK K
 refine wt_ 4 rfl ?_
 refine wt_ 5 rfl ?_ (fun wx hSx => by have hx0 := cell_later hSx c0; have hx1 := cell_later hSx c1; unfold ErrV at hx1; go_simp; try with_reducible rfl)
 refine wt_ 6 rfl ?_
 refine wt_ 7 rfl ?_
 refine wt_ 8 rfl ?_
 refine wt_ 9 rfl ?_ (fun wx hSx => by have hx0 := cell_later hSx c0; have hx1 := cell_later hSx c1; unfold ErrV at hx1; go_simp; try with_reducible rfl)
 refine wt_ 10 rfl ?_
 refine wt_ 11 rfl ?_
 refine wt_ 12 rfl ?_
 refine wt_ 13 rfl ?_
 refine wt_ 14 rfl ?_
 refine wt_ 15 rfl ?_
 refine wt_ 17 rfl ?_
 try simp only [Act.put, List.setIfInBounds_toArray]
 refine wpAnyH_ready (rs := [18]) (by kernel_rfl) (by simp) ?_
 refine AllReadyH.cons rfl (fun K hK => ?_) AllReadyH.nil
 go_simp
 refine hK.out _ _ (ext_alloc hHeld _) (fun hHeld => ?_)
 clear hK K
 try simp only [Act.put, List.setIfInBounds_toArray, List.set_cons_succ, List.set_cons_zero]
 refine wpAnyH_ready (rs := [19]) (by kernel_rfl) (by simp) ?_
 refine AllReadyH.cons rfl (fun K hK => ?_) AllReadyH.nil
 go_simp
 refine (first2_new _ _ _ _ _).mono ?_
 rintro e w3 ⟨rfl, hb3⟩
 try go_wp2_with fail
 refine hK.out _ _ (ext_trans hHeld hb3) (fun hHeld => ?_)
 clear hK K
 refine wt_ 20 rfl ?_
 try simp only [Act.put, List.setIfInBounds_toArray]
 refine wpAnyH_done (by kernel_rfl) ?_ _
 rw [HKW.out]
 simp only [firstErr, errOf, ErrV, Bool.false_eq_true, if_false]
 go_wp2_with fail
 refine (eithers_W ByteArray.empty _ aN aW aS (hI0.below hHeld)).mono ?_
 rintro e w5 ⟨rfl, rfl⟩
 go_wp2_with fail
 go_ret2
 exact ⟨rfl, ext_trans hE0 hHeld⟩
end Go.Proofs.YtmebjdbkngehiaaGreatDoor
