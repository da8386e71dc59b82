/-
  Package nums: the walk of Bytes where the width may be and the number fits. Conditions: the listed variables hold three different errors of errors.New's make ('NInv').
-/
import Derived.Test.YtmebjdbkngehiaaGreatDoorNumsF
import Derived.Shelf.Abstract
namespace Go.Proofs.YtmebjdbkngehiaaGreatDoor
open Go.RowKit Go.Shelf
set_option maxHeartbeats 1000000
variable {p m : Nat}
attribute [local go_sem] Oper.semAt_some
theorem wrap_small (x : Int) (h : 0 ≤ x) (h' : x ≤ 1000000) : IntKind.i64.wrap x = x := by
 exact IntWalk.i64_in x (by omega)
theorem shr_cast (p m : Nat) : (p : Int) / 2 ^ (8 * m) = ((p / 256 ^ m : Nat) : Int) := by
 have e2 : (2 : Nat) ^ (8 * m) = 256 ^ m := by rw [Nat.pow_mul]
 rw [← e2]
 simp
theorem shr_fit (h : p < 256 ^ m) : ((p : Int) / 2 ^ (8 * m) == 0) = true := by
 rw [shr_cast, Nat.div_eq_of_lt h]; rfl
theorem shr_not (h : ¬ p < 256 ^ m) : ((p : Int) / 2 ^ (8 * m) == 0) = false := by
 rw [shr_cast]
 have h0 : 0 < 256 ^ m := Nat.pow_pos (by omega)
 have : 1 ≤ p / 256 ^ m := (Nat.le_div_iff_mul_le h0).2 (by omega)
 exact beq_eq_false_iff_ne.2 (by omega)
theorem Bytes_ok2 (p m : Nat) (w : World) (aN aW aS : Addr) (hI : NInv w aN aW aS) (hk : okNum (p : Int) = true) (hm1 : 1 ≤ m) (hm6 : m ≤ 6) (hp : p ≤ 9223372036854775807) (hfit : p < 256 ^ m) :
  Calls Tryz.prog 132 #[.int .i64 (p : Int), .int .i64 (m : Int)] w (Ret (.tuple #[.string ⟨(digits m p).toArray⟩, .int .i64 0]) w) := by
 have hw8 : m ≤ 8 := by omega
 have hkw : okWidth (m : Int) = true := by simp [okWidth]; omega
 have HKW := Lib.hid hkw
 clear hkw
 have hd6 : decide (6 < (m : Int)) = false := by simp; omega
 have hws : IntKind.i64.wrap (8 * (m : Int)) = 8 * (m : Int) := wrap_small _ (by omega) (by omega)
 have hmx : (if (m : Int) < 0 then 0 else (m : Int)) = (m : Int) := if_neg (by omega)
 have hq0 := shr_fit hfit
 have hq1 : ((p : Int) / 2 ^ (8 * (m : Int)).toNat == 0) = true := by rw [show (8 * (m : Int)).toNat = 8 * m by omega]; exact hq0
 clear hfit
 have hN := hI.cN
 have hlN := cell_lt hN
 have HK := Lib.hid hk
 clear hk
 refine callsIn_wide.1 (callsIn_of_wp_marks (n := 5) Tryz.func132 rfl trivial ?_ rfl)
 simp only [Tryz.ntmps132, List.size_toArray, List.length_cons, List.length_nil, Nat.reduceAdd, Nat.reduceSub, Array.replicate_succ, Array.replicate_zero, List.push_toArray, List.append_toArray, List.nil_append, List.cons_append]
 refine wpIn_wide.2 ?_
 go_wp2_with fail
 have hI0 := hI.below (ext_new w (.cells #[.int .i64 (m : Int)] 3))
 have c0 : (w.alloc (.cells #[.int .i64 (m : Int)] 3)).cell? ⟨w.heap.size, 0, none⟩ = some (.int .i64 (m : Int)) := by simp
 have hB0 : Boxed (w.alloc (.cells #[.int .i64 (m : Int)] 3)) w.heap.size 3 (.int .i64 (m : Int)) := Boxed.new _ _ _
 have c1 := hI0.cN
 have hE0 := ext_new w (.cells #[.int .i64 (m : Int)] 3)
 generalize hW0 : w.alloc (.cells #[.int .i64 (m : Int)] 3) = W0 at *
 have HW0 := Lib.hid hW0
 clear hW0 hN hlN
 refine wp_region_noPanic ?_
 refine wp_region_held_drew (S := fun w' => Below W0.heap.size W0 w') (by kernel_rfl) (Below.refl _ _).drew (fun hHeld => ?_)
 refine wt_ 0 rfl ?_ (fun wx hSx => by have hx0 := cell_later hSx c0; have hx1 := cell_later hSx c1; unfold ErrV at hx1; go_simp; try with_reducible rfl)
 refine wt_ 2 rfl ?_
 refine wt_ 16 rfl ?_ (fun wx hSx => by have hx0 := cell_later hSx c0; have hx1 := cell_later hSx c1; unfold ErrV at hx1; go_simp; try with_reducible rfl)
 try simp only [Act.put, List.setIfInBounds_toArray]
 refine wpAnyH_ready (rs := [1]) (by kernel_rfl) (by simp) ?_
 refine AllReadyH.cons rfl (fun K hK => ?_) AllReadyH.nil
 go_simp
 refine (width_any (m : Int) _ aW (hI0.below hHeld).cW).mono ?_
 rintro e w1 ⟨rfl, hb1⟩
 try go_wp2_with fail
 refine hK.out _ _ (ext_trans hHeld hb1) (fun hHeld => ?_)
 clear hK K
 try simp only [Act.put, List.setIfInBounds_toArray, List.set_cons_succ, List.set_cons_zero]
 refine wpAnyH_ready (rs := [3]) (by kernel_rfl) (by simp) ?_
 refine AllReadyH.cons rfl (fun K hK => ?_) AllReadyH.nil
 go_simp
 refine (Right_any (p : Int) _).mono ?_
 rintro e w1x ⟨rfl, rfl⟩
 rw [HK.out]
 try go_wp2_with fail
 refine hK.out _ _ hHeld (fun hHeld => ?_)
 clear hK K
 refine wt_ 4 rfl ?_
 refine wt_ 5 rfl ?_ (fun wx hSx => by have hx0 := cell_later hSx c0; have hx1 := cell_later hSx c1; unfold ErrV at hx1; go_simp; try with_reducible rfl)
 refine wt_ 6 rfl ?_
 refine wt_ 7 rfl ?_
 refine wt_ 8 rfl ?_
 refine wt_ 9 rfl ?_ (fun wx hSx => by have hx0 := cell_later hSx c0; have hx1 := cell_later hSx c1; unfold ErrV at hx1; go_simp; try with_reducible rfl)
 refine wt_ 10 rfl ?_
 refine wt_ 11 rfl ?_
 refine wt_ 12 rfl ?_
 refine wt_ 13 rfl ?_
 refine wt_ 14 rfl ?_
 refine wt_ 15 rfl ?_
 refine wt_ 17 rfl ?_
 try simp only [Act.put, List.setIfInBounds_toArray]
 refine wpAnyH_ready (rs := [18]) (by kernel_rfl) (by simp) ?_
 refine AllReadyH.cons rfl (fun K hK => ?_) AllReadyH.nil
 go_simp
 refine hK.out _ _ (ext_alloc hHeld _) (fun hHeld => ?_)
 clear hK K
 try simp only [Act.put, List.setIfInBounds_toArray, List.set_cons_succ, List.set_cons_zero]
 refine wpAnyH_ready (rs := [19]) (by kernel_rfl) (by simp) ?_
 refine AllReadyH.cons rfl (fun K hK => ?_) AllReadyH.nil
 go_simp
 refine (first2_new _ _ _ _ _).mono ?_
 rintro e w3 ⟨rfl, hb3⟩
 try go_wp2_with fail
 refine hK.out _ _ (ext_trans hHeld hb3) (fun hHeld => ?_)
 clear hK K
 refine wt_ 20 rfl ?_
 try simp only [Act.put, List.setIfInBounds_toArray]
 refine wpAnyH_done (by kernel_rfl) ?_ _
 refine NoPanic.normal ?_
 rw [HKW.out]
 simp only [firstErr, errOf, if_true]
 have hB3 : Boxed w3 w.heap.size 3 (.int .i64 (m : Int)) := boxed_kept hB0 (hHeld.block _ hB0.lt)
 have cW3 := hB3.cell
 obtain ⟨i0, hi, hz0, hz1, hz2⟩ := info_parts infoU8
 have HZ2 := Lib.hid hz2
 clear hz2 HKW HK hb1 hb3
 have hzm : i0.bytes * m ≤ 281474976710656 := by rw [HZ2.out]; omega
 have hmm : m ≤ maxLen := by unfold maxLen; omega
 go_wp2_with (at_make; refine wpList_make_full _ rfl _ _ 36 rfl w3.heap.size 5 i0 (.int .u8 0) 1 Tryz.underlying36 hi hz0 hz1 .i64 .i64 (m : Int) (m : Int) m rfl rfl rfl rfl hzm hmm (Nat.le_refl _) ?_; intro w4 hown hgrow; have hB4 := hB3.kept hgrow (by simp); have cW4 := hB4.cell; have hl4 := hB4.lt)
 refine (bytes_any (p : Int) (m : Int) _).mono ?_
 rintro e w5 ⟨rfl, rfl⟩
 go_wp2_with fail
 obtain ⟨s, hs⟩ : ∃ s, w4.heap.size = s := ⟨_, rfl⟩
 obtain ⟨g, hg⟩ : ∃ g, w3.heap.size = g := ⟨_, rfl⟩
 obtain ⟨d, hd⟩ : ∃ d, w.heap.size = d := ⟨_, rfl⟩
 have hBw : Below d w w4 := by
  rw [← hd]
  exact (ext_trans hE0 hHeld).trans ((Below.refl _ w3).grown hgrow (ext_trans hE0 hHeld).size (fun k e => by cases e))
 have hgs : g < s := by rw [← hg, ← hs]; exact (hown.lt _ rfl).2
 have hds : d < s := by rw [← hs, ← hd]; exact hl4
 have hdg : d < g := by rw [← hd, ← hg]; exact hB3.lt
 rw [hs, hg, hd]
 rw [hg] at hown
 rw [hd] at hB4
 have q1 : Boxed (w4.alloc (.cells #[.slice (some ⟨g, 0, none⟩) m m] 36)) s 36 (.slice (some ⟨g, 0, none⟩) m m) := by rw [← hs]; exact Boxed.new _ _ _
 clear cW3 cW4 hB3 c0 c1 hB0 HW0 hE0 hgrow hl4
 generalize hW5 : (((w4.alloc (.cells #[.slice (some ⟨g, 0, none⟩) m m] 36)).alloc (.cells #[.func (.func 158) #[] #[.pointer (some ⟨s, 0, none⟩), .pointer (some ⟨d, 0, none⟩)]] 244)).alloc (.cells #[.int .i64 (p : Int)] 3)).alloc (.cells #[.int .i64 (m : Int)] 3) = W5
 have hW5s : W5.heap.size = s + 4 := by rw [← hW5]; simp [hs]
 have p1 : Boxed W5 s 36 (.slice (some ⟨g, 0, none⟩) m m) := by rw [← hW5]; exact ((q1.alloc _).alloc _).alloc _
 have p2 : Boxed W5 (s + 1) 244 (.func (.func 158) #[] #[.pointer (some ⟨s, 0, none⟩), .pointer (some ⟨d, 0, none⟩)]) := by
  rw [← hW5]; exact ((boxed_at (by simp [hs])).alloc _).alloc _
 have p3 : Boxed W5 (s + 1 + 1) 3 (.int .i64 (p : Int)) := by rw [← hW5]; exact (boxed_at (by simp [hs])).alloc _
 have p4 : Boxed W5 (s + 1 + 1 + 1) 3 (.int .i64 (m : Int)) := by rw [← hW5]; exact boxed_at (by simp [hs])
 have p5 : Boxed W5 d 3 (.int .i64 (m : Int)) := by rw [← hW5]; exact (((hB4.alloc _).alloc _).alloc _).alloc _
 have p6 : W5.ownsRow g 5 1 (.slice (some ⟨g, 0, none⟩) m m) m (cellsAt m p 0) := by
  rw [← hW5, cellsAt_zero, ← toList_madeCells_one]
  simp only [Nat.mul_one] at hown
  exact (((hown.alloc _).alloc _).alloc _).alloc _
 have p7 : Below d w W5 := by rw [← hW5]; exact (((hBw.alloc (by omega) _).alloc (by simp; omega) _).alloc (by simp; omega) _).alloc (by simp; omega) _
 clear hW5 q1 hown hB4 hBw
 have hkeep : ∀ (k : Nat) (A B : World) (row : Option Nat), BytesI m p s g d w k A → A.grownBy B row → (∀ r, row = some r → r ≠ s ∧ r ≠ s + 1 ∧ r ≠ d ∧ r ≠ g ∧ d ≤ r) → BytesI m p s g d w k B := fun k A B row h hgr hr => bytesI_kept h hgr hr
 refine wpIn_wide.1 (wpIn_rangeM (n := 5) (gf := 176) (lb := #[.pointer (some ⟨s + 1 + 1 + 1, 0, none⟩), .pointer (some ⟨s + 1 + 1, 0, none⟩)]) rfl (by omega) rfl trivial (enters_of Tryz.func176 (by kernel_rfl) rfl)
  (bytes_seq m p hw8 hp (s + 1 + 1 + 1) (s + 1 + 1) _) (fun _ => rfl) ?hSt (fun h k => k.trans h) ?hKb ?hMb
  (fun pre W => BytesI m p s g d w pre.length W) (fun _ _ _ => False) ?hI (fun _ _ _ _ _ h _ _ => h) ?hIM (fun _ _ _ _ h _ => h) ⟨p1, p2, p5, p6, p7⟩ ?hround ?hdone (fun _ _ _ _ h _ => h.elim))
 case hSt => intro o o'; exact ⟨(p4.alloc _).alloc _, (p3.alloc _).alloc _⟩
 case hKb =>
  intro W l o o' hl _ _
  exact World.putObj_heap_other (by omega)
 case hMb =>
  rintro A B ⟨v, rfl⟩ l o hl ho _
  rw [Below.heap_setCell _ _ _ _ (by simp; omega)]
  exact ho
 case hI =>
  intro pre A B row h hgr hr
  exact hkeep _ A B row h hgr (fun r e => by have := (hr r e).1; omega)
 case hIM =>
  rintro pre A B h ⟨v, rfl⟩
  exact hkeep _ A _ (some (s + 1 + 1)) h (grownBy_setCell' A _ v) (fun r e => by cases e; omega)
 case hround =>
  rintro l pre x W hIW ⟨rfl, hxm⟩
  gi_wp2
  refine ⟨KeepsFrom.refl _ _, (by first | trivial | rfl), hIW, ?_⟩
  rintro Wb ⟨r1, r2, r3, r4, r5⟩ hWb
  have c2 := r2.cell
  gi_wp2
  refine ⟨trivial, (CallsIn.inRound l (callsIn_wide.2 (lay_any g s d m hw8 pre.length hxm _ Wb _ g r4 r1 r3))).mono ?_⟩
  rintro e W' ⟨rfl, rfl⟩
  gi_wp2
  obtain ⟨o1, o2⟩ := r4.stored (m - 1 - pre.length) (.int .u8 ((p : Int) / 256 ^ pre.length % 256))
  refine ⟨(KeepsOthers.setCell _ _ _).from _, Below.heap_setCell _ _ _ _ (by simp; omega), ?_⟩
  rw [cellsAt_set m p pre.length hxm] at o1
  rw [List.length_append]
  exact ⟨r1.kept o2 (by simp; omega), r2.kept o2 (by simp; omega), r3.kept o2 (by simp; omega), o1, r5.setCell (by simp; omega) _⟩
 case hdone =>
  rintro xs W hxs ⟨r1, r2, r3, r4, r5⟩ hD
  have c1 := r1.cell
  rw [hxs, cellsAt_full] at r4
  have hcv : (convert 36 9 (.slice (some ⟨g, 0, none⟩) m m)).run Tryz.prog W = .ok (.string ⟨(digits m p).toArray⟩) W := by
   have := run_convert_bytes_back (P := Tryz.prog) W 36 9 5 ⟨g, 0, none⟩ m (digits m p) Tryz.underlying36 Tryz.underlying5 Tryz.underlying9 (fun j hj => by
    rw [digits_length] at hj
    have := r4.cellAt j (by omega)
    rw [addr_add]
    simpa [digits_length, hj] using this)
   rwa [digits_length] at this
  have hIW := hI.below (hd ▸ r5)
  go_wp2_with fail
  refine (eithers_nil _ _ aN aW aS hIW).mono ?_
  rintro e w6 ⟨rfl, rfl⟩
  go_wp2_with fail
  rw [hW5s] at hD
  refine ⟨by simp, .inl ⟨_, _, rfl, run_takeDeferred hD, ?_⟩⟩
  refine ⟨_, results_tmp2 rfl _ _ _, rfl, ?_⟩
  rw [hd]
  exact r5.grown (grownBy_putObj' W (s + 4) _) (by have := r5.size; omega) (fun k e => by cases e; omega)
theorem Bytes_no2 (p m : Nat) (w : World) (aN aW aS : Addr) (hI : NInv w aN aW aS) (hk : okNum (p : Int) = true) (hm1 : 1 ≤ m) (hm6 : m ≤ 6) (hfit : ¬ p < 256 ^ m) :
  Calls Tryz.prog 132 #[.int .i64 (p : Int), .int .i64 (m : Int)] w (Ret (.tuple #[.string ByteArray.empty, .int .i64 10]) w) := by
 have hkw : okWidth (m : Int) = true := by simp [okWidth]; omega
 have HKW := Lib.hid hkw
 clear hkw
 have hd6 : decide (6 < (m : Int)) = false := by simp; omega
 have hws : IntKind.i64.wrap (8 * (m : Int)) = 8 * (m : Int) := wrap_small _ (by omega) (by omega)
 have hmx : (if (m : Int) < 0 then 0 else (m : Int)) = (m : Int) := if_neg (by omega)
 have hq0 := shr_not hfit
 have hq1 : ((p : Int) / 2 ^ (8 * (m : Int)).toNat == 0) = false := by rw [show (8 * (m : Int)).toNat = 8 * m by omega]; exact hq0
 clear hfit
 have hN := hI.cN
 have hlN := cell_lt hN
 have HK := Lib.hid hk
 clear hk
 go_enter Tryz.func132, Tryz.ntmps132
 go_wp2_with fail
 have hI0 := hI.below (ext_new w (.cells #[.int .i64 (m : Int)] 3))
 have c0 : (w.alloc (.cells #[.int .i64 (m : Int)] 3)).cell? ⟨w.heap.size, 0, none⟩ = some (.int .i64 (m : Int)) := by simp
 have c1 := hI0.cN
 have hE0 := ext_new w (.cells #[.int .i64 (m : Int)] 3)
 generalize hW0 : w.alloc (.cells #[.int .i64 (m : Int)] 3) = W0 at *
 have HW0 := Lib.hid hW0
 clear hW0 hN hlN
 refine wp_region_held_drew (S := fun w' => Below W0.heap.size W0 w') (by kernel_rfl) (Below.refl _ _).drew (fun hHeld => ?_)
 refine wt_ 0 rfl ?_ (fun wx hSx => by have hx0 := cell_later hSx c0; have hx1 := cell_later hSx c1; unfold ErrV at hx1; go_simp; try with_reducible rfl)
 refine wt_ 2 rfl ?_
 refine wt_ 16 rfl ?_ (fun wx hSx => by have hx0 := cell_later hSx c0; have hx1 := cell_later hSx c1; unfold ErrV at hx1; go_simp; try with_reducible rfl)
 try simp only [Act.put, List.setIfInBounds_toArray]
 refine wpAnyH_ready (rs := [1]) (by kernel_rfl) (by simp) ?_
 refine AllReadyH.cons rfl (fun K hK => ?_) AllReadyH.nil
 go_simp
 refine (width_any (m : Int) _ aW (hI0.below hHeld).cW).mono ?_
 rintro e w1 ⟨rfl, hb1⟩
 try go_wp2_with fail
 refine hK.out _ _ (ext_trans hHeld hb1) (fun hHeld => ?_)
 clear hK K
 try simp only [Act.put, List.setIfInBounds_toArray, List.set_cons_succ, List.set_cons_zero]
 refine wpAnyH_ready (rs := [3]) (by kernel_rfl) (by simp) ?_
 refine AllReadyH.cons rfl (fun K hK => ?_) AllReadyH.nil
 go_simp
 refine (Right_any (p : Int) _).mono ?_
 rintro e w1x ⟨rfl, rfl⟩
 rw [HK.out]
 try go_wp2_with fail
 refine hK.out _ _ hHeld (fun hHeld => ?_)
 clear hK K
 refine wt_ 4 rfl ?_
 refine wt_ 5 rfl ?_ (fun wx hSx => by have hx0 := cell_later hSx c0; have hx1 := cell_later hSx c1; unfold ErrV at hx1; go_simp; try with_reducible rfl)
 refine wt_ 6 rfl ?_
 refine wt_ 7 rfl ?_
 refine wt_ 8 rfl ?_
 refine wt_ 9 rfl ?_ (fun wx hSx => by have hx0 := cell_later hSx c0; have hx1 := cell_later hSx c1; unfold ErrV at hx1; go_simp; try with_reducible rfl)
 refine wt_ 10 rfl ?_
 refine wt_ 11 rfl ?_
 refine wt_ 12 rfl ?_
 refine wt_ 13 rfl ?_
 refine wt_ 14 rfl ?_
 refine wt_ 15 rfl ?_
 refine wt_ 17 rfl ?_
 try simp only [Act.put, List.setIfInBounds_toArray]
 refine wpAnyH_ready (rs := [18]) (by kernel_rfl) (by simp) ?_
 refine AllReadyH.cons rfl (fun K hK => ?_) AllReadyH.nil
 go_simp
 refine hK.out _ _ (ext_alloc hHeld _) (fun hHeld => ?_)
 clear hK K
 try simp only [Act.put, List.setIfInBounds_toArray, List.set_cons_succ, List.set_cons_zero]
 refine wpAnyH_ready (rs := [19]) (by kernel_rfl) (by simp) ?_
 refine AllReadyH.cons rfl (fun K hK => ?_) AllReadyH.nil
 go_simp
 refine (first2_new _ _ _ _ _).mono ?_
 rintro e w3 ⟨rfl, hb3⟩
 try go_wp2_with fail
 refine hK.out _ _ (ext_trans hHeld hb3) (fun hHeld => ?_)
 clear hK K
 refine wt_ 20 rfl ?_
 try simp only [Act.put, List.setIfInBounds_toArray]
 refine wpAnyH_done (by kernel_rfl) ?_ _
 rw [HKW.out]
 simp only [firstErr, errOf, ErrV, Bool.false_eq_true, if_false, if_true]
 go_wp2_with fail
 refine (eithers_N ByteArray.empty _ aN aW aS (hI0.below hHeld)).mono ?_
 rintro e w5 ⟨rfl, rfl⟩
 go_wp2_with fail
 go_ret2
 exact ⟨rfl, ext_trans hE0 hHeld⟩
end Go.Proofs.YtmebjdbkngehiaaGreatDoor
