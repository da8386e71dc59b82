/-
  Package postriderlaw04: ItemApart. Conditions: as 'II' says.
-/
import Derived.Test.YtmoghgmbpkpcfaaDoorItL3
namespace Go.Proofs.YtmoghgmbpkpcfaaDoor
open Go.RowKit Go.Shelf

/-- Two texts, held together. -/
theorem str_eqb (a b : ByteArray) : (a.toList == b.toList) = decide (a = b) := by
  rw [Lib.toList_data, Lib.toList_data]
  by_cases h : a = b
  · rw [decide_eq_true h, h]; simp
  · rw [decide_eq_false h]
    refine beq_eq_false_iff_ne.2 fun e => h ?_
    apply ByteArray.ext
    rw [← Array.toList_inj]
    exact e

set_option maxRecDepth 100000 in
set_option maxHeartbeats 4000000 in
theorem lItemApart (t t2 : VT) {w : World} {A : Nat → Addr} {aN aW aS : Addr} (hI : II w A aN aW aS) (hv : VAt w.heap.size w 7 t) (hv2 : VAt w.heap.size w 7 t2) : Calls Tryd.prog 7 #[t.val, t2.val] w (Ret (.bool true) w) := by
  have hX := (Blk.new_ w 24 #[.int .i64 t.kind, .int .i64 t.num, .string t.txt, .slice t.at_ t.len t.cap]).alloc (.cells #[.int .i64 t2.kind, .int .i64 t2.num, .string t2.txt, .slice t2.at_ t2.len t2.cap] 24)
  have hY := Blk.new_ (w.alloc (.cells #[.int .i64 t.kind, .int .i64 t.num, .string t.txt, .slice t.at_ t.len t.cap] 24)) 24 #[.int .i64 t2.kind, .int .i64 t2.num, .string t2.txt, .slice t2.at_ t2.len t2.cap]
  have hb0 := ext_alloc (ext_new w (.cells #[.int .i64 t.kind, .int .i64 t.num, .string t.txt, .slice t.at_ t.len t.cap] 24)) (.cells #[.int .i64 t2.kind, .int .i64 t2.num, .string t2.txt, .slice t2.at_ t2.len t2.cap] 24)
  simp only [World.size_alloc] at hY
  unfold VT.val VT.row
  go_enter Tryd.func7, Tryd.ntmps7
  go_wp2_with fail
  refine (shown_any (hI.below hb0)).mono ?_
  rintro e w1 ⟨rfl, hb1⟩
  have hX1 := hX.below hb1
  have hY1 := hY.below hb1
  have hbB := ext_trans hb0 hb1
  have hC := ICut_any t w1 (hv.below hbB hbB.size)
  have hg1 := hX1.lt
  have hg2 := hY1.lt
  unfold VT.val VT.row at hC
  obtain ⟨c0, c1, c2, c3, -⟩ := hX1.c4
  clear hX hY hb0 hb1
  go_wp2_with fail
  refine hC.mono ?_
  rintro e w2 ⟨u, rfl, hu, ho⟩
  have hX2 := hX1.below hu.bel
  have hY2 := hY1.below hu.bel
  obtain ⟨d0, d1, d2, d3, f0, f1, f2, f3⟩ := hX2.c4
  have hX3 := blk_set4 hX2 (.int .i64 u.kind) (.int .i64 u.num) (.string u.txt) (.slice u.at_ u.kids.length u.cap)
  have hY3 := blk_other4 hY2 (show w.heap.size + 1 ≠ w.heap.size by omega) (.int .i64 u.kind) (.int .i64 u.num) (.string u.txt) (.slice u.at_ u.kids.length u.cap)
  have hT3 := (hu.from hbB).set ho (show w.heap.size < w1.heap.size + 1 by omega) (Nat.le_refl _) (.int .i64 u.kind) (.int .i64 u.num) (.string u.txt) (.slice u.at_ u.kids.length u.cap)
  unfold TV.val TV.row
  clear hC c0 c1 c2 c3 hX1 hX2 hY1 hY2 hu hbB
  obtain ⟨c0, c1, c2, c3, -⟩ := hY3.c4
  go_wp2_with fail
  clear d0 d1 d2 d3 f0 f1 f2 f3
  generalize hW3 : (((w2.setCell ⟨w.heap.size, 0, none⟩ (.int .i64 u.kind)).setCell ⟨w.heap.size, 1, none⟩ (.int .i64 u.num)).setCell ⟨w.heap.size, 2, none⟩ (.string u.txt)).setCell ⟨w.heap.size, 3, none⟩ (.slice u.at_ u.kids.length u.cap) = W3 at *
  have hC := ICut_any t2 W3 (hv2.below hT3.bel hT3.bel.size)
  have hg3 := hY3.lt
  unfold VT.val VT.row at hC
  refine hC.mono ?_
  rintro e w4 ⟨u2, rfl, hu2, ho2⟩
  have hX4 := hX3.below hu2.bel
  have hY4 := hY3.below hu2.bel
  have hT4 := hT3.later hu2.bel
  obtain ⟨d0, d1, d2, d3, f0, f1, f2, f3⟩ := hY4.c4
  have hY5 := blk_set4 hY4 (.int .i64 u2.kind) (.int .i64 u2.num) (.string u2.txt) (.slice u2.at_ u2.kids.length u2.cap)
  have hX5 := blk_other4 hX4 (show w.heap.size ≠ w.heap.size + 1 by omega) (.int .i64 u2.kind) (.int .i64 u2.num) (.string u2.txt) (.slice u2.at_ u2.kids.length u2.cap)
  have hS5 := (hu2.from hT3.bel).set ho2 (show w.heap.size + 1 < W3.heap.size + 1 by omega) (Nat.le_succ _) (.int .i64 u2.kind) (.int .i64 u2.num) (.string u2.txt) (.slice u2.at_ u2.kids.length u2.cap)
  have hT5 := hT4.set ho (show w.heap.size + 1 < w1.heap.size + 1 by omega) (Nat.le_succ _) (.int .i64 u2.kind) (.int .i64 u2.num) (.string u2.txt) (.slice u2.at_ u2.kids.length u2.cap)
  unfold TV.val TV.row
  clear hC c0 c1 c2 c3 hX3 hY3 hX4 hY4 hT3 hT4 hu2 ho2
  obtain ⟨g0, g1, g2, g3, -⟩ := hX5.c4
  go_wp2_with fail
  generalize hW5 : (((w4.setCell ⟨w.heap.size + 1, 0, none⟩ (.int .i64 u2.kind)).setCell ⟨w.heap.size + 1, 1, none⟩ (.int .i64 u2.num)).setCell ⟨w.heap.size + 1, 2, none⟩ (.string u2.txt)).setCell ⟨w.heap.size + 1, 3, none⟩ (.slice u2.at_ u2.kids.length u2.cap) = W5 at *
  have hE := Encode_tree u W5 A aN aW aS (hI.h.below hT5.bel) hT5.at_ hT5.fits
  unfold TV.val TV.row at hE
  rw [hT5.item] at hE
  refine hE.mono ?_
  rintro e w6 ⟨rfl, hb6⟩
  have hX6 := hX5.below hb6
  have hY6 := hY5.below hb6
  have hT6 := hT5.later hb6
  have hS6 := hS5.later hb6
  clear hE hX5 hY5 hT5 hS5 d0 d1 d2 d3 f0 f1 f2 f3 g0 g1 g2 g3
  obtain ⟨g0, g1, g2, g3, -⟩ := hY6.c4
  go_wp2_with fail
  have hE := Encode_tree u2 w6 A aN aW aS (hI.h.below hS6.bel) hS6.at_ hS6.fits
  unfold TV.val TV.row at hE
  rw [hS6.item] at hE
  refine hE.mono ?_
  rintro e w7 ⟨rfl, hb7⟩
  have hX7 := hX6.below hb7
  have hY7 := hY6.below hb7
  have hT7 := hT6.later hb7
  have hS7 := hS6.later hb7
  have hSame := same_any u 7 hT7.fits u2 7 hS7.fits w7 hT7.at_ hS7.at_
  have hxi := hT7.item
  have hyi := hS7.item
  rw [hxi, hyi] at hSame
  unfold TV.val TV.row at hSame
  clear hE hX6 hY6 hT6 hS6 g0 g1 g2 g3
  obtain ⟨g0, g1, g2, g3, -⟩ := hX7.c4
  obtain ⟨j0, j1, j2, j3, -⟩ := hY7.c4
  generalize cutT 6 t = x at *
  generalize cutT 6 t2 = y at *
  rcases bool_cases x.right with hr | hr
  · rw [enc_wrong hr]
    rcases bool_cases y.right with hs | hs
    · rw [enc_wrong hs]
      dsimp only
      clear hSame
      go_wp2_with fail
      go_ret
      exact ⟨rfl, hT7.bel⟩
    · rw [enc_right hs]
      dsimp only
      clear hSame
      go_wp2_with fail
      go_ret
      exact ⟨rfl, hT7.bel⟩
  · rw [enc_right hr]
    rcases bool_cases y.right with hs | hs
    · rw [enc_wrong hs]
      dsimp only
      clear hSame
      go_wp2_with fail
      go_ret
      exact ⟨rfl, hT7.bel⟩
    · rw [enc_right hs]
      have hq : (x.text.toList == y.text.toList) = x.same y := by
        have h1 := bytes_inj hr hs
        have h2 := x.same_iff y
        rw [str_eqb]
        rcases bool_cases (x.same y) with hb | hb
        · rw [hb]
          refine decide_eq_false fun e => ?_
          rw [h2.2 (h1.1 e)] at hb
          cases hb
        · rw [hb]
          exact decide_eq_true (h1.2 (h2.1 hb))
      have HQ := Lib.hid hq
      clear hq
      dsimp only
      generalize x.text = tx at *
      generalize y.text = ty at *
      generalize x.same y = bq at *
      go_wp2_with fail
      refine hSame.mono ?_
      rintro e w8 ⟨rfl, hb8⟩
      go_wp2_with fail
      go_ret
      refine ⟨?_, (hT7.later hb8).bel⟩
      show Ending.returned (.bool ((tx.toList == ty.toList) == bq)) = _
      rw [HQ.out]
      simp

end Go.Proofs.YtmoghgmbpkpcfaaDoor
