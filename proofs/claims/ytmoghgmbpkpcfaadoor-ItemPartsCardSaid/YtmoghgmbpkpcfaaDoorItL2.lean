/-
  Package postriderlaw04: ItemParts. Conditions: as 'II' says.
-/
import Derived.Test.YtmoghgmbpkpcfaaDoorItCv
namespace Go.Proofs.YtmoghgmbpkpcfaaDoor
open Go.RowKit Go.Shelf

set_option maxRecDepth 100000 in
set_option maxHeartbeats 4000000 in
theorem lItemParts (t : VT) (n : Int) {w : World} {A : Nat → Addr} {aN aW aS : Addr} (hI : II w A aN aW aS) (hv : VAt w.heap.size w 7 t) : Calls Tryd.prog 5 #[t.val, .int .i64 n] w (Ret (.bool true) w) := by
  have hX := Blk.new_ w 24 #[.int .i64 t.kind, .int .i64 t.num, .string t.txt, .slice t.at_ t.len t.cap]
  have hb0 := ext_new w (.cells #[.int .i64 t.kind, .int .i64 t.num, .string t.txt, .slice t.at_ t.len t.cap] 24)
  unfold VT.val VT.row
  go_enter Tryd.func5, Tryd.ntmps5
  go_wp2_with fail
  refine (shown_any (hI.below hb0)).mono ?_
  rintro e w1 ⟨rfl, hb1⟩
  have hX1 := hX.below hb1
  have hbB := ext_trans hb0 hb1
  have hC := ICut_any t w1 (hv.below hbB hbB.size)
  have hg1 := hX1.lt
  unfold VT.val VT.row at hC
  obtain ⟨c0, c1, c2, c3, -⟩ := hX1.c4
  clear hX hb0 hb1
  go_wp2_with fail
  refine hC.mono ?_
  rintro e w2 ⟨u, rfl, hu, ho⟩
  have hX2 := hX1.below hu.bel
  obtain ⟨d0, d1, d2, d3, f0, f1, f2, f3⟩ := hX2.c4
  have hX3 := blk_set4 hX2 (.int .i64 u.kind) (.int .i64 u.num) (.string u.txt) (.slice u.at_ u.kids.length u.cap)
  have hT3 := (hu.from hbB).set ho (show w.heap.size < w1.heap.size + 1 by omega) (Nat.le_refl _) (.int .i64 u.kind) (.int .i64 u.num) (.string u.txt) (.slice u.at_ u.kids.length u.cap)
  unfold TV.val TV.row
  clear hC c0 c1 c2 c3 hX1 hX2 hu ho hbB
  go_wp2_with fail
  obtain ⟨g0, g1, g2, g3, -⟩ := hX3.c4
  generalize hW3 : (((w2.setCell ⟨w.heap.size, 0, none⟩ (.int .i64 u.kind)).setCell ⟨w.heap.size, 1, none⟩ (.int .i64 u.num)).setCell ⟨w.heap.size, 2, none⟩ (.string u.txt)).setCell ⟨w.heap.size, 3, none⟩ (.slice u.at_ u.kids.length u.cap) = W3 at *
  have hR := Right_tree u W3 hT3.at_ hT3.fits
  have hxi := hT3.item
  unfold TV.val TV.row at hR
  rw [hxi] at hR
  generalize cutT 6 t = x at *
  refine hR.mono ?_
  rintro e w4 ⟨rfl, hb4⟩
  have hX4 := hX3.below hb4
  have hT4 := hT3.later hb4
  clear hR hb4 hX3 hT3 g0 g1 g2 g3
  obtain ⟨g0, g1, g2, g3, -⟩ := hX4.c4
  rcases bool_cases x.right with hr | hr
  · rw [hr]
    go_wp2_with fail
    go_ret
    exact ⟨rfl, hT4.bel⟩
  · rw [hr]
    by_cases hn0 : n < 0
    · go_wp2_with fail
      go_ret
      exact ⟨rfl, hT4.bel⟩
    · by_cases hn1 : (u.kids.length : Int) ≤ n
      · go_wp2_with fail
        go_ret
        exact ⟨rfl, hT4.bel⟩
      · obtain ⟨k, rfl⟩ := Int.eq_ofNat_of_zero_le (show 0 ≤ n by omega)
        have hk : k < u.kids.length := by omega
        have i0 : (0 : Int) ≤ (k : Int) := by omega
        have i1 : ¬ ((u.kids.length : Int) ≤ (k : Int)) := hn1
        go_wp2_with fail
        have hE := Encode_tree u w4 A aN aW aS (hI.h.below hT4.bel) hT4.at_ hT4.fits
        rw [hxi, enc_right hr] at hE
        unfold TV.val TV.row at hE
        have hmem := List.getElem_mem hk
        have hfy := (hT4.fits.kid.2.2 _ hmem).mono
        have hin : u.kids[k].item ∈ x.kids := by
          rw [← hxi, TV.item_eq, items_map]
          exact List.mem_map_of_mem hmem
        obtain ⟨y1, y2, y3⟩ := right_kid hr hin
        have hkind : u.kind = 4 := by rw [← y2, ← hxi]; cases u; rfl
        refine hE.mono ?_
        rintro e w5 ⟨rfl, hb5⟩
        have hX5 := hX4.below hb5
        have hT5 := hT4.later hb5
        clear hE hb5 hX4 hT4 g0 g1 g2 g3
        obtain ⟨g0, g1, g2, g3, -⟩ := hX5.c4
        obtain ⟨ad, had, hblk, hc⟩ := hT5.at_.row (by omega)
        obtain ⟨z0, z1, z2, z3⟩ := hc k hk
        rw [had] at g3
        have hyat := hT5.at_.kid _ hmem
        have hEy := Encode_tree u.kids[k] w5 A aN aW aS (hI.h.below hT5.bel) hyat hfy
        rw [enc_right y1] at hEy
        have hRy := fun (W : World) (hb : Below w5.heap.size w5 W) => Right_tree u.kids[k] W (hyat.later hb hb.size) hfy
        simp only [y1] at hRy
        have hlen : (u.kids[k].item.text.size : Int) < (x.text.size : Int) := by rw [IN.text_size, IN.text_size]; omega
        unfold TV.row at z3
        unfold TV.val TV.row at hEy hRy
        generalize u.kids[k] = y at *
        generalize y.item.text = ty at *
        generalize x.text = tx at *
        have i2 : (k : Int) < (u.kids.length : Int) := by omega
        clear hc hin hmem y1 y2 y3 hr hn0 hn1
        go_wp2_with fail
        refine hEy.mono ?_
        rintro e w6 ⟨rfl, hb6⟩
        have hX6 := hX5.below hb6
        have hT6 := hT5.later hb6
        obtain ⟨h0, h1, h2, h3, -⟩ := hX6.c4
        rw [had, hkind] at hX6
        have hl : (ad.add (k * 4)).block < w5.heap.size := by rw [ad_blk]; exact hblk
        replace z0 := (hb6.cell hl).trans z0
        replace z1 := (hb6.cell (by exact hl)).trans z1
        replace z2 := (hb6.cell (by exact hl)).trans z2
        replace z3 := (hb6.cell (by exact hl)).trans z3
        have hR6 := hRy w6 hb6
        clear g0 g1 g2 g3 hEy hRy h0 h1 h2 h3
        obtain ⟨h0, h1, h2, h3, -⟩ := hX6.c4
        go_wp2_with fail
        refine hR6.mono ?_
        rintro e w7 ⟨rfl, hb7⟩
        go_wp2_with fail
        go_ret
        exact ⟨rfl, (hT6.later hb7).bel⟩

end Go.Proofs.YtmoghgmbpkpcfaaDoor
