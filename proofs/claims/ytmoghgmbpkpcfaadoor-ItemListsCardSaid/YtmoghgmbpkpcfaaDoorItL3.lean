/-
  Package postriderlaw04: ItemCuts. Conditions: as 'II' says.
-/
import Derived.Test.YtmoghgmbpkpcfaaDoorItCv
namespace Go.Proofs.YtmoghgmbpkpcfaaDoor
open Go.RowKit Go.Shelf

/-- How long a right item's text is. -/
theorem text_bound (t : TV) (h : t.item.right = true) (hf : Fits 7 t) : t.item.text.size ≤ 36540 := by
  have h1 := hbs_len h hf (t.pre 1) [] (by rw [List.append_nil])
  rw [hbs_all] at h1
  have h2 := right_iff.1 h
  have h3 := right_len t
  rw [t.item.pre_length] at h3
  rw [IN.text_size]
  omega
theorem take_text (x : IN) (k : Nat) : (x.text.extract 0 k).data.toList = x.bytes.take k := by
  rw [← x.text_list]
  simp only [ByteArray.data_extract, Array.toList_extract, List.extract_eq_take_drop, List.drop_zero, Nat.sub_zero]

set_option maxRecDepth 100000 in
set_option maxHeartbeats 4000000 in
theorem lItemCuts (t : VT) (n : Int) {w : World} {A : Nat → Addr} {aN aW aS : Addr} (hI : II w A aN aW aS) (hv : VAt w.heap.size w 7 t) : Calls Tryd.prog 4 #[t.val, .int .i64 n] w (Ret (.bool true) w) := by
  have hX := Blk.new_ w 24 #[.int .i64 t.kind, .int .i64 t.num, .string t.txt, .slice t.at_ t.len t.cap]
  have hb0 := ext_new w (.cells #[.int .i64 t.kind, .int .i64 t.num, .string t.txt, .slice t.at_ t.len t.cap] 24)
  unfold VT.val VT.row
  go_enter Tryd.func4, Tryd.ntmps4
  go_wp2_with fail
  refine (shown_any (hI.below hb0)).mono ?_
  rintro e w1 ⟨rfl, hb1⟩
  have hX1 := hX.below hb1
  have hbB := ext_trans hb0 hb1
  have hC := ICut_any t w1 (hv.below hbB hbB.size)
  have hg1 := hX1.lt
  unfold VT.val VT.row at hC
  obtain ⟨c0, c1, c2, c3, -⟩ := hX1.c4
  clear hX hb0 hb1
  go_wp2_with fail
  refine hC.mono ?_
  rintro e w2 ⟨u, rfl, hu, ho⟩
  have hX2 := hX1.below hu.bel
  obtain ⟨d0, d1, d2, d3, f0, f1, f2, f3⟩ := hX2.c4
  have hX3 := blk_set4 hX2 (.int .i64 u.kind) (.int .i64 u.num) (.string u.txt) (.slice u.at_ u.kids.length u.cap)
  have hT3 := (hu.from hbB).set ho (show w.heap.size < w1.heap.size + 1 by omega) (Nat.le_refl _) (.int .i64 u.kind) (.int .i64 u.num) (.string u.txt) (.slice u.at_ u.kids.length u.cap)
  unfold TV.val TV.row
  clear hC c0 c1 c2 c3 hX1 hX2 hu ho hbB
  go_wp2_with fail
  obtain ⟨g0, g1, g2, g3, -⟩ := hX3.c4
  generalize hW3 : (((w2.setCell ⟨w.heap.size, 0, none⟩ (.int .i64 u.kind)).setCell ⟨w.heap.size, 1, none⟩ (.int .i64 u.num)).setCell ⟨w.heap.size, 2, none⟩ (.string u.txt)).setCell ⟨w.heap.size, 3, none⟩ (.slice u.at_ u.kids.length u.cap) = W3 at *
  have hE := Encode_tree u W3 A aN aW aS (hI.h.below hT3.bel) hT3.at_ hT3.fits
  have hxi := hT3.item
  unfold TV.val TV.row at hE
  rw [hxi] at hE
  have hbd := text_bound u
  have hfu := hT3.fits
  rw [hxi] at hbd
  generalize cutT 6 t = x at *
  refine hE.mono ?_
  rintro e w4 ⟨rfl, hb4⟩
  have hT4 := hT3.later hb4
  clear hE hb4 hX3 hT3 g0 g1 g2 g3 hxi
  rcases bool_cases x.right with hr | hr
  · rw [enc_wrong hr]
    clear hbd
    dsimp only
    go_wp2_with fail
    go_ret
    exact ⟨rfl, hT4.bel⟩
  · rw [enc_right hr]
    replace hbd := hbd hr hfu
    dsimp only
    by_cases hn0 : n < 0
    · go_wp2_with fail
      go_ret
      exact ⟨rfl, hT4.bel⟩
    · by_cases hn1 : (x.text.size : Int) ≤ n
      · go_wp2_with fail
        go_ret
        exact ⟨rfl, hT4.bel⟩
      · obtain ⟨k, rfl⟩ := Int.eq_ofNat_of_zero_le (show 0 ≤ n by omega)
        have hk : k < x.text.size := by omega
        have i0 : (0 : Int) ≤ (k : Int) := by omega
        have i1 : ¬ ((x.text.size : Int) ≤ (k : Int)) := hn1
        have i2 : (k : Int) ≤ (x.text.size : Int) := by omega
        go_wp2_with fail
        have hD := IDecode_any (s := x.text.extract 0 k) 0 (by rw [ByteArray.size_extract]; omega) (hI.below hT4.bel)
        rw [dec_cut hr (by rw [← x.text_size]; exact hk) _ (take_text x k)] at hD
        refine hD.mono ?_
        rintro e w5 ⟨p, rfl, hp⟩
        have hb5 := ext_alloc (ext_trans hT4.bel hp.bel) (.cells #[.int .i64 p.kind, .int .i64 p.num, .string p.txt, .slice p.at_ p.kids.length p.cap] 24)
        unfold TV.val TV.row
        have hW := IWhole_any (s := x.text ++ ⟨#[97]⟩) (by rw [ByteArray.size_append, show (⟨#[97]⟩ : ByteArray).size = 1 from rfl]; omega) (hI.below hb5)
        rw [whole_more hr _ [97] (by simp) (by rw [ByteArray.data_append, Array.toList_append, x.text_list])] at hW
        have hz : ¬ (9223372036854775807 < x.text.size + (⟨#[97]⟩ : ByteArray).size) := by rw [show (⟨#[97]⟩ : ByteArray).size = 1 from rfl]; omega
        clear hD hp
        generalize x.text = tx at *
        go_wp2_with fail
        refine hW.mono ?_
        rintro e w6 ⟨q, rfl, hq⟩
        have hb6 := ext_alloc (ext_trans hb5 hq.bel) (.cells #[.int .i64 q.kind, .int .i64 q.num, .string q.txt, .slice q.at_ q.kids.length q.cap] 24)
        unfold TV.val TV.row
        go_wp2_with fail
        go_ret
        exact ⟨rfl, hb6⟩

end Go.Proofs.YtmoghgmbpkpcfaaDoor
