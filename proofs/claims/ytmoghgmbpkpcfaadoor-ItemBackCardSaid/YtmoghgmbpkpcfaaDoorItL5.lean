/-
  Package postriderlaw04: ItemBack. Conditions: as 'II' says.
-/
import Derived.Test.YtmoghgmbpkpcfaaDoorItL3
namespace Go.Proofs.YtmoghgmbpkpcfaaDoor
open Go.RowKit Go.Shelf

theorem decI_bad {s : ByteArray} {a : Int} (h : (decI s a).2.2 ≠ 0) : (decI s a).2.1 = 0 := by
  rw [decI_read] at h ⊢
  cases hr : readA s a with
  | bad er => rfl
  | ok c a' x => rw [hr] at h; exact absurd rfl h
theorem dec_take {s : ByteArray} (h : (decI s 0).2.2 = 0) : ∃ k : Nat, (decI s 0).2.1 = (k : Int) ∧ 1 ≤ k ∧ k ≤ s.size ∧ s.extract 0 k = (decI s 0).1.text ∧ (decI s 0).1.right = true := by
  obtain ⟨-, h2, h3, h4, h5⟩ := dec_sound h
  have hp := IN.bytes_pos (decI s 0).1
  rw [Int.zero_add] at h3
  refine ⟨(decI s 0).1.bytes.length, h3, hp, by omega, ?_, h2⟩
  apply ByteArray.ext
  rw [← Array.toList_inj, IN.text_list]
  have e : (s.extract 0 (decI s 0).1.bytes.length).data.toList = s.data.toList.take (decI s 0).1.bytes.length := by
    simp only [ByteArray.data_extract, Array.toList_extract, List.extract_eq_take_drop, List.drop_zero, Nat.sub_zero]
  rw [e]
  have h6 : s.data.toList = (decI s 0).1.bytes ++ s.data.toList.drop (0 + (decI s 0).1.bytes.length) := h5
  conv => lhs; rw [h6]
  exact List.take_left' rfl

set_option maxRecDepth 100000 in
set_option maxHeartbeats 4000000 in
theorem lItemBack (t : VT) (s v : ByteArray) (hs : s.size ≤ 9223372036854775807) (hvz : v.size ≤ 9223372036854775807) {w : World} {A : Nat → Addr} {aN aW aS : Addr} (hI : II w A aN aW aS) (hv : VAt w.heap.size w 7 t) : Calls Tryd.prog 6 #[t.val, .string s, .string v] w (Ret (.bool true) w) := by
  have hX := Blk.new_ w 24 #[.int .i64 t.kind, .int .i64 t.num, .string t.txt, .slice t.at_ t.len t.cap]
  have hb0 := ext_new w (.cells #[.int .i64 t.kind, .int .i64 t.num, .string t.txt, .slice t.at_ t.len t.cap] 24)
  unfold VT.val VT.row
  go_enter Tryd.func6, Tryd.ntmps6
  go_wp2_with fail
  refine (shown_any (hI.below hb0)).mono ?_
  rintro e w1 ⟨rfl, hb1⟩
  have hX1 := hX.below hb1
  have hbB := ext_trans hb0 hb1
  have hC := ICut_any t w1 (hv.below hbB hbB.size)
  have hg1 := hX1.lt
  unfold VT.val VT.row at hC
  obtain ⟨c0, c1, c2, c3, -⟩ := hX1.c4
  clear hX hb0 hb1
  go_wp2_with fail
  refine hC.mono ?_
  rintro e w2 ⟨u, rfl, hu, ho⟩
  have hX2 := hX1.below hu.bel
  obtain ⟨d0, d1, d2, d3, f0, f1, f2, f3⟩ := hX2.c4
  have hX3 := blk_set4 hX2 (.int .i64 u.kind) (.int .i64 u.num) (.string u.txt) (.slice u.at_ u.kids.length u.cap)
  have hT3 := (hu.from hbB).set ho (show w.heap.size < w1.heap.size + 1 by omega) (Nat.le_refl _) (.int .i64 u.kind) (.int .i64 u.num) (.string u.txt) (.slice u.at_ u.kids.length u.cap)
  unfold TV.val TV.row
  clear hC c0 c1 c2 c3 hX1 hX2 hu ho hbB
  go_wp2_with fail
  obtain ⟨g0, g1, g2, g3, -⟩ := hX3.c4
  generalize hW3 : (((w2.setCell ⟨w.heap.size, 0, none⟩ (.int .i64 u.kind)).setCell ⟨w.heap.size, 1, none⟩ (.int .i64 u.num)).setCell ⟨w.heap.size, 2, none⟩ (.string u.txt)).setCell ⟨w.heap.size, 3, none⟩ (.slice u.at_ u.kids.length u.cap) = W3 at *
  have hZs := cutS_size 700 s
  have hZv := cutS_size 700 v
  have hCs := fun W => cutI_any s W hs
  have hCv := fun W => cutI_any v W hvz
  clear g0 g1 g2 g3
  generalize cutS 700 s = ss at *
  generalize cutS 700 v = vv at *
  refine (hCs _).mono ?_
  rintro e w4 ⟨rfl, rfl⟩
  go_wp2_with fail
  refine (hCv _).mono ?_
  rintro e w4 ⟨rfl, rfl⟩
  clear hCs hCv
  have hE := Encode_tree u W3 A aN aW aS (hI.h.below hT3.bel) hT3.at_ hT3.fits
  have hxi := hT3.item
  unfold TV.val TV.row at hE
  rw [hxi] at hE
  have hbd := text_bound u
  have hfu := hT3.fits
  rw [hxi] at hbd
  obtain ⟨g0, g1, g2, g3, -⟩ := hX3.c4
  go_wp2_with fail
  refine hE.mono ?_
  rintro e w4 ⟨rfl, hb4⟩
  have hX4 := hX3.below hb4
  have hT4 := hT3.later hb4
  clear hE hb4 hX3 hT3 g0 g1 g2 g3
  have hez : (encI (cutT 6 t)).1.size ≤ 36540 := by
    rcases bool_cases (cutT 6 t).right with hr | hr
    · rw [enc_wrong hr]; decide
    · rw [enc_right hr]; exact hbd hr hfu
  have hda : (cutT 6 t).right = true → decI (ss ++ (encI (cutT 6 t)).1 ++ vv) (ss.size : Int) = (cutT 6 t, ((ss.size + (encI (cutT 6 t)).1.size : Nat) : Int), 0) := fun hr => by
    rw [enc_right hr]; exact dec_app hr ss vv
  have her : (encI (cutT 6 t)).2 = if (cutT 6 t).right = true then 0 else 40 := by
    rcases bool_cases (cutT 6 t).right with hr | hr
    · rw [enc_wrong hr, hr]; rfl
    · rw [enc_right hr, hr]; rfl
  clear hbd hfu
  generalize (encI (cutT 6 t)).1 = tx at *
  generalize (encI (cutT 6 t)).2 = er at *
  generalize cutT 6 t = x at *
  have hz1 : ¬ (9223372036854775807 < ss.size + tx.size) := by omega
  have hz2 : ¬ (9223372036854775807 < (ss ++ tx).size + vv.size) := by rw [ByteArray.size_append]; omega
  have HDA := Lib.hid hda
  have HER := Lib.hid her
  have hD := IDecode_any (s := ss ++ tx ++ vv) (ss.size : Int) (by rw [ByteArray.size_append, ByteArray.size_append]; omega) (hI.below hT4.bel)
  clear hda her
  obtain ⟨⟨y, a, f⟩, hdec⟩ : ∃ p, decI (ss ++ tx ++ vv) (ss.size : Int) = p := ⟨_, rfl⟩
  rw [hdec] at hD
  have HDEC := Lib.hid hdec
  clear hdec
  go_wp2_with fail
  refine hD.mono ?_
  rintro e w5 ⟨p, rfl, hp⟩
  have hP5 := Blk.new_ w5 24 #[.int .i64 p.kind, .int .i64 p.num, .string p.txt, .slice p.at_ p.kids.length p.cap]
  have hX5 := (hX4.below hp.bel).alloc (.cells #[.int .i64 p.kind, .int .i64 p.num, .string p.txt, .slice p.at_ p.kids.length p.cap] 24)
  have hT5 := (hT4.later hp.bel).later (ext_new w5 (.cells #[.int .i64 p.kind, .int .i64 p.num, .string p.txt, .slice p.at_ p.kids.length p.cap] 24))
  have hp5 := (hp.from hT4.bel).later (ext_new w5 (.cells #[.int .i64 p.kind, .int .i64 p.num, .string p.txt, .slice p.at_ p.kids.length p.cap] 24))
  unfold TV.val TV.row
  clear hD hp hX4 hT4
  generalize hW5 : w5.alloc (.cells #[.int .i64 p.kind, .int .i64 p.num, .string p.txt, .slice p.at_ p.kids.length p.cap] 24) = W5 at *
  obtain ⟨g0, g1, g2, g3, -⟩ := hX5.c4
  obtain ⟨j0, j1, j2, j3, -⟩ := hP5.c4
  rcases bool_cases x.right with hr | hr
  · obtain rfl : er = 40 := by rw [HER.out, hr]; rfl
    clear HER HDA HDEC
    have hk5 : True := trivial
    go_wp2_with fail
    refine (IDecode_any (s := vv) 0 (by omega) (hI.below hT5.bel)).mono ?_
    rintro e w7 ⟨c, rfl, hc⟩
    have hC7 := Blk.new_ w7 24 #[.int .i64 c.kind, .int .i64 c.num, .string c.txt, .slice c.at_ c.kids.length c.cap]
    have hX7 := (hX5.below hc.bel).alloc (.cells #[.int .i64 c.kind, .int .i64 c.num, .string c.txt, .slice c.at_ c.kids.length c.cap] 24)
    have hT7 := (hT5.later hc.bel).later (ext_new w7 (.cells #[.int .i64 c.kind, .int .i64 c.num, .string c.txt, .slice c.at_ c.kids.length c.cap] 24))
    have hc7 := (hc.from hT5.bel).later (ext_new w7 (.cells #[.int .i64 c.kind, .int .i64 c.num, .string c.txt, .slice c.at_ c.kids.length c.cap] 24))
    unfold TV.val TV.row
    clear hc hX5 hT5 g0 g1 g2 g3
    generalize hW7 : w7.alloc (.cells #[.int .i64 c.kind, .int .i64 c.num, .string c.txt, .slice c.at_ c.kids.length c.cap] 24) = W7 at *
    have hE7 := Encode_tree c W7 A aN aW aS (hI.h.below hc7.bel) hc7.at_ hc7.fits.mono
    rw [hc7.item] at hE7
    unfold TV.val TV.row at hE7
    obtain ⟨g0, g1, g2, g3, -⟩ := hC7.c4
    go_wp2_with fail
    refine hE7.mono ?_
    rintro e w8 ⟨rfl, hb8⟩
    have hX8 := hX7.below hb8
    have hT8 := hT7.later hb8
    have hR := Right_tree u w8 hT8.at_ hT8.fits
    rw [hT8.item, hr] at hR
    unfold TV.val TV.row at hR
    clear hE7 hX7 hT7 hC7 hc7 g0 g1 g2 g3 hW7
    obtain ⟨g0, g1, g2, g3, -⟩ := hX8.c4
    by_cases h0 : (decI vv 0).2.2 = 0
    · obtain ⟨k, k1, k2, k3, k4, k5⟩ := dec_take h0
      rw [h0, k1, enc_right k5, ← k4]
      have i1 : (1 : Int) ≤ (k : Int) := by omega
      have i2 : (k : Int) ≤ (vv.size : Int) := by omega
      have i3 : (0 : Int) ≤ (k : Int) := by omega
      clear k1 k4 k5 h0
      dsimp only
      go_wp2_with fail
      refine hR.mono ?_
      rintro e w9 ⟨rfl, hb9⟩
      go_wp2_with fail
      go_ret
      exact ⟨rfl, (hT8.later hb9).bel⟩
    · rw [decI_bad h0]
      generalize (decI vv 0).2.2 = g at *
      generalize (encI (decI vv 0).1).1 = tu at *
      generalize (encI (decI vv 0).1).2 = eu at *
      go_wp2_with fail
      refine hR.mono ?_
      rintro e w9 ⟨rfl, hb9⟩
      go_wp2_with fail
      go_ret
      exact ⟨rfl, (hT8.later hb9).bel⟩
  · obtain rfl : er = 0 := by rw [HER.out, hr]; rfl
    have hxx := HDA.out hr
    rw [HDEC.out, Prod.mk.injEq, Prod.mk.injEq] at hxx
    obtain ⟨rfl, rfl, rfl⟩ := hxx
    clear HER HDA HDEC
    have hSame := same_any p 6 hp5.fits u 7 hT5.fits W5 hp5.at_ hT5.at_
    rw [same_self p u (by rw [hp5.item, hT5.item])] at hSame
    unfold TV.val TV.row at hSame
    rw [show ((ss.size + tx.size : Nat) : Int) = (ss.size : Int) + (tx.size : Int) by omega]
    go_wp2_with fail
    refine hSame.mono ?_
    rintro e w6 ⟨rfl, hb6⟩
    replace hX5 := hX5.below hb6
    replace hT5 := hT5.later hb6
    clear hSame g0 g1 g2 g3 j0 j1 j2 j3 hP5 hp5 hW5
    obtain ⟨g0, g1, g2, g3, -⟩ := hX5.c4
    generalize w6 = W5 at *
    go_wp2_with fail
    refine (IDecode_any (s := vv) 0 (by omega) (hI.below hT5.bel)).mono ?_
    rintro e w7 ⟨c, rfl, hc⟩
    have hC7 := Blk.new_ w7 24 #[.int .i64 c.kind, .int .i64 c.num, .string c.txt, .slice c.at_ c.kids.length c.cap]
    have hX7 := (hX5.below hc.bel).alloc (.cells #[.int .i64 c.kind, .int .i64 c.num, .string c.txt, .slice c.at_ c.kids.length c.cap] 24)
    have hT7 := (hT5.later hc.bel).later (ext_new w7 (.cells #[.int .i64 c.kind, .int .i64 c.num, .string c.txt, .slice c.at_ c.kids.length c.cap] 24))
    have hc7 := (hc.from hT5.bel).later (ext_new w7 (.cells #[.int .i64 c.kind, .int .i64 c.num, .string c.txt, .slice c.at_ c.kids.length c.cap] 24))
    unfold TV.val TV.row
    clear hc hX5 hT5 g0 g1 g2 g3
    generalize hW7 : w7.alloc (.cells #[.int .i64 c.kind, .int .i64 c.num, .string c.txt, .slice c.at_ c.kids.length c.cap] 24) = W7 at *
    have hE7 := Encode_tree c W7 A aN aW aS (hI.h.below hc7.bel) hc7.at_ hc7.fits.mono
    rw [hc7.item] at hE7
    unfold TV.val TV.row at hE7
    obtain ⟨g0, g1, g2, g3, -⟩ := hC7.c4
    go_wp2_with fail
    refine hE7.mono ?_
    rintro e w8 ⟨rfl, hb8⟩
    have hX8 := hX7.below hb8
    have hT8 := hT7.later hb8
    have hR := Right_tree u w8 hT8.at_ hT8.fits
    rw [hT8.item, hr] at hR
    unfold TV.val TV.row at hR
    clear hE7 hX7 hT7 hC7 hc7 g0 g1 g2 g3 hW7
    obtain ⟨g0, g1, g2, g3, -⟩ := hX8.c4
    by_cases h0 : (decI vv 0).2.2 = 0
    · obtain ⟨k, k1, k2, k3, k4, k5⟩ := dec_take h0
      rw [h0, k1, enc_right k5, ← k4]
      have i1 : (1 : Int) ≤ (k : Int) := by omega
      have i2 : (k : Int) ≤ (vv.size : Int) := by omega
      have i3 : (0 : Int) ≤ (k : Int) := by omega
      clear k1 k4 k5 h0
      dsimp only
      go_wp2_with fail
      refine hR.mono ?_
      rintro e w9 ⟨rfl, hb9⟩
      go_wp2_with fail
      go_ret
      exact ⟨rfl, (hT8.later hb9).bel⟩
    · rw [decI_bad h0]
      generalize (decI vv 0).2.2 = g at *
      generalize (encI (decI vv 0).1).1 = tu at *
      generalize (encI (decI vv 0).1).2 = eu at *
      go_wp2_with fail
      refine hR.mono ?_
      rintro e w9 ⟨rfl, hb9⟩
      go_wp2_with fail
      go_ret
      exact ⟨rfl, (hT8.later hb9).bel⟩

end Go.Proofs.YtmoghgmbpkpcfaaDoor
