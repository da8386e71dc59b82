/-
  Package postriderlaw04: ItemCodes. Conditions: as 'II' says.
-/
import Derived.Test.YtmoghgmbpkpcfaaGreatDoorItCv
import Derived.Test.YtmoghgmbpkpcfaaGreatDoorIrD
import Derived.Test.YtmoghgmbpkpcfaaGreatDoorIrE
import Derived.Test.YtmoghgmbpkpcfaaGreatDoorIrI
import Derived.Test.YtmoghgmbpkpcfaaGreatDoorTk
namespace Go.Proofs.YtmoghgmbpkpcfaaGreatDoor
open Go.RowKit Go.Shelf

/-- How long a right item's text is. -/
theorem text_bound (t : TV) (h : t.item.right = true) (hf : Fits 7 t) : t.item.text.size ≤ 36540 := by
  have h1 := hbs_len h hf (t.pre 1) [] (by rw [List.append_nil])
  rw [hbs_all] at h1
  have h2 := right_iff.1 h
  have h3 := right_len t
  rw [t.item.pre_length] at h3
  rw [IN.text_size]
  omega
theorem take_text (x : IN) (k : Nat) : (x.text.extract 0 k).data.toList = x.bytes.take k := by
  rw [← x.text_list]
  simp only [ByteArray.data_extract, Array.toList_extract, List.extract_eq_take_drop, List.drop_zero, Nat.sub_zero]

theorem text_bytes (t : TV) (h : t.item.right = true) (hf : Fits 7 t) : t.item.bytes.length ≤ 36540 := by
  have h1 := text_bound t h hf
  rw [IN.text_size] at h1
  exact h1

set_option maxRecDepth 100000 in
set_option maxHeartbeats 40000000 in
theorem lItemCodes (t t2 : VT) (s : ByteArray) (n : Int) (hs : s.size ≤ 9223372036854775807) {w : World} {A : Nat → Addr} {aN aW aS : Addr} (hI : II w A aN aW aS) (hv : VAt w.heap.size w 7 t) (hv2 : VAt w.heap.size w 7 t2) : Calls Tryz.prog 3 #[t.val, t2.val, .string s, .int .i64 n] w (Ret (.bool true) w) := by
  have hX := (Blk.new_ w 24 #[.int .i64 t.kind, .int .i64 t.num, .string t.txt, .slice t.at_ t.len t.cap]).alloc (.cells #[.int .i64 t2.kind, .int .i64 t2.num, .string t2.txt, .slice t2.at_ t2.len t2.cap] 24)
  have hY := Blk.new_ (w.alloc (.cells #[.int .i64 t.kind, .int .i64 t.num, .string t.txt, .slice t.at_ t.len t.cap] 24)) 24 #[.int .i64 t2.kind, .int .i64 t2.num, .string t2.txt, .slice t2.at_ t2.len t2.cap]
  have hb0 := ext_alloc (ext_new w (.cells #[.int .i64 t.kind, .int .i64 t.num, .string t.txt, .slice t.at_ t.len t.cap] 24)) (.cells #[.int .i64 t2.kind, .int .i64 t2.num, .string t2.txt, .slice t2.at_ t2.len t2.cap] 24)
  simp only [World.size_alloc] at hY
  unfold VT.val VT.row
  go_enter Tryz.func3, Tryz.ntmps3
  go_wp2_with fail
  refine (shown_any (hI.below hb0)).mono ?_
  rintro e w1 ⟨rfl, hb1⟩
  have hX1 := hX.below hb1
  have hY1 := hY.below hb1
  have hbB := ext_trans hb0 hb1
  have hC := ICut_any t w1 (hv.below hbB hbB.size)
  have hg1 := hX1.lt
  have hg2 := hY1.lt
  unfold VT.val VT.row at hC
  obtain ⟨c0, c1, c2, c3, -⟩ := hX1.c4
  clear hX hY hb0 hb1
  go_wp2_with fail
  refine hC.mono ?_
  rintro e w2 ⟨u, rfl, hu, ho⟩
  have hX2 := hX1.below hu.bel
  have hY2 := hY1.below hu.bel
  obtain ⟨d0, d1, d2, d3, f0, f1, f2, f3⟩ := hX2.c4
  have hX3 := blk_set4 hX2 (.int .i64 u.kind) (.int .i64 u.num) (.string u.txt) (.slice u.at_ u.kids.length u.cap)
  have hY3 := blk_other4 hY2 (show w.heap.size + 1 ≠ w.heap.size by omega) (.int .i64 u.kind) (.int .i64 u.num) (.string u.txt) (.slice u.at_ u.kids.length u.cap)
  have hT3 := (hu.from hbB).set ho (show w.heap.size < w1.heap.size + 1 by omega) (Nat.le_refl _) (.int .i64 u.kind) (.int .i64 u.num) (.string u.txt) (.slice u.at_ u.kids.length u.cap)
  unfold TV.val TV.row
  clear hC c0 c1 c2 c3 hX1 hX2 hY1 hY2 hu hbB
  obtain ⟨c0, c1, c2, c3, -⟩ := hY3.c4
  go_wp2_with fail
  clear d0 d1 d2 d3 f0 f1 f2 f3
  generalize hW3 : (((w2.setCell ⟨w.heap.size, 0, none⟩ (.int .i64 u.kind)).setCell ⟨w.heap.size, 1, none⟩ (.int .i64 u.num)).setCell ⟨w.heap.size, 2, none⟩ (.string u.txt)).setCell ⟨w.heap.size, 3, none⟩ (.slice u.at_ u.kids.length u.cap) = W3 at *
  have hC := ICut_any t2 W3 (hv2.below hT3.bel hT3.bel.size)
  have hg3 := hY3.lt
  unfold VT.val VT.row at hC
  refine hC.mono ?_
  rintro e w4 ⟨u2, rfl, hu2, ho2⟩
  have hX4 := hX3.below hu2.bel
  have hY4 := hY3.below hu2.bel
  have hT4 := hT3.later hu2.bel
  obtain ⟨d0, d1, d2, d3, f0, f1, f2, f3⟩ := hY4.c4
  have hY5 := blk_set4 hY4 (.int .i64 u2.kind) (.int .i64 u2.num) (.string u2.txt) (.slice u2.at_ u2.kids.length u2.cap)
  have hX5 := blk_other4 hX4 (show w.heap.size ≠ w.heap.size + 1 by omega) (.int .i64 u2.kind) (.int .i64 u2.num) (.string u2.txt) (.slice u2.at_ u2.kids.length u2.cap)
  have hS5 := (hu2.from hT3.bel).set ho2 (show w.heap.size + 1 < W3.heap.size + 1 by omega) (Nat.le_succ _) (.int .i64 u2.kind) (.int .i64 u2.num) (.string u2.txt) (.slice u2.at_ u2.kids.length u2.cap)
  have hT5 := hT4.set ho (show w.heap.size + 1 < w1.heap.size + 1 by omega) (Nat.le_succ _) (.int .i64 u2.kind) (.int .i64 u2.num) (.string u2.txt) (.slice u2.at_ u2.kids.length u2.cap)
  unfold TV.val TV.row
  clear hC c0 c1 c2 c3 hX3 hY3 hX4 hY4 hT3 hT4 hu2 ho2
  go_wp2_with fail
  generalize hW5 : (((w4.setCell ⟨w.heap.size + 1, 0, none⟩ (.int .i64 u2.kind)).setCell ⟨w.heap.size + 1, 1, none⟩ (.int .i64 u2.num)).setCell ⟨w.heap.size + 1, 2, none⟩ (.string u2.txt)).setCell ⟨w.heap.size + 1, 3, none⟩ (.slice u2.at_ u2.kids.length u2.cap) = W5 at *
  have hZs := cutS_size 700 s
  have hCs := fun W => cutI_any s W hs
  generalize cutS 700 s = ss at *
  clear d0 d1 d2 d3 f0 f1 f2 f3
  refine (hCs _).mono ?_
  rintro e w6 ⟨rfl, rfl⟩
  clear hCs
  obtain ⟨g0, g1, g2, g3, -⟩ := hX5.c4
  have hE := Encode_tree u W5 A aN aW aS (hI.h.below hT5.bel) hT5.at_ hT5.fits
  unfold TV.val TV.row at hE
  rw [hT5.item] at hE
  generalize hei : encI (cutT 6 t) = ei at *
  go_wp2_with fail
  refine hE.mono ?_
  rintro e w6 ⟨rfl, hb6⟩
  have hX6 := hX5.below hb6
  have hY6 := hY5.below hb6
  have hT6 := hT5.later hb6
  have hS6 := hS5.later hb6
  clear hE hX5 hY5 hT5 hS5 g0 g1 g2 g3
  obtain ⟨g0, g1, g2, g3, -⟩ := hX6.c4
  have hE := rEncodeI_tree u w6 hT6.at_ hT6.fits fun hr => text_bytes u hr hT6.fits
  unfold TV.val TV.row at hE
  rw [hT6.item, hei] at hE
  go_wp2_with fail
  refine hE.mono ?_
  rintro e w7 ⟨rfl, hb7⟩
  have hX7 := hX6.below hb7
  have hY7 := hY6.below hb7
  have hT7 := hT6.later hb7
  have hS7 := hS6.later hb7
  clear hE hX6 hY6 hT6 hS6 g0 g1 g2 g3 hei
  go_wp2_with fail
  refine (IDecode_any (s := ss) n (by omega) (hI.below hT7.bel)).mono ?_
  rintro e w8 ⟨p, rfl, h0⟩
  have Pa := Blk.new_ w8 24 #[.int .i64 p.kind, .int .i64 p.num, .string p.txt, .slice p.at_ p.kids.length p.cap]
  have pT := (h0.from hT7.bel).later (ext_new w8 (.cells #[.int .i64 p.kind, .int .i64 p.num, .string p.txt, .slice p.at_ p.kids.length p.cap] 24))
  replace hX7 := (hX7.below h0.bel).alloc (.cells #[.int .i64 p.kind, .int .i64 p.num, .string p.txt, .slice p.at_ p.kids.length p.cap] 24)
  replace hY7 := (hY7.below h0.bel).alloc (.cells #[.int .i64 p.kind, .int .i64 p.num, .string p.txt, .slice p.at_ p.kids.length p.cap] 24)
  replace hT7 := (hT7.later h0.bel).later (ext_new w8 (.cells #[.int .i64 p.kind, .int .i64 p.num, .string p.txt, .slice p.at_ p.kids.length p.cap] 24))
  replace hS7 := (hS7.later h0.bel).later (ext_new w8 (.cells #[.int .i64 p.kind, .int .i64 p.num, .string p.txt, .slice p.at_ p.kids.length p.cap] 24))
  unfold TV.val TV.row
  clear h0
  generalize hg8 : w8.heap.size = Pg at *
  generalize hW8 : w8.alloc (.cells #[.int .i64 p.kind, .int .i64 p.num, .string p.txt, .slice p.at_ p.kids.length p.cap] 24) = W8 at *
  go_wp2_with fail
  refine (rIDecode_any (s := ss) n (by omega)).mono ?_
  rintro e w9 ⟨q, rfl, h0, -⟩
  have Qa := Blk.new_ w9 24 #[.int .i64 q.kind, .int .i64 q.num, .string q.txt, .slice q.at_ q.kids.length q.cap]
  have qT := (h0.from hT7.bel).later (ext_new w9 (.cells #[.int .i64 q.kind, .int .i64 q.num, .string q.txt, .slice q.at_ q.kids.length q.cap] 24))
  replace hX7 := (hX7.below h0.bel).alloc (.cells #[.int .i64 q.kind, .int .i64 q.num, .string q.txt, .slice q.at_ q.kids.length q.cap] 24)
  replace hY7 := (hY7.below h0.bel).alloc (.cells #[.int .i64 q.kind, .int .i64 q.num, .string q.txt, .slice q.at_ q.kids.length q.cap] 24)
  replace Pa := (Pa.below h0.bel).alloc (.cells #[.int .i64 q.kind, .int .i64 q.num, .string q.txt, .slice q.at_ q.kids.length q.cap] 24)
  replace hT7 := (hT7.later h0.bel).later (ext_new w9 (.cells #[.int .i64 q.kind, .int .i64 q.num, .string q.txt, .slice q.at_ q.kids.length q.cap] 24))
  replace hS7 := (hS7.later h0.bel).later (ext_new w9 (.cells #[.int .i64 q.kind, .int .i64 q.num, .string q.txt, .slice q.at_ q.kids.length q.cap] 24))
  replace pT := (pT.later h0.bel).later (ext_new w9 (.cells #[.int .i64 q.kind, .int .i64 q.num, .string q.txt, .slice q.at_ q.kids.length q.cap] 24))
  unfold TV.val TV.row
  clear h0
  generalize hg9 : w9.heap.size = Qg at *
  generalize hW9 : w9.alloc (.cells #[.int .i64 q.kind, .int .i64 q.num, .string q.txt, .slice q.at_ q.kids.length q.cap] 24) = W9 at *
  go_wp2_with fail
  refine (IWhole_any (s := ss) (by omega) (hI.below hT7.bel)).mono ?_
  rintro e w10 ⟨r, rfl, h0⟩
  have Ra := Blk.new_ w10 24 #[.int .i64 r.kind, .int .i64 r.num, .string r.txt, .slice r.at_ r.kids.length r.cap]
  have rT := (h0.from hT7.bel).later (ext_new w10 (.cells #[.int .i64 r.kind, .int .i64 r.num, .string r.txt, .slice r.at_ r.kids.length r.cap] 24))
  replace hX7 := (hX7.below h0.bel).alloc (.cells #[.int .i64 r.kind, .int .i64 r.num, .string r.txt, .slice r.at_ r.kids.length r.cap] 24)
  replace hY7 := (hY7.below h0.bel).alloc (.cells #[.int .i64 r.kind, .int .i64 r.num, .string r.txt, .slice r.at_ r.kids.length r.cap] 24)
  replace Pa := (Pa.below h0.bel).alloc (.cells #[.int .i64 r.kind, .int .i64 r.num, .string r.txt, .slice r.at_ r.kids.length r.cap] 24)
  replace Qa := (Qa.below h0.bel).alloc (.cells #[.int .i64 r.kind, .int .i64 r.num, .string r.txt, .slice r.at_ r.kids.length r.cap] 24)
  replace hT7 := (hT7.later h0.bel).later (ext_new w10 (.cells #[.int .i64 r.kind, .int .i64 r.num, .string r.txt, .slice r.at_ r.kids.length r.cap] 24))
  replace hS7 := (hS7.later h0.bel).later (ext_new w10 (.cells #[.int .i64 r.kind, .int .i64 r.num, .string r.txt, .slice r.at_ r.kids.length r.cap] 24))
  replace pT := (pT.later h0.bel).later (ext_new w10 (.cells #[.int .i64 r.kind, .int .i64 r.num, .string r.txt, .slice r.at_ r.kids.length r.cap] 24))
  replace qT := (qT.later h0.bel).later (ext_new w10 (.cells #[.int .i64 r.kind, .int .i64 r.num, .string r.txt, .slice r.at_ r.kids.length r.cap] 24))
  unfold TV.val TV.row
  clear h0
  generalize hg10 : w10.heap.size = Rg at *
  generalize hW10 : w10.alloc (.cells #[.int .i64 r.kind, .int .i64 r.num, .string r.txt, .slice r.at_ r.kids.length r.cap] 24) = W10 at *
  go_wp2_with fail
  refine (rIWhole_any (s := ss) (by omega)).mono ?_
  rintro e w11 ⟨z, rfl, h0⟩
  have Za := Blk.new_ w11 24 #[.int .i64 z.kind, .int .i64 z.num, .string z.txt, .slice z.at_ z.kids.length z.cap]
  have zT := (h0.from hT7.bel).later (ext_new w11 (.cells #[.int .i64 z.kind, .int .i64 z.num, .string z.txt, .slice z.at_ z.kids.length z.cap] 24))
  replace hX7 := (hX7.below h0.bel).alloc (.cells #[.int .i64 z.kind, .int .i64 z.num, .string z.txt, .slice z.at_ z.kids.length z.cap] 24)
  replace hY7 := (hY7.below h0.bel).alloc (.cells #[.int .i64 z.kind, .int .i64 z.num, .string z.txt, .slice z.at_ z.kids.length z.cap] 24)
  replace Pa := (Pa.below h0.bel).alloc (.cells #[.int .i64 z.kind, .int .i64 z.num, .string z.txt, .slice z.at_ z.kids.length z.cap] 24)
  replace Qa := (Qa.below h0.bel).alloc (.cells #[.int .i64 z.kind, .int .i64 z.num, .string z.txt, .slice z.at_ z.kids.length z.cap] 24)
  replace Ra := (Ra.below h0.bel).alloc (.cells #[.int .i64 z.kind, .int .i64 z.num, .string z.txt, .slice z.at_ z.kids.length z.cap] 24)
  replace hT7 := (hT7.later h0.bel).later (ext_new w11 (.cells #[.int .i64 z.kind, .int .i64 z.num, .string z.txt, .slice z.at_ z.kids.length z.cap] 24))
  replace hS7 := (hS7.later h0.bel).later (ext_new w11 (.cells #[.int .i64 z.kind, .int .i64 z.num, .string z.txt, .slice z.at_ z.kids.length z.cap] 24))
  replace pT := (pT.later h0.bel).later (ext_new w11 (.cells #[.int .i64 z.kind, .int .i64 z.num, .string z.txt, .slice z.at_ z.kids.length z.cap] 24))
  replace qT := (qT.later h0.bel).later (ext_new w11 (.cells #[.int .i64 z.kind, .int .i64 z.num, .string z.txt, .slice z.at_ z.kids.length z.cap] 24))
  replace rT := (rT.later h0.bel).later (ext_new w11 (.cells #[.int .i64 z.kind, .int .i64 z.num, .string z.txt, .slice z.at_ z.kids.length z.cap] 24))
  unfold TV.val TV.row
  clear h0
  generalize hg11 : w11.heap.size = Zg at *
  generalize hW11 : w11.alloc (.cells #[.int .i64 z.kind, .int .i64 z.num, .string z.txt, .slice z.at_ z.kids.length z.cap] 24) = W11 at *
  go_wp2_with fail
  have HLX := Lib.hid (fun (V : World) (hV : Below W11.heap.size W11 V) => (show V.cell? ⟨w.heap.size, 0, none⟩ = some (.int .i64 u.kind) ∧ V.cell? ⟨w.heap.size, 1, none⟩ = some (.int .i64 u.num) ∧ V.cell? ⟨w.heap.size, 2, none⟩ = some (.string u.txt) ∧ V.cell? ⟨w.heap.size, 3, none⟩ = some (.slice u.at_ u.kids.length u.cap) from by obtain ⟨k0, k1, k2, k3, -⟩ := (hX7.below hV).c4; exact ⟨k0, k1, k2, k3⟩))
  have HLY := Lib.hid (fun (V : World) (hV : Below W11.heap.size W11 V) => (show V.cell? ⟨(w.heap.size + 1), 0, none⟩ = some (.int .i64 u2.kind) ∧ V.cell? ⟨(w.heap.size + 1), 1, none⟩ = some (.int .i64 u2.num) ∧ V.cell? ⟨(w.heap.size + 1), 2, none⟩ = some (.string u2.txt) ∧ V.cell? ⟨(w.heap.size + 1), 3, none⟩ = some (.slice u2.at_ u2.kids.length u2.cap) from by obtain ⟨k0, k1, k2, k3, -⟩ := (hY7.below hV).c4; exact ⟨k0, k1, k2, k3⟩))
  have HLP := Lib.hid (fun (V : World) (hV : Below W11.heap.size W11 V) => (show V.cell? ⟨Pg, 0, none⟩ = some (.int .i64 p.kind) ∧ V.cell? ⟨Pg, 1, none⟩ = some (.int .i64 p.num) ∧ V.cell? ⟨Pg, 2, none⟩ = some (.string p.txt) ∧ V.cell? ⟨Pg, 3, none⟩ = some (.slice p.at_ p.kids.length p.cap) from by obtain ⟨k0, k1, k2, k3, -⟩ := (Pa.below hV).c4; exact ⟨k0, k1, k2, k3⟩))
  have HLQ := Lib.hid (fun (V : World) (hV : Below W11.heap.size W11 V) => (show V.cell? ⟨Qg, 0, none⟩ = some (.int .i64 q.kind) ∧ V.cell? ⟨Qg, 1, none⟩ = some (.int .i64 q.num) ∧ V.cell? ⟨Qg, 2, none⟩ = some (.string q.txt) ∧ V.cell? ⟨Qg, 3, none⟩ = some (.slice q.at_ q.kids.length q.cap) from by obtain ⟨k0, k1, k2, k3, -⟩ := (Qa.below hV).c4; exact ⟨k0, k1, k2, k3⟩))
  have HLR := Lib.hid (fun (V : World) (hV : Below W11.heap.size W11 V) => (show V.cell? ⟨Rg, 0, none⟩ = some (.int .i64 r.kind) ∧ V.cell? ⟨Rg, 1, none⟩ = some (.int .i64 r.num) ∧ V.cell? ⟨Rg, 2, none⟩ = some (.string r.txt) ∧ V.cell? ⟨Rg, 3, none⟩ = some (.slice r.at_ r.kids.length r.cap) from by obtain ⟨k0, k1, k2, k3, -⟩ := (Ra.below hV).c4; exact ⟨k0, k1, k2, k3⟩))
  have HLZ := Lib.hid (fun (V : World) (hV : Below W11.heap.size W11 V) => (show V.cell? ⟨Zg, 0, none⟩ = some (.int .i64 z.kind) ∧ V.cell? ⟨Zg, 1, none⟩ = some (.int .i64 z.num) ∧ V.cell? ⟨Zg, 2, none⟩ = some (.string z.txt) ∧ V.cell? ⟨Zg, 3, none⟩ = some (.slice z.at_ z.kids.length z.cap) from by obtain ⟨k0, k1, k2, k3, -⟩ := (Za.below hV).c4; exact ⟨k0, k1, k2, k3⟩))
  have h3 := fun (V : World) (hV : Below W11.heap.size W11 V) => Right_tree u V (hT7.at_.later hV hV.size) hT7.fits
  unfold TV.val TV.row at h3
  have HC3 := Lib.hid h3
  clear h3
  have h5 := fun (V : World) (hV : Below W11.heap.size W11 V) => rRightI_tree u V (hT7.at_.later hV hV.size) hT7.fits
  unfold TV.val TV.row at h5
  have HC5 := Lib.hid h5
  clear h5
  have h11 := fun (V : World) (hV : Below W11.heap.size W11 V) => same_any u 7 hT7.fits u2 7 hS7.fits V (hT7.at_.later hV hV.size) (hS7.at_.later hV hV.size)
  unfold TV.val TV.row at h11
  have HC11 := Lib.hid h11
  clear h11
  have h14 := fun (V : World) (hV : Below W11.heap.size W11 V) => rSame_tree u 7 hT7.fits u2 V (hT7.at_.later hV hV.size) (hS7.at_.later hV hV.size)
  unfold TV.val TV.row at h14
  have HC14 := Lib.hid h14
  clear h14
  have h20 := fun (V : World) (hV : Below W11.heap.size W11 V) => same_any u 7 hT7.fits u 7 hT7.fits V (hT7.at_.later hV hV.size) (hT7.at_.later hV hV.size)
  have e20 : u.item.same u.item = true := same_self _ _ rfl
  simp only [e20] at h20
  clear e20
  unfold TV.val TV.row at h20
  have HC20 := Lib.hid h20
  clear h20
  have h35 := fun (V : World) (hV : Below W11.heap.size W11 V) => rSame_tree p 6 pT.fits q V (pT.at_.later hV hV.size) (qT.at_.later hV hV.size)
  have e35 : p.item.same q.item = true := same_self _ _ (by rw [pT.item, qT.item])
  simp only [e35] at h35
  clear e35
  unfold TV.val TV.row at h35
  have HC35 := Lib.hid h35
  clear h35
  have h50 := fun (V : World) (hV : Below W11.heap.size W11 V) => rSame_tree r 6 rT.fits z V (rT.at_.later hV hV.size) (zT.at_.later hV hV.size)
  have e50 : r.item.same z.item = true := same_self _ _ (by rw [rT.item, zT.item])
  simp only [e50] at h50
  clear e50
  unfold TV.val TV.row at h50
  have HC50 := Lib.hid h50
  clear h50
  clear hg8 hg9 hg10 hg11 hW8 hW9 hW10
  clear hX7 hY7 Pa Qa Ra Za pT qT rT zT hS7
  generalize u.item.right = b1 at *
  generalize u.item.same u2.item = b2 at *
  generalize (decI ss n).2.1 = d1 at *
  generalize (decI ss n).2.2 = d2 at *
  generalize (wholeI ss).2 = d3 at *
  refine wp_region_held_drew (S := (Below W11.heap.size W11)) (by kernel_rfl) (Below.refl W11.heap.size W11).drew (fun hHeld => ?_)
  refine wpAnyH_takeD (i := 0) (v := ?_) (some 65) rfl rfl (by kernel_rfl) (by kernel_rfl) (by kernel_rfl) (fun _ _ _ h => h) (Or.inl ⟨by kernel_rfl, ?_⟩) (by assumption) ?_
  rotate_left
  · intro wx hSx
    go_simp
    try with_reducible rfl
  try simp only [Act.put, List.setIfInBounds_toArray, List.set_cons_succ, List.set_cons_zero]
  refine wpAnyH_takeD (i := 1) (v := ?_) (some 66) rfl rfl (by kernel_rfl) (by kernel_rfl) (by kernel_rfl) (fun _ _ _ h => h) (Or.inl ⟨by kernel_rfl, ?_⟩) (by assumption) ?_
  rotate_left
  · intro wx hSx
    go_simp
    try with_reducible rfl
  try simp only [Act.put, List.setIfInBounds_toArray, List.set_cons_succ, List.set_cons_zero]
  refine wpAnyH_takeD (i := 2) (v := ?_) (some 67) rfl rfl (by kernel_rfl) (by kernel_rfl) (by kernel_rfl) (fun _ _ _ h => h) (Or.inl ⟨by kernel_rfl, ?_⟩) (by assumption) ?_
  rotate_left
  · intro wx hSx
    have g := HLX.out _ hSx
    have g0 := g.1
    have g1 := g.2.1
    have g2 := g.2.2.1
    have g3 := g.2.2.2
    clear g
    go_simp
    try with_reducible rfl
  try simp only [Act.put, List.setIfInBounds_toArray, List.set_cons_succ, List.set_cons_zero]
  refine wpAnyH_takeD (i := 4) (v := ?_) (some 69) rfl rfl (by kernel_rfl) (by kernel_rfl) (by kernel_rfl) (fun _ _ _ h => h) (Or.inl ⟨by kernel_rfl, ?_⟩) (by assumption) ?_
  rotate_left
  · intro wx hSx
    have g := HLX.out _ hSx
    have g0 := g.1
    have g1 := g.2.1
    have g2 := g.2.2.1
    have g3 := g.2.2.2
    clear g
    go_simp
    try with_reducible rfl
  try simp only [Act.put, List.setIfInBounds_toArray, List.set_cons_succ, List.set_cons_zero]
  refine wpAnyH_ready (rs := [3]) (by kernel_rfl) (by simp) ?_
  refine AllReadyH.cons rfl (fun K hK => ?_) AllReadyH.nil
  go_simp
  with_reducible refine (HC3.out _ hHeld).mono ?_
  rintro e w3 ⟨rfl, hb3⟩
  try go_wp2_with fail
  refine hK.out _ _ (hHeld.trans (hb3.mono (by have := hHeld.size; omega))) (fun hHeld => ?_)
  clear hK K
  try simp only [Act.put, List.setIfInBounds_toArray, List.set_cons_succ, List.set_cons_zero]
  refine wpAnyH_ready (rs := [5]) (by kernel_rfl) (by simp) ?_
  refine AllReadyH.cons rfl (fun K hK => ?_) AllReadyH.nil
  go_simp
  with_reducible refine (HC5.out _ hHeld).mono ?_
  rintro e w3 ⟨rfl, hb3⟩
  try go_wp2_with fail
  refine hK.out _ _ (hHeld.trans (hb3.mono (by have := hHeld.size; omega))) (fun hHeld => ?_)
  clear hK K
  try simp only [Act.put, List.setIfInBounds_toArray, List.set_cons_succ, List.set_cons_zero]
  refine wpAnyH_takeD (i := 6) (v := ?_) (some 71) rfl rfl (by kernel_rfl) (by kernel_rfl) (by kernel_rfl) (fun _ _ _ h => h) (Or.inl ⟨by kernel_rfl, ?_⟩) (by assumption) ?_
  rotate_left
  · intro wx hSx
    go_simp
    try with_reducible rfl
  try simp only [Act.put, List.setIfInBounds_toArray, List.set_cons_succ, List.set_cons_zero]
  refine wpAnyH_takeD (i := 7) (v := ?_) (some 72) rfl rfl (by kernel_rfl) (by kernel_rfl) (by kernel_rfl) (fun _ _ _ h => h) (Or.inl ⟨by kernel_rfl, ?_⟩) (by assumption) ?_
  rotate_left
  · intro wx hSx
    go_simp
    try with_reducible rfl
  try simp only [Act.put, List.setIfInBounds_toArray, List.set_cons_succ, List.set_cons_zero]
  refine wpAnyH_takeD (i := 8) (v := ?_) (some 73) rfl rfl (by kernel_rfl) (by kernel_rfl) (by kernel_rfl) (fun _ _ _ h => h) (Or.inl ⟨by kernel_rfl, ?_⟩) (by assumption) ?_
  rotate_left
  · intro wx hSx
    go_simp
    try with_reducible rfl
  try simp only [Act.put, List.setIfInBounds_toArray, List.set_cons_succ, List.set_cons_zero]
  refine wpAnyH_takeD (i := 9) (v := ?_) (some 74) rfl rfl (by kernel_rfl) (by kernel_rfl) (by kernel_rfl) (fun _ _ _ h => h) (Or.inl ⟨by kernel_rfl, ?_⟩) (by assumption) ?_
  rotate_left
  · intro wx hSx
    have g := HLX.out _ hSx
    have g0 := g.1
    have g1 := g.2.1
    have g2 := g.2.2.1
    have g3 := g.2.2.2
    clear g
    go_simp
    try with_reducible rfl
  try simp only [Act.put, List.setIfInBounds_toArray, List.set_cons_succ, List.set_cons_zero]
  refine wpAnyH_takeD (i := 10) (v := ?_) (some 75) rfl rfl (by kernel_rfl) (by kernel_rfl) (by kernel_rfl) (fun _ _ _ h => h) (Or.inl ⟨by kernel_rfl, ?_⟩) (by assumption) ?_
  rotate_left
  · intro wx hSx
    have g := HLY.out _ hSx
    have g0 := g.1
    have g1 := g.2.1
    have g2 := g.2.2.1
    have g3 := g.2.2.2
    clear g
    go_simp
    try with_reducible rfl
  try simp only [Act.put, List.setIfInBounds_toArray, List.set_cons_succ, List.set_cons_zero]
  refine wpAnyH_takeD (i := 12) (v := ?_) (some 77) rfl rfl (by kernel_rfl) (by kernel_rfl) (by kernel_rfl) (fun _ _ _ h => h) (Or.inl ⟨by kernel_rfl, ?_⟩) (by assumption) ?_
  rotate_left
  · intro wx hSx
    have g := HLX.out _ hSx
    have g0 := g.1
    have g1 := g.2.1
    have g2 := g.2.2.1
    have g3 := g.2.2.2
    clear g
    go_simp
    try with_reducible rfl
  try simp only [Act.put, List.setIfInBounds_toArray, List.set_cons_succ, List.set_cons_zero]
  refine wpAnyH_takeD (i := 13) (v := ?_) (some 78) rfl rfl (by kernel_rfl) (by kernel_rfl) (by kernel_rfl) (fun _ _ _ h => h) (Or.inl ⟨by kernel_rfl, ?_⟩) (by assumption) ?_
  rotate_left
  · intro wx hSx
    have g := HLY.out _ hSx
    have g0 := g.1
    have g1 := g.2.1
    have g2 := g.2.2.1
    have g3 := g.2.2.2
    clear g
    go_simp
    try with_reducible rfl
  try simp only [Act.put, List.setIfInBounds_toArray, List.set_cons_succ, List.set_cons_zero]
  refine wpAnyH_ready (rs := [11]) (by kernel_rfl) (by simp) ?_
  refine AllReadyH.cons rfl (fun K hK => ?_) AllReadyH.nil
  go_simp
  with_reducible refine (HC11.out _ hHeld).mono ?_
  rintro e w3 ⟨rfl, hb3⟩
  try go_wp2_with fail
  refine hK.out _ _ (hHeld.trans (hb3.mono (by have := hHeld.size; omega))) (fun hHeld => ?_)
  clear hK K
  try simp only [Act.put, List.setIfInBounds_toArray, List.set_cons_succ, List.set_cons_zero]
  refine wpAnyH_ready (rs := [14]) (by kernel_rfl) (by simp) ?_
  refine AllReadyH.cons rfl (fun K hK => ?_) AllReadyH.nil
  go_simp
  with_reducible refine (HC14.out _ hHeld).mono ?_
  rintro e w3 ⟨rfl, hb3⟩
  try go_wp2_with fail
  refine hK.out _ _ (hHeld.trans (hb3.mono (by have := hHeld.size; omega))) (fun hHeld => ?_)
  clear hK K
  try simp only [Act.put, List.setIfInBounds_toArray, List.set_cons_succ, List.set_cons_zero]
  refine wpAnyH_takeD (i := 15) (v := ?_) (some 80) rfl rfl (by kernel_rfl) (by kernel_rfl) (by kernel_rfl) (fun _ _ _ h => h) (Or.inl ⟨by kernel_rfl, ?_⟩) (by assumption) ?_
  rotate_left
  · intro wx hSx
    go_simp
    try with_reducible rfl
  try simp only [Act.put, List.setIfInBounds_toArray, List.set_cons_succ, List.set_cons_zero]
  refine wpAnyH_takeD (i := 16) (v := ?_) (some 81) rfl rfl (by kernel_rfl) (by kernel_rfl) (by kernel_rfl) (fun _ _ _ h => h) (Or.inl ⟨by kernel_rfl, ?_⟩) (by assumption) ?_
  rotate_left
  · intro wx hSx
    go_simp
    try with_reducible rfl
  try simp only [Act.put, List.setIfInBounds_toArray, List.set_cons_succ, List.set_cons_zero]
  refine wpAnyH_takeD (i := 17) (v := ?_) (some 82) rfl rfl (by kernel_rfl) (by kernel_rfl) (by kernel_rfl) (fun _ _ _ h => h) (Or.inl ⟨by kernel_rfl, ?_⟩) (by assumption) ?_
  rotate_left
  · intro wx hSx
    go_simp
    try with_reducible rfl
  try simp only [Act.put, List.setIfInBounds_toArray, List.set_cons_succ, List.set_cons_zero]
  refine wpAnyH_takeD (i := 18) (v := ?_) (some 83) rfl rfl (by kernel_rfl) (by kernel_rfl) (by kernel_rfl) (fun _ _ _ h => h) (Or.inl ⟨by kernel_rfl, ?_⟩) (by assumption) ?_
  rotate_left
  · intro wx hSx
    have g := HLX.out _ hSx
    have g0 := g.1
    have g1 := g.2.1
    have g2 := g.2.2.1
    have g3 := g.2.2.2
    clear g
    go_simp
    try with_reducible rfl
  try simp only [Act.put, List.setIfInBounds_toArray, List.set_cons_succ, List.set_cons_zero]
  refine wpAnyH_takeD (i := 19) (v := ?_) (some 84) rfl rfl (by kernel_rfl) (by kernel_rfl) (by kernel_rfl) (fun _ _ _ h => h) (Or.inl ⟨by kernel_rfl, ?_⟩) (by assumption) ?_
  rotate_left
  · intro wx hSx
    have g := HLX.out _ hSx
    have g0 := g.1
    have g1 := g.2.1
    have g2 := g.2.2.1
    have g3 := g.2.2.2
    clear g
    go_simp
    try with_reducible rfl
  try simp only [Act.put, List.setIfInBounds_toArray, List.set_cons_succ, List.set_cons_zero]
  refine wpAnyH_ready (rs := [20]) (by kernel_rfl) (by simp) ?_
  refine AllReadyH.cons rfl (fun K hK => ?_) AllReadyH.nil
  go_simp
  with_reducible refine (HC20.out _ hHeld).mono ?_
  rintro e w3 ⟨rfl, hb3⟩
  try go_wp2_with fail
  refine hK.out _ _ (hHeld.trans (hb3.mono (by have := hHeld.size; omega))) (fun hHeld => ?_)
  clear hK K
  try simp only [Act.put, List.setIfInBounds_toArray, List.set_cons_succ, List.set_cons_zero]
  refine wpAnyH_takeD (i := 21) (v := ?_) (some 86) rfl rfl (by kernel_rfl) (by kernel_rfl) (by kernel_rfl) (fun _ _ _ h => h) (Or.inl ⟨by kernel_rfl, ?_⟩) (by assumption) ?_
  rotate_left
  · intro wx hSx
    go_simp
    try with_reducible rfl
  try simp only [Act.put, List.setIfInBounds_toArray, List.set_cons_succ, List.set_cons_zero]
  refine wpAnyH_takeD (i := 22) (v := ?_) (some 87) rfl rfl (by kernel_rfl) (by kernel_rfl) (by kernel_rfl) (fun _ _ _ h => h) (Or.inl ⟨by kernel_rfl, ?_⟩) (by assumption) ?_
  rotate_left
  · intro wx hSx
    go_simp
    try with_reducible rfl
  try simp only [Act.put, List.setIfInBounds_toArray, List.set_cons_succ, List.set_cons_zero]
  refine wpAnyH_takeD (i := 23) (v := ?_) (some 88) rfl rfl (by kernel_rfl) (by kernel_rfl) (by kernel_rfl) (fun _ _ _ h => h) (Or.inl ⟨by kernel_rfl, ?_⟩) (by assumption) ?_
  rotate_left
  · intro wx hSx
    go_simp
    try with_reducible rfl
  try simp only [Act.put, List.setIfInBounds_toArray, List.set_cons_succ, List.set_cons_zero]
  refine wpAnyH_takeD (i := 24) (v := ?_) (some 89) rfl rfl (by kernel_rfl) (by kernel_rfl) (by kernel_rfl) (fun _ _ _ h => h) (Or.inl ⟨by kernel_rfl, ?_⟩) (by assumption) ?_
  rotate_left
  · intro wx hSx
    go_simp
    try with_reducible rfl
  try simp only [Act.put, List.setIfInBounds_toArray, List.set_cons_succ, List.set_cons_zero]
  refine wpAnyH_takeD (i := 25) (v := ?_) (some 90) rfl rfl (by kernel_rfl) (by kernel_rfl) (by kernel_rfl) (fun _ _ _ h => h) (Or.inl ⟨by kernel_rfl, ?_⟩) (by assumption) ?_
  rotate_left
  · intro wx hSx
    go_simp
    try with_reducible rfl
  try simp only [Act.put, List.setIfInBounds_toArray, List.set_cons_succ, List.set_cons_zero]
  refine wpAnyH_takeD (i := 26) (v := ?_) (some 91) rfl rfl (by kernel_rfl) (by kernel_rfl) (by kernel_rfl) (fun _ _ _ h => h) (Or.inl ⟨by kernel_rfl, ?_⟩) (by assumption) ?_
  rotate_left
  · intro wx hSx
    go_simp
    try with_reducible rfl
  try simp only [Act.put, List.setIfInBounds_toArray, List.set_cons_succ, List.set_cons_zero]
  refine wpAnyH_takeD (i := 27) (v := ?_) (some 92) rfl rfl (by kernel_rfl) (by kernel_rfl) (by kernel_rfl) (fun _ _ _ h => h) (Or.inl ⟨by kernel_rfl, ?_⟩) (by assumption) ?_
  rotate_left
  · intro wx hSx
    go_simp
    try with_reducible rfl
  try simp only [Act.put, List.setIfInBounds_toArray, List.set_cons_succ, List.set_cons_zero]
  refine wpAnyH_takeD (i := 28) (v := ?_) (some 93) rfl rfl (by kernel_rfl) (by kernel_rfl) (by kernel_rfl) (fun _ _ _ h => h) (Or.inl ⟨by kernel_rfl, ?_⟩) (by assumption) ?_
  rotate_left
  · intro wx hSx
    go_simp
    try with_reducible rfl
  try simp only [Act.put, List.setIfInBounds_toArray, List.set_cons_succ, List.set_cons_zero]
  refine wpAnyH_takeD (i := 29) (v := ?_) (some 94) rfl rfl (by kernel_rfl) (by kernel_rfl) (by kernel_rfl) (fun _ _ _ h => h) (Or.inl ⟨by kernel_rfl, ?_⟩) (by assumption) ?_
  rotate_left
  · intro wx hSx
    go_simp
    try with_reducible rfl
  try simp only [Act.put, List.setIfInBounds_toArray, List.set_cons_succ, List.set_cons_zero]
  refine wpAnyH_takeD (i := 30) (v := ?_) (some 95) rfl rfl (by kernel_rfl) (by kernel_rfl) (by kernel_rfl) (fun _ _ _ h => h) (Or.inl ⟨by kernel_rfl, ?_⟩) (by assumption) ?_
  rotate_left
  · intro wx hSx
    go_simp
    try with_reducible rfl
  try simp only [Act.put, List.setIfInBounds_toArray, List.set_cons_succ, List.set_cons_zero]
  refine wpAnyH_takeD (i := 31) (v := ?_) (some 96) rfl rfl (by kernel_rfl) (by kernel_rfl) (by kernel_rfl) (fun _ _ _ h => h) (Or.inl ⟨by kernel_rfl, ?_⟩) (by assumption) ?_
  rotate_left
  · intro wx hSx
    go_simp
    try with_reducible rfl
  try simp only [Act.put, List.setIfInBounds_toArray, List.set_cons_succ, List.set_cons_zero]
  refine wpAnyH_takeD (i := 32) (v := ?_) (some 97) rfl rfl (by kernel_rfl) (by kernel_rfl) (by kernel_rfl) (fun _ _ _ h => h) (Or.inl ⟨by kernel_rfl, ?_⟩) (by assumption) ?_
  rotate_left
  · intro wx hSx
    go_simp
    try with_reducible rfl
  try simp only [Act.put, List.setIfInBounds_toArray, List.set_cons_succ, List.set_cons_zero]
  refine wpAnyH_takeD (i := 33) (v := ?_) (some 98) rfl rfl (by kernel_rfl) (by kernel_rfl) (by kernel_rfl) (fun _ _ _ h => h) (Or.inl ⟨by kernel_rfl, ?_⟩) (by assumption) ?_
  rotate_left
  · intro wx hSx
    have g := HLP.out _ hSx
    have g0 := g.1
    have g1 := g.2.1
    have g2 := g.2.2.1
    have g3 := g.2.2.2
    clear g
    go_simp
    try with_reducible rfl
  try simp only [Act.put, List.setIfInBounds_toArray, List.set_cons_succ, List.set_cons_zero]
  refine wpAnyH_takeD (i := 34) (v := ?_) (some 99) rfl rfl (by kernel_rfl) (by kernel_rfl) (by kernel_rfl) (fun _ _ _ h => h) (Or.inl ⟨by kernel_rfl, ?_⟩) (by assumption) ?_
  rotate_left
  · intro wx hSx
    have g := HLQ.out _ hSx
    have g0 := g.1
    have g1 := g.2.1
    have g2 := g.2.2.1
    have g3 := g.2.2.2
    clear g
    go_simp
    try with_reducible rfl
  try simp only [Act.put, List.setIfInBounds_toArray, List.set_cons_succ, List.set_cons_zero]
  refine wpAnyH_ready (rs := [35]) (by kernel_rfl) (by simp) ?_
  refine AllReadyH.cons rfl (fun K hK => ?_) AllReadyH.nil
  go_simp
  with_reducible refine (HC35.out _ hHeld).mono ?_
  rintro e w3 ⟨rfl, hb3⟩
  try go_wp2_with fail
  refine hK.out _ _ (hHeld.trans (hb3.mono (by have := hHeld.size; omega))) (fun hHeld => ?_)
  clear hK K
  try simp only [Act.put, List.setIfInBounds_toArray, List.set_cons_succ, List.set_cons_zero]
  refine wpAnyH_takeD (i := 36) (v := ?_) (some 101) rfl rfl (by kernel_rfl) (by kernel_rfl) (by kernel_rfl) (fun _ _ _ h => h) (Or.inl ⟨by kernel_rfl, ?_⟩) (by assumption) ?_
  rotate_left
  · intro wx hSx
    go_simp
    try with_reducible rfl
  try simp only [Act.put, List.setIfInBounds_toArray, List.set_cons_succ, List.set_cons_zero]
  refine wpAnyH_takeD (i := 37) (v := ?_) (some 102) rfl rfl (by kernel_rfl) (by kernel_rfl) (by kernel_rfl) (fun _ _ _ h => h) (Or.inl ⟨by kernel_rfl, ?_⟩) (by assumption) ?_
  rotate_left
  · intro wx hSx
    go_simp
    try with_reducible rfl
  try simp only [Act.put, List.setIfInBounds_toArray, List.set_cons_succ, List.set_cons_zero]
  refine wpAnyH_takeD (i := 38) (v := ?_) (some 103) rfl rfl (by kernel_rfl) (by kernel_rfl) (by kernel_rfl) (fun _ _ _ h => h) (Or.inl ⟨by kernel_rfl, ?_⟩) (by assumption) ?_
  rotate_left
  · intro wx hSx
    go_simp
    try with_reducible rfl
  try simp only [Act.put, List.setIfInBounds_toArray, List.set_cons_succ, List.set_cons_zero]
  refine wpAnyH_takeD (i := 39) (v := ?_) (some 104) rfl rfl (by kernel_rfl) (by kernel_rfl) (by kernel_rfl) (fun _ _ _ h => h) (Or.inl ⟨by kernel_rfl, ?_⟩) (by assumption) ?_
  rotate_left
  · intro wx hSx
    go_simp
    try with_reducible rfl
  try simp only [Act.put, List.setIfInBounds_toArray, List.set_cons_succ, List.set_cons_zero]
  refine wpAnyH_takeD (i := 40) (v := ?_) (some 105) rfl rfl (by kernel_rfl) (by kernel_rfl) (by kernel_rfl) (fun _ _ _ h => h) (Or.inl ⟨by kernel_rfl, ?_⟩) (by assumption) ?_
  rotate_left
  · intro wx hSx
    go_simp
    try with_reducible rfl
  try simp only [Act.put, List.setIfInBounds_toArray, List.set_cons_succ, List.set_cons_zero]
  refine wpAnyH_takeD (i := 41) (v := ?_) (some 106) rfl rfl (by kernel_rfl) (by kernel_rfl) (by kernel_rfl) (fun _ _ _ h => h) (Or.inl ⟨by kernel_rfl, ?_⟩) (by assumption) ?_
  rotate_left
  · intro wx hSx
    go_simp
    try with_reducible rfl
  try simp only [Act.put, List.setIfInBounds_toArray, List.set_cons_succ, List.set_cons_zero]
  refine wpAnyH_takeD (i := 42) (v := ?_) (some 107) rfl rfl (by kernel_rfl) (by kernel_rfl) (by kernel_rfl) (fun _ _ _ h => h) (Or.inl ⟨by kernel_rfl, ?_⟩) (by assumption) ?_
  rotate_left
  · intro wx hSx
    go_simp
    try with_reducible rfl
  try simp only [Act.put, List.setIfInBounds_toArray, List.set_cons_succ, List.set_cons_zero]
  refine wpAnyH_takeD (i := 43) (v := ?_) (some 108) rfl rfl (by kernel_rfl) (by kernel_rfl) (by kernel_rfl) (fun _ _ _ h => h) (Or.inl ⟨by kernel_rfl, ?_⟩) (by assumption) ?_
  rotate_left
  · intro wx hSx
    go_simp
    try with_reducible rfl
  try simp only [Act.put, List.setIfInBounds_toArray, List.set_cons_succ, List.set_cons_zero]
  refine wpAnyH_takeD (i := 44) (v := ?_) (some 109) rfl rfl (by kernel_rfl) (by kernel_rfl) (by kernel_rfl) (fun _ _ _ h => h) (Or.inl ⟨by kernel_rfl, ?_⟩) (by assumption) ?_
  rotate_left
  · intro wx hSx
    go_simp
    try with_reducible rfl
  try simp only [Act.put, List.setIfInBounds_toArray, List.set_cons_succ, List.set_cons_zero]
  refine wpAnyH_takeD (i := 45) (v := ?_) (some 110) rfl rfl (by kernel_rfl) (by kernel_rfl) (by kernel_rfl) (fun _ _ _ h => h) (Or.inl ⟨by kernel_rfl, ?_⟩) (by assumption) ?_
  rotate_left
  · intro wx hSx
    go_simp
    try with_reducible rfl
  try simp only [Act.put, List.setIfInBounds_toArray, List.set_cons_succ, List.set_cons_zero]
  refine wpAnyH_takeD (i := 46) (v := ?_) (some 111) rfl rfl (by kernel_rfl) (by kernel_rfl) (by kernel_rfl) (fun _ _ _ h => h) (Or.inl ⟨by kernel_rfl, ?_⟩) (by assumption) ?_
  rotate_left
  · intro wx hSx
    go_simp
    try with_reducible rfl
  try simp only [Act.put, List.setIfInBounds_toArray, List.set_cons_succ, List.set_cons_zero]
  refine wpAnyH_takeD (i := 47) (v := ?_) (some 112) rfl rfl (by kernel_rfl) (by kernel_rfl) (by kernel_rfl) (fun _ _ _ h => h) (Or.inl ⟨by kernel_rfl, ?_⟩) (by assumption) ?_
  rotate_left
  · intro wx hSx
    go_simp
    try with_reducible rfl
  try simp only [Act.put, List.setIfInBounds_toArray, List.set_cons_succ, List.set_cons_zero]
  refine wpAnyH_takeD (i := 48) (v := ?_) (some 113) rfl rfl (by kernel_rfl) (by kernel_rfl) (by kernel_rfl) (fun _ _ _ h => h) (Or.inl ⟨by kernel_rfl, ?_⟩) (by assumption) ?_
  rotate_left
  · intro wx hSx
    have g := HLR.out _ hSx
    have g0 := g.1
    have g1 := g.2.1
    have g2 := g.2.2.1
    have g3 := g.2.2.2
    clear g
    go_simp
    try with_reducible rfl
  try simp only [Act.put, List.setIfInBounds_toArray, List.set_cons_succ, List.set_cons_zero]
  refine wpAnyH_takeD (i := 49) (v := ?_) (some 114) rfl rfl (by kernel_rfl) (by kernel_rfl) (by kernel_rfl) (fun _ _ _ h => h) (Or.inl ⟨by kernel_rfl, ?_⟩) (by assumption) ?_
  rotate_left
  · intro wx hSx
    have g := HLZ.out _ hSx
    have g0 := g.1
    have g1 := g.2.1
    have g2 := g.2.2.1
    have g3 := g.2.2.2
    clear g
    go_simp
    try with_reducible rfl
  try simp only [Act.put, List.setIfInBounds_toArray, List.set_cons_succ, List.set_cons_zero]
  refine wpAnyH_ready (rs := [50]) (by kernel_rfl) (by simp) ?_
  refine AllReadyH.cons rfl (fun K hK => ?_) AllReadyH.nil
  go_simp
  with_reducible refine (HC50.out _ hHeld).mono ?_
  rintro e w3 ⟨rfl, hb3⟩
  try go_wp2_with fail
  refine hK.out _ _ (hHeld.trans (hb3.mono (by have := hHeld.size; omega))) (fun hHeld => ?_)
  clear hK K
  try simp only [Act.put, List.setIfInBounds_toArray, List.set_cons_succ, List.set_cons_zero]
  refine wpAnyH_takeD (i := 51) (v := ?_) (some 116) rfl rfl (by kernel_rfl) (by kernel_rfl) (by kernel_rfl) (fun _ _ _ h => h) (Or.inl ⟨by kernel_rfl, ?_⟩) (by assumption) ?_
  rotate_left
  · intro wx hSx
    go_simp
    try with_reducible rfl
  try simp only [Act.put, List.setIfInBounds_toArray, List.set_cons_succ, List.set_cons_zero]
  refine wpAnyH_takeD (i := 52) (v := ?_) (some 117) rfl rfl (by kernel_rfl) (by kernel_rfl) (by kernel_rfl) (fun _ _ _ h => h) (Or.inl ⟨by kernel_rfl, ?_⟩) (by assumption) ?_
  rotate_left
  · intro wx hSx
    go_simp
    try with_reducible rfl
  try simp only [Act.put, List.setIfInBounds_toArray, List.set_cons_succ, List.set_cons_zero]
  refine wpAnyH_takeD (i := 53) (v := ?_) (some 118) rfl rfl (by kernel_rfl) (by kernel_rfl) (by kernel_rfl) (fun _ _ _ h => h) (Or.inl ⟨by kernel_rfl, ?_⟩) (by assumption) ?_
  rotate_left
  · intro wx hSx
    go_simp
    try with_reducible rfl
  try simp only [Act.put, List.setIfInBounds_toArray, List.set_cons_succ, List.set_cons_zero]
  refine wpAnyH_takeD (i := 54) (v := ?_) (some 119) rfl rfl (by kernel_rfl) (by kernel_rfl) (by kernel_rfl) (fun _ _ _ h => h) (Or.inl ⟨by kernel_rfl, ?_⟩) (by assumption) ?_
  rotate_left
  · intro wx hSx
    go_simp
    try with_reducible rfl
  try simp only [Act.put, List.setIfInBounds_toArray, List.set_cons_succ, List.set_cons_zero]
  refine wpAnyH_takeD (i := 55) (v := ?_) (some 120) rfl rfl (by kernel_rfl) (by kernel_rfl) (by kernel_rfl) (fun _ _ _ h => h) (Or.inl ⟨by kernel_rfl, ?_⟩) (by assumption) ?_
  rotate_left
  · intro wx hSx
    go_simp
    try with_reducible rfl
  try simp only [Act.put, List.setIfInBounds_toArray, List.set_cons_succ, List.set_cons_zero]
  refine wpAnyH_takeD (i := 56) (v := ?_) (some 121) rfl rfl (by kernel_rfl) (by kernel_rfl) (by kernel_rfl) (fun _ _ _ h => h) (Or.inl ⟨by kernel_rfl, ?_⟩) (by assumption) ?_
  rotate_left
  · intro wx hSx
    go_simp
    try with_reducible rfl
  try simp only [Act.put, List.setIfInBounds_toArray, List.set_cons_succ, List.set_cons_zero]
  refine wpAnyH_takeD (i := 57) (v := ?_) (some 8) rfl rfl (by kernel_rfl) (by kernel_rfl) (by kernel_rfl) (fun _ _ _ h => h) (Or.inl ⟨by kernel_rfl, ?_⟩) (by assumption) ?_
  rotate_left
  · intro wx hSx
    go_simp
    try with_reducible rfl
  try simp only [Act.put, List.setIfInBounds_toArray, List.set_cons_succ, List.set_cons_zero]
  refine wpAnyH_done (by kernel_rfl) ?_ _
  go_wp2_with fail
  go_ret
  exact ⟨by first | rfl | simp, (hT7.later hHeld).bel⟩

end Go.Proofs.YtmoghgmbpkpcfaaGreatDoor
