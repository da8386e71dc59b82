/-
  Package queue: entry. Conditions: nums' listed variables hold what 'NInv' says. A queue's state in memory: put. Conditions: as the theorem's own hypotheses say.
-/
import Derived.Test.YtmebjdbkngehiaaGreatDoorQhB
import Derived.Test.YtmebjdbkngehiaaGreatDoorQgA
import Derived.Test.YtmebjdbkngehiaaGreatDoorQuE
namespace Go.Proofs.YtmebjdbkngehiaaGreatDoor
open Go.RowKit
set_option maxHeartbeats 40000000
variable {W w : World} {g : Nat} {a0 a1 a2 a3 a4 a5 a6 : Value} {c : QC} {v : QV}
theorem andNot128 : ∀ n : Nat, n < 256 → bits .andNot .u8 (n : Int) 128 = ((n % 128 : Nat) : Int) := by decide +kernel
theorem ent_agg (w : World) : (isAgg 23).run Tryz.prog w = .ok true w := by kernel_rfl
theorem load_ent (h : Blk W g 23 #[a0, a1, a2, a3, a4, a5, a6]) : (loadVar 23 ⟨g, 0, none⟩).run Tryz.prog W = .ok (.agg #[a0, a1, a2, a3, a4, a5, a6]) W := by
 obtain ⟨⟨h0, h1, h2, h3, h4, h5, h6⟩, -⟩ := h.c7
 unfold loadVar
 simp only [Sem.run_bind, ent_agg, Result.andThen]
 simp [loadCells, loadCellsFrom, h0, h1, h2, h3, h4, h5, h6, Result.andThen, Addr.add]
theorem ret_ent2 {fn : Func} {pt u : Tmp} (h : fn.results = #[.cell pt 23, .tmp u]) {tmps : Array Value} {W : World} {g : Nat} {a0 a1 a2 a3 a4 a5 a6 : Value} (hp : tmps.getD pt undef = .pointer (some ⟨g, 0, none⟩)) (hB : Blk W g 23 #[a0, a1, a2, a3, a4, a5, a6]) :
  (results fn tmps).run Tryz.prog W = .ok (.tuple #[.agg #[a0, a1, a2, a3, a4, a5, a6], tmps.getD u undef]) W := by
 rw [results_cell_tmp h, hp]
 simp [asAddr, load_ent hB, Result.andThen]
theorem cut_size (s : ByteArray) (a n : Int) : (cutV s a n).1.size ≤ s.size := by
 unfold cutV
 split
 ·show (s.extract _ _).size ≤ _
  rw [ByteArray.size_extract]; omega
 ·show ByteArray.empty.size ≤ _
  exact Nat.zero_le _
theorem rest_size (s : ByteArray) (a : Int) : (restV s a).1.size ≤ s.size := by
 unfold restV
 split
 ·show (s.extract _ _).size ≤ _
  rw [ByteArray.size_extract]; omega
 ·show ByteArray.empty.size ≤ _
  exact Nat.zero_le _
theorem blk_set7 {t : TypeId} (h : Blk w g t #[a0, a1, a2, a3, a4, a5, a6]) (u0 u1 u2 u3 u4 u5 u6 : Value) :
  Blk (((((((w.setCell ⟨g, 0, none⟩ u0).setCell ⟨g, 1, none⟩ u1).setCell ⟨g, 2, none⟩ u2).setCell ⟨g, 3, none⟩ u3).setCell ⟨g, 4, none⟩ u4).setCell ⟨g, 5, none⟩ u5).setCell ⟨g, 6, none⟩ u6) g t #[u0, u1, u2, u3, u4, u5, u6] := by
 have q := ((((((h.set_ 0 u0).set_ 1 u1).set_ 2 u2).set_ 3 u3).set_ 4 u4).set_ 5 u5).set_ 6 u6
 simp only [List.setIfInBounds_toArray, List.set_cons_succ, List.set_cons_zero] at q
 exact q
theorem getD_at (s : ByteArray) (i : Nat) (h : i < s.size) : s.data.toList.getD i 0 = s[i] := by
 have hl : i < s.data.toList.length := by rw [Array.length_toList]; exact h
 rw [List.getD_eq_getElem?_getD, List.getElem?_eq_getElem hl]
 simp [ByteArray.getElem_eq_getElem_data]
set_option maxRecDepth 100000 in
theorem entry_short (op id : Int) (d : ByteArray) (w : World) (h : d.size < 8) :
  Calls Tryz.prog 153 #[.agg #[.int .i64 op, .int .i64 id, .string d]] w (Ret (.tuple #[EI.nil.val, .bool false]) w) := by
 have hi : (d.size : Int) < 8 := by omega
 have hb0 := ext_alloc (ext_alloc (ext_new w (.cells #[.int .i64 op, .int .i64 id, .string d] 128)) (.cells #[.int .i64 0, .int .i64 0, .string ⟨#[]⟩, .string ⟨#[]⟩, .int .i64 0, .bool false, .bool false] 23)) (.cells #[.int .i64 0, .int .i64 0, .string ⟨#[]⟩, .string ⟨#[]⟩, .int .i64 0, .bool false, .bool false] 23)
 have hT := (Blk.new_ (w.alloc (.cells #[.int .i64 op, .int .i64 id, .string d] 128)) 23 #[.int .i64 0, .int .i64 0, .string ⟨#[]⟩, .string ⟨#[]⟩, .int .i64 0, .bool false, .bool false]).alloc (.cells #[.int .i64 0, .int .i64 0, .string ⟨#[]⟩, .string ⟨#[]⟩, .int .i64 0, .bool false, .bool false] 23)
 simp only [World.size_alloc] at hT
 have HT := Lib.hid hT
 have HB := Lib.hid hb0
 clear hT hb0
 go_enter Tryz.func153, Tryz.ntmps153
 go_wp2_with fail
 refine bodyPost_ret (v := _) (ret_ent2 (pt := 2) (u := 3) (by kernel_rfl) rfl HT.out) rfl ⟨rfl, HB.out⟩
set_option maxRecDepth 100000 in
theorem entry_long (op id : Int) (d : ByteArray) (w : World) (aN aW aS : Addr) (hI : NInv w aN aW aS) (h : 8 ≤ d.size) (hz : d.size ≤ 1000000) :
  Calls Tryz.prog 153 #[.agg #[.int .i64 op, .int .i64 id, .string d]] w (Ret (.tuple #[(roughE ⟨op, id, d⟩).val, .bool (isE ⟨op, id, d⟩)]) w) := by
 have hi : ¬ ((d.size : Int) < 8) := by omega
 have hb0 := ext_alloc (ext_alloc (ext_new w (.cells #[.int .i64 op, .int .i64 id, .string d] 128)) (.cells #[.int .i64 0, .int .i64 0, .string ⟨#[]⟩, .string ⟨#[]⟩, .int .i64 0, .bool false, .bool false] 23)) (.cells #[.int .i64 0, .int .i64 0, .string ⟨#[]⟩, .string ⟨#[]⟩, .int .i64 0, .bool false, .bool false] 23)
 have hR := ((Blk.new_ w 128 #[.int .i64 op, .int .i64 id, .string d]).alloc (.cells #[.int .i64 0, .int .i64 0, .string ⟨#[]⟩, .string ⟨#[]⟩, .int .i64 0, .bool false, .bool false] 23)).alloc (.cells #[.int .i64 0, .int .i64 0, .string ⟨#[]⟩, .string ⟨#[]⟩, .int .i64 0, .bool false, .bool false] 23)
 have hT := fun W hW => Take_any d 1 6 W aN aW aS hW (by omega) (by omega) (by omega)
 have hT0 := (Blk.new_ (w.alloc (.cells #[.int .i64 op, .int .i64 id, .string d] 128)) 23 #[.int .i64 0, .int .i64 0, .string ⟨#[]⟩, .string ⟨#[]⟩, .int .i64 0, .bool false, .bool false]).alloc (.cells #[.int .i64 0, .int .i64 0, .string ⟨#[]⟩, .string ⟨#[]⟩, .int .i64 0, .bool false, .bool false] 23)
 have hN := Blk.new_ ((w.alloc (.cells #[.int .i64 op, .int .i64 id, .string d] 128)).alloc (.cells #[.int .i64 0, .int .i64 0, .string ⟨#[]⟩, .string ⟨#[]⟩, .int .i64 0, .bool false, .bool false] 23)) 23 #[.int .i64 0, .int .i64 0, .string ⟨#[]⟩, .string ⟨#[]⟩, .int .i64 0, .bool false, .bool false]
 simp only [World.size_alloc] at hT0 hN
 obtain ⟨x0, x1, x2, -⟩ := hR.c3
 go_enter Tryz.func153, Tryz.ntmps153
 obtain ⟨b7, hb7⟩ : ∃ b, d[7]'(by omega) = b := ⟨_, rfl⟩
 obtain ⟨b0, hb00⟩ : ∃ b, d[0]'(by omega) = b := ⟨_, rfl⟩
 have h7 : b7.toNat < 256 := b7.toNat_lt
 have h0 : b0.toNat < 256 := b0.toNat_lt
 have hC := fun W hW => Cut_any d 8 (b7.toNat : Int) W aN aW aS hW (by omega) (by omega) (by omega)
 have hRs := fun W hW => Rest_any d (8 + (b7.toNat : Int)) W aN aW aS hW (by omega)
 go_wp2_with fail
 refine (hT _ (hI.below hb0)).mono ?_
 rintro e w3 ⟨rfl, hb3⟩
 replace hR := hR.below hb3
 replace hT0 := hT0.below hb3
 replace hN := hN.below hb3
 replace hb0 := ext_trans hb0 hb3
 clear x0 x1 x2 hb3 hT
 obtain ⟨x0, x1, x2, -⟩ := hR.c3
 have j7 : (7 : Int) < (d.size : Int) := by omega
 go_wp2_with fail
 refine (hC _ (hI.below hb0)).mono ?_
 rintro e w4 ⟨rfl, hb3⟩
 replace hR := hR.below hb3
 replace hT0 := hT0.below hb3
 replace hN := hN.below hb3
 replace hb0 := ext_trans hb0 hb3
 clear x0 x1 x2 hb3 hC
 obtain ⟨x0, x1, x2, -⟩ := hR.c3
 go_wp2_with fail
 refine (hRs _ (hI.below hb0)).mono ?_
 rintro e w5 ⟨rfl, hb3⟩
 replace hR := hR.below hb3
 replace hT0 := hT0.below hb3
 replace hN := hN.below hb3
 replace hb0 := ext_trans hb0 hb3
 clear x0 x1 x2 hb3 hRs
 obtain ⟨x0, x1, x2, -⟩ := hR.c3
 go_wp2_with fail
 have h00 : 0 < d.size := by omega
 have hwr : IntKind.i64.wrap ((b0.toNat : Int) % 128) = (b0.toNat : Int) % 128 := IntWalk.i64_in _ (by omega)
 have hdc : decide ((128 : Int) ≤ (b0.toNat : Int)) = decide (128 ≤ b0.toNat) := decide_eq_decide.2 (by omega)
 have hrough : roughE ⟨op, id, d⟩ = ⟨id, ((b0.toNat : Int) % 128), (cutV d 8 (b7.toNat : Int)).1, (restV d (8 + (b7.toNat : Int))).1, (takeV d 1 6).1, decide (128 ≤ b0.toNat), false⟩ := by
  unfold roughE
  rw [if_neg (show ¬ d.size < 8 by omega)]
  dsimp only
  rw [getD_at d 0 (by omega), getD_at d 7 (by omega), hb7, hb00, show ((b0.toNat % 128 : Nat) : Int) = (b0.toNat : Int) % 128 by omega]
 have HE := Lib.hid hrough
 have HIS := Lib.hid (show isE ⟨op, id, d⟩ = ((roughE ⟨op, id, d⟩).right && (roughE ⟨op, id, d⟩).ri.same ⟨op, id, d⟩) from by simp only [isE, RI.same, Bool.and_assoc])
 have hsz1 : (cutV d 8 (b7.toNat : Int)).1.size ≤ 1000000 := Nat.le_trans (cut_size _ _ _) hz
 have hsz2 : (restV d (8 + (b7.toNat : Int))).1.size ≤ 1000000 := Nat.le_trans (rest_size _ _) hz
 clear hrough
 have hbit := andNot128 b0.toNat h0
 replace hR : Blk w5.drew _ _ _ := hR
 replace hT0 : Blk w5.drew _ _ _ := hT0
 replace hN : Blk w5.drew _ _ _ := hN
 replace hb0 : Below w.heap.size w w5.drew := hb0.drew
 clear x0 x1 x2
 refine wp_region_held_drew (S := (Below w5.drew.heap.size w5.drew)) (by kernel_rfl) (Below.refl _ _) (fun hHeld => ?_)
 generalize w5.drew = W0 at *
 have hlr := hR.lt
 have hNlt := hN.lt
 obtain ⟨x0, x1, x2, -⟩ := hR.c3
 refine tk_ 0 44 rfl rfl ?_
 refine tk_ 1 45 rfl rfl ?_ (fun wx hSx => by have y1 := (hSx.cell (p := ⟨w.heap.size, 1, none⟩) hlr).trans x1; have y2 := (hSx.cell (p := ⟨w.heap.size, 2, none⟩) hlr).trans x2; go_simp; try with_reducible rfl)
 refine tk_ 2 46 rfl rfl ?_
 refine tk_ 3 47 rfl rfl ?_ (fun wx hSx => by have y1 := (hSx.cell (p := ⟨w.heap.size, 1, none⟩) hlr).trans x1; have y2 := (hSx.cell (p := ⟨w.heap.size, 2, none⟩) hlr).trans x2; go_simp; try with_reducible rfl)
 refine tk_ 4 48 rfl rfl ?_
 refine tk_ 5 49 rfl rfl ?_
 refine tk_ 6 50 rfl rfl ?_
 refine tk_ 7 51 rfl rfl ?_
 refine tk_ 8 52 rfl rfl ?_
 refine tk_ 9 53 rfl rfl ?_
 refine tk_ 10 54 rfl rfl ?_
 refine tk_ 11 55 rfl rfl ?_ (fun wx hSx => by have y1 := (hSx.cell (p := ⟨w.heap.size, 1, none⟩) hlr).trans x1; have y2 := (hSx.cell (p := ⟨w.heap.size, 2, none⟩) hlr).trans x2; go_simp; try with_reducible rfl)
 refine tk_ 12 56 rfl rfl ?_
 refine tk_ 13 57 rfl rfl ?_
 refine tk_ 14 58 rfl rfl ?_
 refine rdy1 15 rfl (fun K hK => ?_)
 go_simp
 refine hK.out _ _ (hHeld.alloc (Nat.le_refl _) _) (fun hHeld => ?_)
 clear hK K
 refine rdy1 16 rfl (fun K hK => ?_)
 go_simp
 refine hK.out _ _ (Below.alloc (Below.refl _ _) (Nat.le_refl _) _) (fun hHeld => ?_)
 clear hK K
 refine wpAnyH_done (by kernel_rfl) ?_ _
 have hE := Blk.new_ W0 23 #[.int .i64 id, .int .i64 ((b0.toNat : Int) % 128), .string (cutV d 8 (b7.toNat : Int)).1, .string (restV d (8 + (b7.toNat : Int))).1, .int .i64 (takeV d 1 6).1, .bool (decide (128 ≤ b0.toNat)), .bool false]
 replace hR := hR.alloc (.cells #[.int .i64 id, .int .i64 ((b0.toNat : Int) % 128), .string (cutV d 8 (b7.toNat : Int)).1, .string (restV d (8 + (b7.toNat : Int))).1, .int .i64 (takeV d 1 6).1, .bool (decide (128 ≤ b0.toNat)), .bool false] 23)
 replace hT0 := hT0.alloc (.cells #[.int .i64 id, .int .i64 ((b0.toNat : Int) % 128), .string (cutV d 8 (b7.toNat : Int)).1, .string (restV d (8 + (b7.toNat : Int))).1, .int .i64 (takeV d 1 6).1, .bool (decide (128 ≤ b0.toNat)), .bool false] 23)
 replace hN := hN.alloc (.cells #[.int .i64 id, .int .i64 ((b0.toNat : Int) % 128), .string (cutV d 8 (b7.toNat : Int)).1, .string (restV d (8 + (b7.toNat : Int))).1, .int .i64 (takeV d 1 6).1, .bool (decide (128 ≤ b0.toNat)), .bool false] 23)
 replace hb0 := ext_alloc hb0 (.cells #[.int .i64 id, .int .i64 ((b0.toNat : Int) % 128), .string (cutV d 8 (b7.toNat : Int)).1, .string (restV d (8 + (b7.toNat : Int))).1, .int .i64 (takeV d 1 6).1, .bool (decide (128 ≤ b0.toNat)), .bool false] 23)
 have hge : w.heap.size + 1 + 1 < W0.heap.size := by have := hNlt; omega
 generalize W0.alloc (.cells #[.int .i64 id, .int .i64 ((b0.toNat : Int) % 128), .string (cutV d 8 (b7.toNat : Int)).1, .string (restV d (8 + (b7.toNat : Int))).1, .int .i64 (takeV d 1 6).1, .bool (decide (128 ≤ b0.toNat)), .bool false] 23) = W at *
 generalize W0.heap.size = ge at *
 clear hHeld x0 x1 x2 hlr hNlt h00 hbit j7 h7 h0 hwr hdc
 generalize (takeV d 1 6).2 = t2 at *
 generalize (cutV d 8 (b7.toNat : Int)).2 = c2 at *
 generalize (restV d (8 + (b7.toNat : Int))).2 = r2 at *
 generalize (takeV d 1 6).1 = eu at *
 generalize (cutV d 8 (b7.toNat : Int)).1 = ek at *
 generalize (restV d (8 + (b7.toNat : Int))).1 = ed at *
 generalize decide (128 ≤ b0.toNat) = ec at *
 generalize ((b0.toNat : Int) % 128) = sd at *
 have HLE := Lib.hid (fun (V : World) (hV : Besides (w.heap.size + 1) W V) => ((hE.kept (hV.block _ hE.lt (by omega))).c7.1))
 have HLN := Lib.hid (fun (V : World) (hV : Besides (w.heap.size + 1) W V) => ((hN.kept (hV.block _ hN.lt (by omega))).c7.1))
 have HLR := Lib.hid (fun (V : World) (hV : Besides (w.heap.size + 1) W V) => (show V.cell? ⟨w.heap.size, 0, none⟩ = some (.int .i64 op) ∧ V.cell? ⟨w.heap.size, 1, none⟩ = some (.int .i64 id) ∧ V.cell? ⟨w.heap.size, 2, none⟩ = some (.string d) from by
  obtain ⟨k0, k1, k2, -⟩ := (hR.kept (hV.block _ hR.lt (by omega))).c3
  exact ⟨k0, k1, k2⟩))
 have HBB := Lib.hid (fun (V : World) (hV : Besides (w.heap.size + 1) W V) => (show Below w.heap.size w V from hb0.trans (hV.below (Nat.le_succ _) hb0.size)))
 have HBL := HBB
 have HNE := Lib.hid (fun (V : World) => ent_neq_run ⟨id, sd, ek, ed, eu, ec, false⟩ EI.nil V)
 have HSZ1 := Lib.hid hsz1
 have HSZ2 := Lib.hid hsz2
 clear hsz1 hsz2
 go_wp2_with fail
 have hTc : Blk W.drew _ _ _ := hT0
 clear hT0 HNE
 cases hsm : EI.same ⟨id, sd, ek, ed, eu, ec, false⟩ EI.nil with
 | true =>
  have hri : EI.right ⟨id, sd, ek, ed, eu, ec, false⟩ = false := by rw [(EI.same_iff _ _).1 hsm]; rfl
  have HRI := Lib.hid hri
  have hne : ∀ V, (binOp .neq 23 (.agg #[.int .i64 id, .int .i64 sd, .string ek, .string ed, .int .i64 eu, .bool ec, .bool false]) (.agg #[.int .i64 0, .int .i64 0, .string ⟨#[]⟩, .string ⟨#[]⟩, .int .i64 0, .bool false, .bool false])).run Tryz.prog V = .ok (.bool false) V := fun V => by
   have h := ent_neq_run ⟨id, sd, ek, ed, eu, ec, false⟩ EI.nil V
   rw [hsm] at h
   exact h
  clear hri hsm
  refine wp_region_held_drew (S := (Besides (w.heap.size + 1) W)) (by kernel_rfl) (Besides.of_below (Below.refl _ _).drew) (fun hHeld => ?_)
  generalize W.drew = WD at *
  refine tk_ 0 59 rfl rfl ?_ (fun wx hSx => by have g := HLE.out _ hSx; have g0 := g.1; have g1 := g.2.1; have g2 := g.2.2.1; have g3 := g.2.2.2.1; have g4 := g.2.2.2.2.1; have g5 := g.2.2.2.2.2.1; have g6 := g.2.2.2.2.2.2; clear g; go_simp; try with_reducible rfl)
  refine tk_ 1 60 rfl rfl ?_ (fun wx hSx => by have g := HLE.out _ hSx; have g0 := g.1; have g1 := g.2.1; have g2 := g.2.2.1; have g3 := g.2.2.2.1; have g4 := g.2.2.2.2.1; have g5 := g.2.2.2.2.2.1; have g6 := g.2.2.2.2.2.2; clear g; go_simp; try with_reducible rfl)
  refine tk_ 2 61 rfl rfl ?_ (fun wx hSx => by have g := HLN.out _ hSx; have g0 := g.1; have g1 := g.2.1; have g2 := g.2.2.1; have g3 := g.2.2.2.1; have g4 := g.2.2.2.2.1; have g5 := g.2.2.2.2.2.1; have g6 := g.2.2.2.2.2.2; clear g; go_simp; try with_reducible rfl)
  refine tk_ 3 62 rfl rfl ?_
  refine tk_ 4 63 rfl rfl ?_
  refine wpAnyH_no (i := 5) (some 64) rfl rfl ?_
  refine wpAnyH_no (i := 6) (some 65) rfl rfl ?_
  refine tk_ 7 66 rfl rfl ?_
  refine tk_ 8 67 rfl rfl ?_
  refine wpAnyH_no (i := 9) (some 68) rfl rfl ?_
  refine wpAnyH_no (i := 10) (some 69) rfl rfl ?_
  refine wpAnyH_no (i := 11) (some 70) rfl rfl ?_
  refine wpAnyH_no (i := 12) (some 71) rfl rfl ?_
  refine tk_ 13 72 rfl rfl ?_
  refine rdy1 14 rfl (fun K hK => ?_)
  have HF := Lib.hid (blk_set7 hTc (.int .i64 id) (.int .i64 sd) (.string ek) (.string ed) (.int .i64 eu) (.bool ec) (.bool false))
  have p := hTc.c7
  have p0 := p.1.1
  have p1 := p.1.2.1
  have p2 := p.1.2.2.1
  have p3 := p.1.2.2.2.1
  have p4 := p.1.2.2.2.2.1
  have p5 := p.1.2.2.2.2.2.1
  have p6 := p.1.2.2.2.2.2.2
  have q0 := p.2.1
  have q1 := p.2.2.1
  have q2 := p.2.2.2.1
  have q3 := p.2.2.2.2.1
  have q4 := p.2.2.2.2.2.1
  have q5 := p.2.2.2.2.2.2.1
  have q6 := p.2.2.2.2.2.2.2
  clear p
  go_simp
  clear p0 p1 p2 p3 p4 p5 p6 q0 q1 q2 q3 q4 q5 q6 hTc
  refine hK.out _ _ (((((((hHeld.set_ 0 _).set_ 1 _).set_ 2 _).set_ 3 _).set_ 4 _).set_ 5 _).set_ 6 _) (fun hHeld => ?_)
  clear hK K
  refine tk_ 15 3 rfl rfl ?_
  refine wpAnyH_done (by kernel_rfl) ?_ _
  go_wp2_with fail
  refine bodyPost_ret (v := _) (ret_ent2 (pt := 2) (u := 3) (by kernel_rfl) rfl HF.out) rfl ⟨?_, HBL.out _ hHeld⟩
  rw [HIS.out, HE.out, HRI.out]
  rfl
 | false =>
  have hne : ∀ V, (binOp .neq 23 (.agg #[.int .i64 id, .int .i64 sd, .string ek, .string ed, .int .i64 eu, .bool ec, .bool false]) (.agg #[.int .i64 0, .int .i64 0, .string ⟨#[]⟩, .string ⟨#[]⟩, .int .i64 0, .bool false, .bool false])).run Tryz.prog V = .ok (.bool true) V := fun V => by
   have h := ent_neq_run ⟨id, sd, ek, ed, eu, ec, false⟩ EI.nil V
   rw [hsm] at h
   exact h
  have hC6 := fun (V : World) (hV : Besides (w.heap.size + 1) W V) => isRight_any ⟨id, sd, ek, ed, eu, ec, false⟩ V HSZ1.out HSZ2.out
  unfold EI.val at hC6
  clear hsm
  cases hri : EI.right ⟨id, sd, ek, ed, eu, ec, false⟩ with
  | false =>
   have HRI := Lib.hid hri
   rw [hri] at hC6
   have HC6 := Lib.hid hC6
   clear hri hC6
   refine wp_region_held_drew (S := (Besides (w.heap.size + 1) W)) (by kernel_rfl) (Besides.of_below (Below.refl _ _).drew) (fun hHeld => ?_)
   generalize W.drew = WD at *
   refine tk_ 0 59 rfl rfl ?_ (fun wx hSx => by have g := HLE.out _ hSx; have g0 := g.1; have g1 := g.2.1; have g2 := g.2.2.1; have g3 := g.2.2.2.1; have g4 := g.2.2.2.2.1; have g5 := g.2.2.2.2.2.1; have g6 := g.2.2.2.2.2.2; clear g; go_simp; try with_reducible rfl)
   refine tk_ 1 60 rfl rfl ?_ (fun wx hSx => by have g := HLE.out _ hSx; have g0 := g.1; have g1 := g.2.1; have g2 := g.2.2.1; have g3 := g.2.2.2.1; have g4 := g.2.2.2.2.1; have g5 := g.2.2.2.2.2.1; have g6 := g.2.2.2.2.2.2; clear g; go_simp; try with_reducible rfl)
   refine tk_ 2 61 rfl rfl ?_ (fun wx hSx => by have g := HLN.out _ hSx; have g0 := g.1; have g1 := g.2.1; have g2 := g.2.2.1; have g3 := g.2.2.2.1; have g4 := g.2.2.2.2.1; have g5 := g.2.2.2.2.2.1; have g6 := g.2.2.2.2.2.2; clear g; go_simp; try with_reducible rfl)
   refine tk_ 3 62 rfl rfl ?_
   refine tk_ 4 63 rfl rfl ?_
   refine tk_ 5 64 rfl rfl ?_ (fun wx hSx => by have g := HLE.out _ hSx; have g0 := g.1; have g1 := g.2.1; have g2 := g.2.2.1; have g3 := g.2.2.2.1; have g4 := g.2.2.2.2.1; have g5 := g.2.2.2.2.2.1; have g6 := g.2.2.2.2.2.2; clear g; go_simp; try with_reducible rfl)
   refine rdy1 6 rfl (fun K hK => ?_)
   go_simp
   with_reducible refine (HC6.out _ hHeld).mono ?_
   rintro e w3 ⟨rfl, hb3⟩
   try go_wp2_with fail
   replace hTc := hTc.below hb3
   refine hK.out _ _ (hHeld.trans (Besides.of_below hb3)) (fun hHeld => ?_)
   clear hK K
   refine tk_ 7 66 rfl rfl ?_
   refine tk_ 8 67 rfl rfl ?_
   refine wpAnyH_no (i := 9) (some 68) rfl rfl ?_
   refine wpAnyH_no (i := 10) (some 69) rfl rfl ?_
   refine wpAnyH_no (i := 11) (some 70) rfl rfl ?_
   refine wpAnyH_no (i := 12) (some 71) rfl rfl ?_
   refine tk_ 13 72 rfl rfl ?_
   refine rdy1 14 rfl (fun K hK => ?_)
   have HF := Lib.hid (blk_set7 hTc (.int .i64 id) (.int .i64 sd) (.string ek) (.string ed) (.int .i64 eu) (.bool ec) (.bool false))
   have p := hTc.c7
   have p0 := p.1.1
   have p1 := p.1.2.1
   have p2 := p.1.2.2.1
   have p3 := p.1.2.2.2.1
   have p4 := p.1.2.2.2.2.1
   have p5 := p.1.2.2.2.2.2.1
   have p6 := p.1.2.2.2.2.2.2
   have q0 := p.2.1
   have q1 := p.2.2.1
   have q2 := p.2.2.2.1
   have q3 := p.2.2.2.2.1
   have q4 := p.2.2.2.2.2.1
   have q5 := p.2.2.2.2.2.2.1
   have q6 := p.2.2.2.2.2.2.2
   clear p
   go_simp
   clear p0 p1 p2 p3 p4 p5 p6 q0 q1 q2 q3 q4 q5 q6 hTc
   refine hK.out _ _ (((((((hHeld.set_ 0 _).set_ 1 _).set_ 2 _).set_ 3 _).set_ 4 _).set_ 5 _).set_ 6 _) (fun hHeld => ?_)
   clear hK K
   refine tk_ 15 3 rfl rfl ?_
   refine wpAnyH_done (by kernel_rfl) ?_ _
   go_wp2_with fail
   refine bodyPost_ret (v := _) (ret_ent2 (pt := 2) (u := 3) (by kernel_rfl) rfl HF.out) rfl ⟨?_, HBL.out _ hHeld⟩
   rw [HIS.out, HE.out, HRI.out]
   rfl
  | true =>
   have HRI := Lib.hid hri
   rw [hri] at hC6
   have HC6 := Lib.hid hC6
   have hC10 := fun (V : World) (hV : Besides (w.heap.size + 1) W V) => record_any ⟨id, sd, ek, ed, eu, ec, false⟩ V aN aW aS (hI.below (HBB.out V hV)) hri
   unfold EI.val RI.val at hC10
   have hrq := fun V => rec_eql_run (EI.ri ⟨id, sd, ek, ed, eu, ec, false⟩) ⟨op, id, d⟩ V
   unfold RI.val at hrq
   generalize hsm : (EI.ri ⟨id, sd, ek, ed, eu, ec, false⟩).same ⟨op, id, d⟩ = sm at *
   have HSM := Lib.hid hsm
   have hop : (EI.ri ⟨id, sd, ek, ed, eu, ec, false⟩).op = 1 := rfl
   have hid : (EI.ri ⟨id, sd, ek, ed, eu, ec, false⟩).id = id := rfl
   rw [hop, hid] at hC10 hrq
   generalize (EI.ri ⟨id, sd, ek, ed, eu, ec, false⟩).d = rd at *
   have HC10 := Lib.hid hC10
   clear hri hC6 hC10 hsm hop hid
   refine wp_region_held_drew (S := (Besides (w.heap.size + 1) W)) (by kernel_rfl) (Besides.of_below (Below.refl _ _).drew) (fun hHeld => ?_)
   generalize W.drew = WD at *
   refine tk_ 0 59 rfl rfl ?_ (fun wx hSx => by have g := HLE.out _ hSx; have g0 := g.1; have g1 := g.2.1; have g2 := g.2.2.1; have g3 := g.2.2.2.1; have g4 := g.2.2.2.2.1; have g5 := g.2.2.2.2.2.1; have g6 := g.2.2.2.2.2.2; clear g; go_simp; try with_reducible rfl)
   refine tk_ 1 60 rfl rfl ?_ (fun wx hSx => by have g := HLE.out _ hSx; have g0 := g.1; have g1 := g.2.1; have g2 := g.2.2.1; have g3 := g.2.2.2.1; have g4 := g.2.2.2.2.1; have g5 := g.2.2.2.2.2.1; have g6 := g.2.2.2.2.2.2; clear g; go_simp; try with_reducible rfl)
   refine tk_ 2 61 rfl rfl ?_ (fun wx hSx => by have g := HLN.out _ hSx; have g0 := g.1; have g1 := g.2.1; have g2 := g.2.2.1; have g3 := g.2.2.2.1; have g4 := g.2.2.2.2.1; have g5 := g.2.2.2.2.2.1; have g6 := g.2.2.2.2.2.2; clear g; go_simp; try with_reducible rfl)
   refine tk_ 3 62 rfl rfl ?_
   refine tk_ 4 63 rfl rfl ?_
   refine tk_ 5 64 rfl rfl ?_ (fun wx hSx => by have g := HLE.out _ hSx; have g0 := g.1; have g1 := g.2.1; have g2 := g.2.2.1; have g3 := g.2.2.2.1; have g4 := g.2.2.2.2.1; have g5 := g.2.2.2.2.2.1; have g6 := g.2.2.2.2.2.2; clear g; go_simp; try with_reducible rfl)
   refine rdy1 6 rfl (fun K hK => ?_)
   go_simp
   with_reducible refine (HC6.out _ hHeld).mono ?_
   rintro e w3 ⟨rfl, hb3⟩
   try go_wp2_with fail
   replace hTc := hTc.below hb3
   refine hK.out _ _ (hHeld.trans (Besides.of_below hb3)) (fun hHeld => ?_)
   clear hK K
   refine tk_ 7 66 rfl rfl ?_
   refine tk_ 8 67 rfl rfl ?_
   refine tk_ 9 68 rfl rfl ?_ (fun wx hSx => by have g := HLE.out _ hSx; have g0 := g.1; have g1 := g.2.1; have g2 := g.2.2.1; have g3 := g.2.2.2.1; have g4 := g.2.2.2.2.1; have g5 := g.2.2.2.2.2.1; have g6 := g.2.2.2.2.2.2; clear g; go_simp; try with_reducible rfl)
   refine tk_ 11 70 rfl rfl ?_ (fun wx hSx => by have g := HLR.out _ hSx; have g0 := g.1; have g1 := g.2.1; have g2 := g.2.2; clear g; go_simp; try with_reducible rfl)
   refine rdy1 10 rfl (fun K hK => ?_)
   go_simp
   with_reducible refine (HC10.out _ hHeld).mono ?_
   rintro e w3 ⟨rfl, hb3⟩
   try go_wp2_with fail
   replace hTc := hTc.below hb3
   refine hK.out _ _ (hHeld.trans (Besides.of_below hb3)) (fun hHeld => ?_)
   clear hK K
   refine tk_ 12 71 rfl rfl ?_
   refine tk_ 13 72 rfl rfl ?_
   refine rdy1 14 rfl (fun K hK => ?_)
   have HF := Lib.hid (blk_set7 hTc (.int .i64 id) (.int .i64 sd) (.string ek) (.string ed) (.int .i64 eu) (.bool ec) (.bool false))
   have p := hTc.c7
   have p0 := p.1.1
   have p1 := p.1.2.1
   have p2 := p.1.2.2.1
   have p3 := p.1.2.2.2.1
   have p4 := p.1.2.2.2.2.1
   have p5 := p.1.2.2.2.2.2.1
   have p6 := p.1.2.2.2.2.2.2
   have q0 := p.2.1
   have q1 := p.2.2.1
   have q2 := p.2.2.2.1
   have q3 := p.2.2.2.2.1
   have q4 := p.2.2.2.2.2.1
   have q5 := p.2.2.2.2.2.2.1
   have q6 := p.2.2.2.2.2.2.2
   clear p
   go_simp
   clear p0 p1 p2 p3 p4 p5 p6 q0 q1 q2 q3 q4 q5 q6 hTc
   refine hK.out _ _ (((((((hHeld.set_ 0 _).set_ 1 _).set_ 2 _).set_ 3 _).set_ 4 _).set_ 5 _).set_ 6 _) (fun hHeld => ?_)
   clear hK K
   refine tk_ 15 3 rfl rfl ?_
   refine wpAnyH_done (by kernel_rfl) ?_ _
   go_wp2_with fail
   refine bodyPost_ret (v := _) (ret_ent2 (pt := 2) (u := 3) (by kernel_rfl) rfl HF.out) rfl ⟨?_, HBL.out _ hHeld⟩
   rw [HIS.out, HE.out, HRI.out]
   rw [Bool.true_and, HSM.out]
   rfl
theorem entry_any (r : RI) (w : World) (aN aW aS : Addr) (hI : NInv w aN aW aS) (hz : r.d.size ≤ 1000000) :
  Calls Tryz.prog 153 #[r.val] w (Ret (.tuple #[(roughE r).val, .bool (isE r)]) w) := by
 obtain ⟨op, id, d⟩ := r
 by_cases h : d.size < 8
 ·have e1 : roughE ⟨op, id, d⟩ = EI.nil := by unfold roughE; rw [if_pos h]
  have e2 : isE ⟨op, id, d⟩ = false := by
   unfold isE
   rw [e1]
   rfl
  rw [e1, e2]
  exact entry_short op id d w h
 ·exact entry_long op id d w aN aW aS hI (by omega) hz
theorem infoEn : (Tryz.prog.info? 23).map (fun i => (i.zero, i.size, i.bytes)) = some (some (.agg #[.int .i64 0, .int .i64 0, .string ByteArray.empty, .string ByteArray.empty, .int .i64 0, .bool false, .bool false]), 7, 64) := by kernel_rfl
theorem SWent.trans {w1 w2 : World} {v1 : QV} {s2 : SN} (F1 : Foot (QF c v) w w1) (Q1 : ∀ k, QF c v1 k → QF c v k ∨ w.heap.size ≤ k) (h : SWent w1 c v1 s2 w2) : SWent w c v s2 w2 := by
 obtain ⟨v2, h1, h2, h3⟩ := h
 refine ⟨v2, h1, F1.trans h2 Q1, fun k hk => ?_⟩
 rcases h3 k hk with h | h
 ·exact Q1 k h
 ·exact .inr (Nat.le_trans F1.size h)
theorem SWent.foot {w' : World} {s' : SN} (h : SWent w c v s' w') : ∀ k, k < w.heap.size → ¬ QF c v k → w'.heap[k]? = w.heap[k]? := by
 obtain ⟨_, _, h2, _⟩ := h
 exact h2.block
theorem ent_end {A : Option Addr} {n c1 g1 cap1 : Nat} {vi vl : Value} {K : List KI} {L : List EI} {en : EI}
  (hB : Blk W c.b 112 ((#[vi, vl, .slice A n c1, c.x3, c.x4, c.x5, c.x6] : Array Value).setIfInBounds 2 (.slice (some ⟨g1, 0, none⟩) (n + 1) cap1)))
  (hI : W.ownsRow 0 3 1 vi K.length ((idsOf K).map (.int .i64 ·))) (hT : W.ownsRow 0 9 1 vl K.length ((txtsOf K).map (.string ·)))
  (hE : W.ownsRow 0 23 7 (.slice (some ⟨g1, 0, none⟩) (n + 1) cap1) (n + 1) (cellsE L ++ [.int .i64 en.id, .int .i64 en.side, .string en.key, .string en.data, .int .i64 en.due, .bool en.cust, .bool en.sent])) (hF : Foot (QF c ⟨vi, vl, .slice A n c1⟩) w W)
  (h1 : QF c ⟨vi, vl, .slice A n c1⟩ g1 ∨ w.heap.size ≤ g1) (hn : L.length = n) :
  SWent w c ⟨vi, vl, .slice A n c1⟩ ⟨L ++ [en], K⟩ W := by
 refine ⟨⟨vi, vl, .slice (some ⟨g1, 0, none⟩) (n + 1) cap1⟩, ⟨hB, hI, hT, ?_⟩, hF, ?_⟩
 ·rw [List.length_append, hn, cellsE_app]
  exact hE
 ·rintro k (hk | hk | hk | hk)
  ·exact .inl (.inl hk)
  ·exact .inl (.inr (.inl hk))
  ·exact .inl (.inr (.inr (.inl hk)))
  ·injection hk with hk
   have hk : k = g1 := hk
   rw [hk]; exact h1
def SN.putR (s : SN) (r : RI) : SN := if isE r = true ∧ s.free (roughE r).id (roughE r).key = true then ⟨s.L ++ [roughE r], s.K ++ [(roughE r).k]⟩ else s
set_option maxRecDepth 100000 in
theorem put_any {s : SN} (r : RI) (aN aW aS : Addr) (hIn : NInv w aN aW aS) (h : SAt w c v s) (hl : s.K.length ≤ 1000) (hl2 : s.L.length ≤ 1000) (hz : r.d.size ≤ 1000000) :
  Calls Tryz.prog 127 #[.pointer (some ⟨c.b, 0, none⟩), r.val] w fun e w' => e = .returned (.tuple #[]) ∧ SWent w c v (s.putR r) w' := by
 have hput : s.putR r = if isE r = true ∧ s.free (roughE r).id (roughE r).key = true then ⟨s.L ++ [roughE r], s.K ++ [(roughE r).k]⟩ else s := rfl
 have hb0 := ext_new w (.cells #[.int .i64 r.op, .int .i64 r.id, .string r.d] 128)
 have hR := Blk.new_ w 128 #[.int .i64 r.op, .int .i64 r.id, .string r.d]
 obtain ⟨x0, x1, x2, -⟩ := hR.c3
 have hC := entry_any r (w.alloc (.cells #[.int .i64 r.op, .int .i64 r.id, .string r.d] 128)) aN aW aS (hIn.below hb0) hz
 obtain ⟨en, hen⟩ : ∃ e, roughE r = e := ⟨_, rfl⟩
 obtain ⟨ok, hok⟩ : ∃ b, isE r = b := ⟨_, rfl⟩
 rw [hen, hok] at hC hput
 have HPUT := Lib.hid hput
 clear hput hen hok
 unfold RI.val EI.val at hC
 unfold RI.val
 go_enter Tryz.func127, Tryz.ntmps127
 go_wp2_with fail
 refine hC.mono ?_
 rintro e w2 ⟨rfl, hb2⟩
 have hb2 := ext_trans hb0 hb2
 have hEe := Blk.new_ w2 23 #[.int .i64 en.id, .int .i64 en.side, .string en.key, .string en.data, .int .i64 en.due, .bool en.cust, .bool en.sent]
 have hlt2 := fun (k : Nat) (q : QF c v k) => (h.below hb2).lt q
 have hS2 := (h.below hb2).below (ext_new w2 (.cells #[.int .i64 en.id, .int .i64 en.side, .string en.key, .string en.data, .int .i64 en.due, .bool en.cust, .bool en.sent] 23))
 replace hb2 := ext_alloc hb2 (.cells #[.int .i64 en.id, .int .i64 en.side, .string en.key, .string en.data, .int .i64 en.due, .bool en.cust, .bool en.sent] 23)
 clear hC x0 x1 x2 hR hb0
 go_wp2_with fail
 generalize w2.heap.size = ge at *
 generalize w2.alloc (.cells #[.int .i64 en.id, .int .i64 en.side, .string en.key, .string en.data, .int .i64 en.due, .bool en.cust, .bool en.sent] 23) = W at *
 have HLE := Lib.hid (fun (V : World) (hV : Below W.heap.size W V) => (hEe.below hV).c7.1)
 have HFR := Lib.hid (fun (V : World) (hV : Below W.heap.size W V) => free_any en.id en.key (hS2.below hV) (by omega))
 have HAD := Lib.hid (fun (V : World) (hV : Below W.heap.size W V) => add_any en.id en.key (hS2.below hV) (by omega))
 have HLT := Lib.hid hlt2
 have HEE := Lib.hid hEe
 have HS2 := Lib.hid hS2
 clear hlt2 hEe hS2
 cases ok with
 | false =>
  refine wp_region_held_drew (S := (Below W.heap.size W)) (by kernel_rfl) (Below.refl _ _).drew (fun hHeld => ?_)
  refine tk_ 0 11 rfl rfl ?_
  refine tk_ 1 12 rfl rfl ?_
  refine wpAnyH_no (i := 2) (some 13) rfl rfl ?_
  refine wpAnyH_no (i := 3) (some 14) rfl rfl ?_
  refine wpAnyH_no (i := 4) (some 15) rfl rfl ?_
  refine wpAnyH_no (i := 5) (some 16) rfl rfl ?_
  refine wpAnyH_no (i := 6) (some 17) rfl rfl ?_
  refine wpAnyH_no (i := 7) (some 18) rfl rfl ?_
  refine wpAnyH_no (i := 8) (some 19) rfl rfl ?_
  refine wpAnyH_no (i := 9) (some 20) rfl rfl ?_
  refine tk_ 10 21 rfl rfl ?_
  refine wpAnyH_done (by kernel_rfl) ?_ _
  try simp only [Act.put, List.setIfInBounds_toArray, List.set_cons_succ, List.set_cons_zero]
  go_wp2_with fail
  exact bodyPost_end (v := .tuple #[]) (results_none (by kernel_rfl) _ _ _) rfl ⟨rfl, by rw [HPUT.out, if_neg (fun q => by cases q.1)]; exact .refl h (ext_trans hb2 hHeld)⟩
 | true =>
  generalize hfr : s.free en.id en.key = fr at *
  refine wp_region_held_drew (S := (Below W.heap.size W)) (by kernel_rfl) (Below.refl _ _).drew (fun hHeld => ?_)
  refine tk_ 0 11 rfl rfl ?_
  refine tk_ 1 12 rfl rfl ?_
  refine tk_ 2 13 rfl rfl ?_
  refine tk_ 3 14 rfl rfl ?_
  refine tk_ 4 15 rfl rfl ?_
  refine tk_ 5 16 rfl rfl ?_
  refine tk_ 6 17 rfl rfl ?_ (fun wx hSx => by have g := HLE.out _ hSx; have g0 := g.1; have g2 := g.2.2.1; clear g; go_simp; try with_reducible rfl)
  refine tk_ 7 18 rfl rfl ?_
  refine tk_ 8 19 rfl rfl ?_ (fun wx hSx => by have g := HLE.out _ hSx; have g0 := g.1; have g2 := g.2.2.1; clear g; go_simp; try with_reducible rfl)
  refine rdy1 9 rfl (fun K hK => ?_)
  go_simp
  with_reducible refine (HFR.out _ hHeld).mono ?_
  rintro e w3 ⟨rfl, rfl⟩
  try go_wp2_with fail
  refine hK.out _ _ hHeld (fun hHeld => ?_)
  clear hK K
  refine tk_ 10 21 rfl rfl ?_
  refine wpAnyH_done (by kernel_rfl) ?_ _
  try simp only [Act.put, List.setIfInBounds_toArray, List.set_cons_succ, List.set_cons_zero]
  have hH2 := hHeld
  cases fr with
  | false =>
   go_wp2_with fail
   exact bodyPost_end (v := .tuple #[]) (results_none (by kernel_rfl) _ _ _) rfl ⟨rfl, by rw [HPUT.out, if_neg (fun q => by cases q.2)]; exact .refl h (ext_trans hb2 hHeld)⟩
  | true =>
   go_wp2_with fail
   refine wp_region_held_drew (S := (fun V : World => V.cell? ⟨ge, 0, none⟩ = some (.int .i64 en.id) ∧ V.cell? ⟨ge, 2, none⟩ = some (.string en.key))) (by kernel_rfl) ⟨(HLE.out _ hH2.drew).1, (HLE.out _ hH2.drew).2.2.1⟩ (fun hHeld => ?_)
   refine tk_ 0 22 rfl rfl ?_
   refine tk_ 1 23 rfl rfl ?_
   refine tk_ 2 24 rfl rfl ?_
   refine tk_ 3 25 rfl rfl ?_
   refine tk_ 4 26 rfl rfl ?_ (fun wx hSx => by have g0 := hSx.1; have g2 := hSx.2; go_simp; try with_reducible rfl)
   refine tk_ 5 27 rfl rfl ?_
   refine tk_ 6 28 rfl rfl ?_ (fun wx hSx => by have g0 := hSx.1; have g2 := hSx.2; go_simp; try with_reducible rfl)
   refine rdy1 7 rfl (fun K hK => ?_)
   go_simp
   with_reducible refine (HAD.out _ hH2.drew).mono ?_
   rintro e w4 ⟨rfl, hW4⟩
   have hEe : Blk w4 ge 23 #[.int .i64 en.id, .int .i64 en.side, .string en.key, .string en.data, .int .i64 en.due, .bool en.cust, .bool en.sent] := (HEE.out.below hH2.drew).kept (hW4.foot _ (HEE.out.below hH2.drew).lt (fun q => Nat.lt_irrefl _ (HLT.out _ q)))
   try go_wp2_with fail
   refine hK.out _ _ ⟨hEe.c7.1.1, hEe.c7.1.2.2.1⟩ (fun hHeld => ?_)
   clear hK K
   refine wpAnyH_done (by kernel_rfl) ?_ _
   try simp only [Act.put, List.setIfInBounds_toArray, List.set_cons_succ, List.set_cons_zero]
   obtain ⟨v1, s1, F1, Q1⟩ := hW4
   have hw := ext_trans hb2 hH2.drew
   have F2 : Foot (QF c v) w w4 := (Foot.of_below (F := QF c v) hw).trans F1 (fun _ g => .inl g)
   have Q2 : ∀ k, QF c v1 k → QF c v k ∨ w.heap.size ≤ k := fun k hk => (Q1 k hk).imp id fun q => Nat.le_trans hw.size q
   obtain ⟨vi, vl, ve⟩ := v1
   obtain ⟨hB, hI, hT, hE⟩ := s1
   dsimp only at hB hI hT hE
   obtain ⟨A, c1, rfl⟩ := own_form hE
   obtain ⟨n, hn⟩ : ∃ n, s.L.length = n := ⟨_, rfl⟩
   rw [hn] at hB hE hl2 Q1 Q2
   have HN := Lib.hid hn
   have HTR := Lib.hid (fun (W' : World) (q : SWent w4 c ⟨vi, vl, .slice A n c1⟩ ⟨s.L ++ [en], s.K ++ [⟨en.id, en.key⟩]⟩ W') => (show SWent w c v (s.putR r) W' from by rw [HPUT.out, if_pos (by simp)]; exact SWent.trans F2 Q2 q))
   obtain ⟨iE, hiE, hziE0, hziE1, hziE2⟩ := info_parts infoEn
   clear hn F1 Q1 F2 Q2
   go_wp2_with fail
   replace hB : Blk w4.drew _ _ _ := hB
   replace hI : World.ownsRow w4.drew _ _ _ _ _ _ := hI
   replace hT : World.ownsRow w4.drew _ _ _ _ _ _ := hT
   replace hE : World.ownsRow w4.drew _ _ _ _ _ _ := hE
   replace hEe : Blk w4.drew _ _ _ := hEe
   refine wp_region_held_drew (S := (Foot (QF c ⟨vi, vl, .slice A n c1⟩) w4)) (by kernel_rfl) ((Foot.refl _ w4).ext (Below.refl _ w4).drew) (fun hHeld => ?_)
   generalize w4.drew = W0 at *
   refine tk_ 0 30 rfl rfl ?_
   refine tk_ 1 31 rfl rfl ?_
   refine tk_ 2 32 rfl rfl ?_
   refine tk_ 3 33 rfl rfl ?_
   refine rdy2 4 5 rfl rfl (fun K hK => ?_) (fun K hK => ?_)
   ·have x2 := hB.c7.1.2.2.1
    go_simp
    refine hK.out _ _ hHeld (fun hHeld => ?_)
    clear hK K
    refine rdy1 5 rfl (fun K hK => ?_)
    have p := hEe.c7.1
    have p0 := p.1
    have p1 := p.2.1
    have p2 := p.2.2.1
    have p3 := p.2.2.2.1
    have p4 := p.2.2.2.2.1
    have p5 := p.2.2.2.2.2.1
    have p6 := p.2.2.2.2.2.2
    clear p
    go_simp
    refine hK.out _ _ hHeld (fun hHeld => ?_)
    clear hK K
    refine rdy1 6 rfl (fun K hK => ?_)
    have hN6 := hB.news 23 #[.int .i64 en.id, .int .i64 en.side, .string en.key, .string en.data, .int .i64 en.due, .bool en.cust, .bool en.sent]
    try simp only [World.size_alloc] at hN6
    go_simp
    replace hB := hB.alloc (.cells #[.int .i64 en.id, .int .i64 en.side, .string en.key, .string en.data, .int .i64 en.due, .bool en.cust, .bool en.sent] 23)
    replace hI := hI.alloc (.cells #[.int .i64 en.id, .int .i64 en.side, .string en.key, .string en.data, .int .i64 en.due, .bool en.cust, .bool en.sent] 23)
    replace hT := hT.alloc (.cells #[.int .i64 en.id, .int .i64 en.side, .string en.key, .string en.data, .int .i64 en.due, .bool en.cust, .bool en.sent] 23)
    replace hE := hE.alloc (.cells #[.int .i64 en.id, .int .i64 en.side, .string en.key, .string en.data, .int .i64 en.due, .bool en.cust, .bool en.sent] 23)
    replace hEe := hEe.alloc (.cells #[.int .i64 en.id, .int .i64 en.side, .string en.key, .string en.data, .int .i64 en.due, .bool en.cust, .bool en.sent] 23)
    refine hK.out _ _ (hHeld.ext (ext_new _ _)) (fun hHeld => ?_)
    clear hK K
    refine rdy1 7 rfl (fun K hK => ?_)
    refine step_append_lies _ (by rfl) _ _ _ (by rfl) 0 23 iE (.agg #[.int .i64 0, .int .i64 0, .string ByteArray.empty, .string ByteArray.empty, .int .i64 0, .bool false, .bool false]) 7 64 Tryz.underlying46 hiE hziE0 hziE1 hziE2 rfl (by omega) (.slice A n c1) n _ (by rfl) hE ⟨_, 0, none⟩ 1 1 [.int .i64 en.id, .int .i64 en.side, .string en.key, .string en.data, .int .i64 en.due, .bool en.cust, .bool en.sent] (by rfl) rfl hN6.cells_ (by intro u hu; simp only [List.mem_cons, List.not_mem_nil, or_false] at hu; obtain rfl | rfl | rfl | rfl | rfl | rfl | rfl := hu <;> rfl) (by omega) (by unfold maxLen; omega) (by omega) (Nat.zero_le _) _ rfl ?_
    intro g1 cap1 w5 hN hgrow hat hlt
    replace hB := hB.kept (hgrow.block _ hB.lt (own_type hE hB (by decide)))
    replace hI := own_keep hI (fun k hk => hgrow.block _ (own_lt hI hk) (own_two hI hE (by decide) hk))
    replace hT := own_keep hT (fun k hk => hgrow.block _ (own_lt hT hk) (own_two hT hE (by decide) hk))
    have HQ1 : QF c ⟨vi, vl, .slice A n c1⟩ g1 ∨ w4.heap.size ≤ g1 := hat.elim (fun e => .inl (.inr <| .inr <| .inr <| e.symm)) (fun e => .inr (by rw [e]; exact hHeld.size))
    clear hat hEe
    replace hE := hN
    refine hK.out _ _ (hHeld.grown hgrow (fun k hk => .inl (.inr (.inr (.inr hk))))) (fun hHeld => ?_)
    clear hK K
    refine tk_ 8 38 rfl rfl ?_
    refine tk_ 9 39 rfl rfl ?_
    refine rdy1 10 rfl (fun K hK => ?_)
    have x := hB.c7.1.2.2.1
    have y := hB.c7.2.2.2.1
    go_simp
    clear x y
    replace hI := own_set hI (own_type hI hB (by decide)) 2 (.slice (some ⟨g1, 0, none⟩) (n + 1) cap1)
    replace hT := own_set hT (own_type hT hB (by decide)) 2 (.slice (some ⟨g1, 0, none⟩) (n + 1) cap1)
    replace hE := own_set hE (own_type hE hB (by decide)) 2 (.slice (some ⟨g1, 0, none⟩) (n + 1) cap1)
    replace hB := hB.set_ 2 (.slice (some ⟨g1, 0, none⟩) (n + 1) cap1)
    refine hK.out _ _ (hHeld.set (.inl (.inl rfl)) _ _) (fun hHeld => ?_)
    clear hK K
    refine wpAnyH_done (by kernel_rfl) ?_ _
    try simp only [Act.put, List.setIfInBounds_toArray, List.set_cons_succ, List.set_cons_zero]
    go_wp2_with fail
    exact bodyPost_end (v := .tuple #[]) (results_none (by kernel_rfl) _ _ _) rfl ⟨rfl, HTR.out _ (ent_end hB hI hT hE hHeld HQ1 HN.out)⟩
   ·have p := hEe.c7.1
    have p0 := p.1
    have p1 := p.2.1
    have p2 := p.2.2.1
    have p3 := p.2.2.2.1
    have p4 := p.2.2.2.2.1
    have p5 := p.2.2.2.2.2.1
    have p6 := p.2.2.2.2.2.2
    clear p
    go_simp
    refine hK.out _ _ hHeld (fun hHeld => ?_)
    clear hK K
    refine rdy2 4 6 rfl rfl (fun K hK => ?_) (fun K hK => ?_)
    ·have x2 := hB.c7.1.2.2.1
     go_simp
     refine hK.out _ _ hHeld (fun hHeld => ?_)
     clear hK K
     refine rdy1 6 rfl (fun K hK => ?_)
     have hN6 := hB.news 23 #[.int .i64 en.id, .int .i64 en.side, .string en.key, .string en.data, .int .i64 en.due, .bool en.cust, .bool en.sent]
     try simp only [World.size_alloc] at hN6
     go_simp
     replace hB := hB.alloc (.cells #[.int .i64 en.id, .int .i64 en.side, .string en.key, .string en.data, .int .i64 en.due, .bool en.cust, .bool en.sent] 23)
     replace hI := hI.alloc (.cells #[.int .i64 en.id, .int .i64 en.side, .string en.key, .string en.data, .int .i64 en.due, .bool en.cust, .bool en.sent] 23)
     replace hT := hT.alloc (.cells #[.int .i64 en.id, .int .i64 en.side, .string en.key, .string en.data, .int .i64 en.due, .bool en.cust, .bool en.sent] 23)
     replace hE := hE.alloc (.cells #[.int .i64 en.id, .int .i64 en.side, .string en.key, .string en.data, .int .i64 en.due, .bool en.cust, .bool en.sent] 23)
     replace hEe := hEe.alloc (.cells #[.int .i64 en.id, .int .i64 en.side, .string en.key, .string en.data, .int .i64 en.due, .bool en.cust, .bool en.sent] 23)
     refine hK.out _ _ (hHeld.ext (ext_new _ _)) (fun hHeld => ?_)
     clear hK K
     refine rdy1 7 rfl (fun K hK => ?_)
     refine step_append_lies _ (by rfl) _ _ _ (by rfl) 0 23 iE (.agg #[.int .i64 0, .int .i64 0, .string ByteArray.empty, .string ByteArray.empty, .int .i64 0, .bool false, .bool false]) 7 64 Tryz.underlying46 hiE hziE0 hziE1 hziE2 rfl (by omega) (.slice A n c1) n _ (by rfl) hE ⟨_, 0, none⟩ 1 1 [.int .i64 en.id, .int .i64 en.side, .string en.key, .string en.data, .int .i64 en.due, .bool en.cust, .bool en.sent] (by rfl) rfl hN6.cells_ (by intro u hu; simp only [List.mem_cons, List.not_mem_nil, or_false] at hu; obtain rfl | rfl | rfl | rfl | rfl | rfl | rfl := hu <;> rfl) (by omega) (by unfold maxLen; omega) (by omega) (Nat.zero_le _) _ rfl ?_
     intro g1 cap1 w5 hN hgrow hat hlt
     replace hB := hB.kept (hgrow.block _ hB.lt (own_type hE hB (by decide)))
     replace hI := own_keep hI (fun k hk => hgrow.block _ (own_lt hI hk) (own_two hI hE (by decide) hk))
     replace hT := own_keep hT (fun k hk => hgrow.block _ (own_lt hT hk) (own_two hT hE (by decide) hk))
     have HQ1 : QF c ⟨vi, vl, .slice A n c1⟩ g1 ∨ w4.heap.size ≤ g1 := hat.elim (fun e => .inl (.inr <| .inr <| .inr <| e.symm)) (fun e => .inr (by rw [e]; exact hHeld.size))
     clear hat hEe
     replace hE := hN
     refine hK.out _ _ (hHeld.grown hgrow (fun k hk => .inl (.inr (.inr (.inr hk))))) (fun hHeld => ?_)
     clear hK K
     refine tk_ 8 38 rfl rfl ?_
     refine tk_ 9 39 rfl rfl ?_
     refine rdy1 10 rfl (fun K hK => ?_)
     have x := hB.c7.1.2.2.1
     have y := hB.c7.2.2.2.1
     go_simp
     clear x y
     replace hI := own_set hI (own_type hI hB (by decide)) 2 (.slice (some ⟨g1, 0, none⟩) (n + 1) cap1)
     replace hT := own_set hT (own_type hT hB (by decide)) 2 (.slice (some ⟨g1, 0, none⟩) (n + 1) cap1)
     replace hE := own_set hE (own_type hE hB (by decide)) 2 (.slice (some ⟨g1, 0, none⟩) (n + 1) cap1)
     replace hB := hB.set_ 2 (.slice (some ⟨g1, 0, none⟩) (n + 1) cap1)
     refine hK.out _ _ (hHeld.set (.inl (.inl rfl)) _ _) (fun hHeld => ?_)
     clear hK K
     refine wpAnyH_done (by kernel_rfl) ?_ _
     try simp only [Act.put, List.setIfInBounds_toArray, List.set_cons_succ, List.set_cons_zero]
     go_wp2_with fail
     exact bodyPost_end (v := .tuple #[]) (results_none (by kernel_rfl) _ _ _) rfl ⟨rfl, HTR.out _ (ent_end hB hI hT hE hHeld HQ1 HN.out)⟩
    ·have hN6 := hB.news 23 #[.int .i64 en.id, .int .i64 en.side, .string en.key, .string en.data, .int .i64 en.due, .bool en.cust, .bool en.sent]
     try simp only [World.size_alloc] at hN6
     go_simp
     replace hB := hB.alloc (.cells #[.int .i64 en.id, .int .i64 en.side, .string en.key, .string en.data, .int .i64 en.due, .bool en.cust, .bool en.sent] 23)
     replace hI := hI.alloc (.cells #[.int .i64 en.id, .int .i64 en.side, .string en.key, .string en.data, .int .i64 en.due, .bool en.cust, .bool en.sent] 23)
     replace hT := hT.alloc (.cells #[.int .i64 en.id, .int .i64 en.side, .string en.key, .string en.data, .int .i64 en.due, .bool en.cust, .bool en.sent] 23)
     replace hE := hE.alloc (.cells #[.int .i64 en.id, .int .i64 en.side, .string en.key, .string en.data, .int .i64 en.due, .bool en.cust, .bool en.sent] 23)
     replace hEe := hEe.alloc (.cells #[.int .i64 en.id, .int .i64 en.side, .string en.key, .string en.data, .int .i64 en.due, .bool en.cust, .bool en.sent] 23)
     refine hK.out _ _ (hHeld.ext (ext_new _ _)) (fun hHeld => ?_)
     clear hK K
     refine rdy1 4 rfl (fun K hK => ?_)
     have x2 := hB.c7.1.2.2.1
     go_simp
     refine hK.out _ _ hHeld (fun hHeld => ?_)
     clear hK K
     refine rdy1 7 rfl (fun K hK => ?_)
     refine step_append_lies _ (by rfl) _ _ _ (by rfl) 0 23 iE (.agg #[.int .i64 0, .int .i64 0, .string ByteArray.empty, .string ByteArray.empty, .int .i64 0, .bool false, .bool false]) 7 64 Tryz.underlying46 hiE hziE0 hziE1 hziE2 rfl (by omega) (.slice A n c1) n _ (by rfl) hE ⟨_, 0, none⟩ 1 1 [.int .i64 en.id, .int .i64 en.side, .string en.key, .string en.data, .int .i64 en.due, .bool en.cust, .bool en.sent] (by rfl) rfl hN6.cells_ (by intro u hu; simp only [List.mem_cons, List.not_mem_nil, or_false] at hu; obtain rfl | rfl | rfl | rfl | rfl | rfl | rfl := hu <;> rfl) (by omega) (by unfold maxLen; omega) (by omega) (Nat.zero_le _) _ rfl ?_
     intro g1 cap1 w5 hN hgrow hat hlt
     replace hB := hB.kept (hgrow.block _ hB.lt (own_type hE hB (by decide)))
     replace hI := own_keep hI (fun k hk => hgrow.block _ (own_lt hI hk) (own_two hI hE (by decide) hk))
     replace hT := own_keep hT (fun k hk => hgrow.block _ (own_lt hT hk) (own_two hT hE (by decide) hk))
     have HQ1 : QF c ⟨vi, vl, .slice A n c1⟩ g1 ∨ w4.heap.size ≤ g1 := hat.elim (fun e => .inl (.inr <| .inr <| .inr <| e.symm)) (fun e => .inr (by rw [e]; exact hHeld.size))
     clear hat hEe
     replace hE := hN
     refine hK.out _ _ (hHeld.grown hgrow (fun k hk => .inl (.inr (.inr (.inr hk))))) (fun hHeld => ?_)
     clear hK K
     refine tk_ 8 38 rfl rfl ?_
     refine tk_ 9 39 rfl rfl ?_
     refine rdy1 10 rfl (fun K hK => ?_)
     have x := hB.c7.1.2.2.1
     have y := hB.c7.2.2.2.1
     go_simp
     clear x y
     replace hI := own_set hI (own_type hI hB (by decide)) 2 (.slice (some ⟨g1, 0, none⟩) (n + 1) cap1)
     replace hT := own_set hT (own_type hT hB (by decide)) 2 (.slice (some ⟨g1, 0, none⟩) (n + 1) cap1)
     replace hE := own_set hE (own_type hE hB (by decide)) 2 (.slice (some ⟨g1, 0, none⟩) (n + 1) cap1)
     replace hB := hB.set_ 2 (.slice (some ⟨g1, 0, none⟩) (n + 1) cap1)
     refine hK.out _ _ (hHeld.set (.inl (.inl rfl)) _ _) (fun hHeld => ?_)
     clear hK K
     refine wpAnyH_done (by kernel_rfl) ?_ _
     try simp only [Act.put, List.setIfInBounds_toArray, List.set_cons_succ, List.set_cons_zero]
     go_wp2_with fail
     exact bodyPost_end (v := .tuple #[]) (results_none (by kernel_rfl) _ _ _) rfl ⟨rfl, HTR.out _ (ent_end hB hI hT hE hHeld HQ1 HN.out)⟩
end Go.Proofs.YtmebjdbkngehiaaGreatDoor
