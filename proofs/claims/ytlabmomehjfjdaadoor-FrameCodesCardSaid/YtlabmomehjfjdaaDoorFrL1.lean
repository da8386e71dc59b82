/-
  Package postriderlaw17: the law FrameCodes. Conditions: the listed variables hold what 'CInv' says.
-/
import Derived.Test.YtlabmomehjfjdaaDoorFrP
import Derived.Deep.RegionHeld3
namespace Go.Proofs.YtlabmomehjfjdaaDoor
open Go.RowKit

set_option maxRecDepth 100000 in
set_option maxHeartbeats 4000000 in
theorem FrameCodes_law (op id : Int) (d s : ByteArray) (a : Int) (w : World) (aA aT aN aW aS : Addr) (h : CInv w aA aT aN aW aS) (hd : d.size ≤ 9223372036854775807) (hs : s.size ≤ 9223372036854775807) :
    Calls Tryd.prog 3 #[.agg #[.int .i64 op, .int .i64 id, .string d], .string s, .int .i64 a] w (Ret (.bool true) w) := by
  have hz := cut3000_size s
  have HC := fun w' => fcut_any s w' hs
  have FC := fun w' : World => FCut_any (some ⟨w'.heap.size, 0, none⟩) 1 1 [⟨op, id, d⟩] (w'.alloc (.cells #[.int .i64 op, .int .i64 id, .string d] 23)) rfl (rdR_at ⟨op, id, d⟩ rfl) (by intro x hx; rw [List.mem_singleton] at hx; subst hx; exact hd)
  have E1 := fun w' h' => Encode_any op id (d.extract 0 (min d.size 2001)) w' aA aT aN aW aS h'
  have E2 := fun w' => rFEncode_any op id (d.extract 0 (min d.size 2001)) w'
  have R1 := fun w' => FRight_any op id (d.extract 0 (min d.size 2001)) w'
  have R2 := fun w' => rFRight_any op id (d.extract 0 (min d.size 2001)) w'
  have D1 := fun w' h' => Decode_any (cut3000 s) a w' aA aT aN aW aS h' (by omega)
  have D2 := fun w' => rFDecode_any (cut3000 s) a w' (by omega)
  obtain ⟨x, y, z, nx, ok, hdr⟩ : ∃ (x y : Int) (z : ByteArray) (nx : Int) (ok : Bool), decR (frV (cut3000 s) a) a = .tuple #[.agg #[.int .i64 x, .int .i64 y, .string z], .int .i64 nx, .bool ok] := by
    cases frV (cut3000 s) a with
    | none => exact ⟨_, _, _, _, _, rfl⟩
    | some r => exact ⟨_, _, _, _, _, rfl⟩
  rw [hdr] at D1 D2
  have hq : ([⟨op, id, d⟩] : List RI).map RI.cut = [⟨op, id, d.extract 0 (min d.size 2001)⟩] := rfl
  rw [hq] at FC
  clear hdr hq
  unfold recV at E1 E2 R1 R2
  generalize cut3000 s = s' at *
  generalize d.extract 0 (min d.size 2001) = d' at *
  generalize encV op id d' = e at *
  generalize rightV op id d' = rv at *
  go_enter Tryd.func3, Tryd.ntmps3
  go_wp2_with fail
  have p0 := Blk.new_ w 23 #[.int .i64 op, .int .i64 id, .string d]
  have b0 := ext_new w (.cells #[.int .i64 op, .int .i64 id, .string d] 23)
  refine (fshown_any _ aA aT aN aW aS (h.below b0)).mono ?_
  rintro e w1 ⟨rfl, hb1'⟩
  have p1 := p0.below hb1'
  have hb1 := ext_trans b0 hb1'
  clear hb1' p0 b0
  obtain ⟨x0, x1, x2, -⟩ := p1.c3
  go_wp2_with fail
  refine (FC _).mono ?_
  rintro e w2 ⟨V, rfl, hown, hb2'⟩
  obtain ⟨g, c, rfl, hg, hgl, y0, y1, y2⟩ := one_own hown
  have p2 := (p1.alloc _).below hb2'
  have hb2 := ext_trans (ext_alloc hb1 _) hb2'
  clear hb2' hown p1 hb1 x0 x1 x2
  obtain ⟨x0, x1, x2, g0, g1, g2⟩ := p2.c3
  go_wp2_with fail
  have p3 := ((p2.set_ 0 (.int .i64 op)).set_ 1 (.int .i64 id)).set_ 2 (.string d')
  simp only [List.setIfInBounds_toArray, List.set_cons_succ, List.set_cons_zero] at p3
  have hb3 := ((hb2.setCell (p := ⟨w.heap.size, 0, none⟩) (by simp) (.int .i64 op)).setCell (p := ⟨w.heap.size, 1, none⟩) (by simp) (.int .i64 id)).setCell (p := ⟨w.heap.size, 2, none⟩) (by simp) (.string d')
  generalize ((w2.setCell ⟨w.heap.size, 0, none⟩ (.int .i64 op)).setCell ⟨w.heap.size, 1, none⟩ (.int .i64 id)).setCell ⟨w.heap.size, 2, none⟩ (.string d') = w3 at *
  clear p2 hb2 g0 g1 g2 y0 y1 y2 x0 x1 x2
  obtain ⟨x0, x1, x2, -⟩ := p3.c3
  go_wp2_with fail
  refine (HC _).mono ?_
  rintro e wp ⟨rfl, rfl⟩
  go_wp2_with fail
  refine (E1 _ (h.below hb3)).mono ?_
  rintro e w4 ⟨rfl, hb4'⟩
  have p4 := p3.below hb4'
  have hb4 := ext_trans hb3 hb4'
  clear hb4' hb3 p3 x0 x1 x2
  obtain ⟨x0, x1, x2, -⟩ := p4.c3
  go_wp2_with fail
  refine (E2 _).mono ?_
  rintro e w5 ⟨rfl, hb5'⟩
  have p5 := p4.below hb5'
  have hb5 := ext_trans hb4 hb5'
  clear hb5' hb4 p4 x0 x1 x2
  go_wp2_with fail
  refine (D1 _ (h.below hb5)).mono ?_
  rintro e w6 ⟨rfl, hb6'⟩
  have p6 := (p5.below hb6').alloc (.cells #[.int .i64 x, .int .i64 y, .string z] 23)
  have q6 := Blk.new_ w6 23 #[.int .i64 x, .int .i64 y, .string z]
  have hb6 := ext_alloc (ext_trans hb5 hb6') (.cells #[.int .i64 x, .int .i64 y, .string z] 23)
  clear hb6' hb5 p5
  go_wp2_with fail
  refine (D2 _).mono ?_
  rintro e w7 ⟨rfl, hb7'⟩
  have p7 := (p6.below hb7').alloc (.cells #[.int .i64 x, .int .i64 y, .string z] 23)
  have q7 := (q6.below hb7').alloc (.cells #[.int .i64 x, .int .i64 y, .string z] 23)
  have r7 := Blk.new_ w7 23 #[.int .i64 x, .int .i64 y, .string z]
  have hb7 := ext_alloc (ext_trans hb6 hb7') (.cells #[.int .i64 x, .int .i64 y, .string z] 23)
  clear hb7' hb6 p6 q6
  go_wp2_with fail
  generalize (w7.alloc (.cells #[.int .i64 x, .int .i64 y, .string z] 23)) = W7 at *
  have nine : ∀ W : World, Below W7.heap.size W7 W → (W.cell? ⟨w.heap.size, 0, none⟩ = some (.int .i64 op) ∧ W.cell? ⟨w.heap.size, 1, none⟩ = some (.int .i64 id) ∧ W.cell? ⟨w.heap.size, 2, none⟩ = some (.string d')) ∧
      (W.cell? ⟨w6.heap.size, 0, none⟩ = some (.int .i64 x) ∧ W.cell? ⟨w6.heap.size, 1, none⟩ = some (.int .i64 y) ∧ W.cell? ⟨w6.heap.size, 2, none⟩ = some (.string z)) ∧
      W.cell? ⟨w7.heap.size, 0, none⟩ = some (.int .i64 x) ∧ W.cell? ⟨w7.heap.size, 1, none⟩ = some (.int .i64 y) ∧ W.cell? ⟨w7.heap.size, 2, none⟩ = some (.string z) := fun W hW => by
    obtain ⟨a0, a1, a2, -⟩ := (p7.below hW).c3
    obtain ⟨b0, b1, b2, -⟩ := (q7.below hW).c3
    obtain ⟨c0, c1, c2, -⟩ := (r7.below hW).c3
    exact ⟨⟨a0, a1, a2⟩, ⟨b0, b1, b2⟩, c0, c1, c2⟩
  clear p7 q7 r7
  go_region_held3 (fun W : World => (W.cell? ⟨w.heap.size, 0, none⟩ = some (.int .i64 op) ∧ W.cell? ⟨w.heap.size, 1, none⟩ = some (.int .i64 id) ∧ W.cell? ⟨w.heap.size, 2, none⟩ = some (.string d')) ∧
      (W.cell? ⟨w6.heap.size, 0, none⟩ = some (.int .i64 x) ∧ W.cell? ⟨w6.heap.size, 1, none⟩ = some (.int .i64 y) ∧ W.cell? ⟨w6.heap.size, 2, none⟩ = some (.string z)) ∧
      W.cell? ⟨w7.heap.size, 0, none⟩ = some (.int .i64 x) ∧ W.cell? ⟨w7.heap.size, 1, none⟩ = some (.int .i64 y) ∧ W.cell? ⟨w7.heap.size, 2, none⟩ = some (.string z)) (first | exact nine _ (ext_refl _).drew | exact nine _ (ext_trans (ext_refl _).drew hc1) | exact nine _ (ext_trans (ext_trans (ext_refl _).drew hc1) hc2))
    (first | (go_at_call 17; refine (R1 _).mono ?_; rintro e v1 ⟨rfl, hc1⟩) | (go_at_call 18; refine (R2 _).mono ?_; rintro e v2 ⟨rfl, hc2⟩))
  go_wp2_with fail
  go_ret
  exact ⟨rfl, ext_trans hb7 (ext_trans (ext_trans (ext_refl _).drew hc1) hc2)⟩

end Go.Proofs.YtlabmomehjfjdaaDoor
