/-
  Package postriderlaw17: the law FrameSizes. Conditions: the listed variables hold what 'CInv' says.
-/
import Derived.Test.YtlabmomehjfjdaaDoorFrP
import Derived.Deep.RegionHeld3
namespace Go.Proofs.YtlabmomehjfjdaaDoor
open Go.RowKit

set_option maxRecDepth 100000 in
set_option maxHeartbeats 4000000 in
theorem FrameSizes_law (op id : Int) (d : ByteArray) (w : World) (aA aT aN aW aS : Addr) (h : CInv w aA aT aN aW aS) (hd : d.size ≤ 9223372036854775807) :
    Calls Tryd.prog 5 #[.agg #[.int .i64 op, .int .i64 id, .string d]] w (Ret (.bool true) w) := by
  have FC := fun w' : World => FCut_any (some ⟨w'.heap.size, 0, none⟩) 1 1 [⟨op, id, d⟩] (w'.alloc (.cells #[.int .i64 op, .int .i64 id, .string d] 23)) rfl (rdR_at ⟨op, id, d⟩ rfl) (by intro x hx; rw [List.mem_singleton] at hx; subst hx; exact hd)
  have hq : ([⟨op, id, d⟩] : List RI).map RI.cut = [⟨op, id, d.extract 0 (min d.size 2001)⟩] := rfl
  rw [hq] at FC
  clear hq
  have E1 := fun w' h' => Encode_any op id (d.extract 0 (min d.size 2001)) w' aA aT aN aW aS h'
  have R1 := fun w' => FRight_any op id (d.extract 0 (min d.size 2001)) w'
  have F := enc_cases op id (d.extract 0 (min d.size 2001))
  unfold recV at E1 R1
  generalize d.extract 0 (min d.size 2001) = d' at *
  generalize encV op id d' = e at *
  generalize rightV op id d' = rv at *
  go_enter Tryd.func5, Tryd.ntmps5
  go_wp2_with fail
  have p0 := Blk.new_ w 23 #[.int .i64 op, .int .i64 id, .string d]
  have b0 := ext_new w (.cells #[.int .i64 op, .int .i64 id, .string d] 23)
  refine (fshown_any _ aA aT aN aW aS (h.below b0)).mono ?_
  rintro e w1 ⟨rfl, hb1'⟩
  have p1 := p0.below hb1'
  have hb1 := ext_trans b0 hb1'
  clear hb1' p0 b0
  obtain ⟨x0, x1, x2, -⟩ := p1.c3
  go_wp2_with fail
  refine (FC _).mono ?_
  rintro e w2 ⟨V, rfl, hown, hb2'⟩
  obtain ⟨g, c, rfl, hg, hgl, y0, y1, y2⟩ := one_own hown
  have p2 := (p1.alloc _).below hb2'
  have hb2 := ext_trans (ext_alloc hb1 _) hb2'
  clear hb2' hown p1 hb1 x0 x1 x2
  obtain ⟨x0, x1, x2, g0, g1, g2⟩ := p2.c3
  go_wp2_with fail
  have p3 := ((p2.set_ 0 (.int .i64 op)).set_ 1 (.int .i64 id)).set_ 2 (.string d')
  simp only [List.setIfInBounds_toArray, List.set_cons_succ, List.set_cons_zero] at p3
  have hb3 := ((hb2.setCell (p := ⟨w.heap.size, 0, none⟩) (by simp) (.int .i64 op)).setCell (p := ⟨w.heap.size, 1, none⟩) (by simp) (.int .i64 id)).setCell (p := ⟨w.heap.size, 2, none⟩) (by simp) (.string d')
  generalize ((w2.setCell ⟨w.heap.size, 0, none⟩ (.int .i64 op)).setCell ⟨w.heap.size, 1, none⟩ (.int .i64 id)).setCell ⟨w.heap.size, 2, none⟩ (.string d') = w3 at *
  clear p2 hb2 g0 g1 g2 y0 y1 y2 x0 x1 x2
  obtain ⟨x0, x1, x2, -⟩ := p3.c3
  go_wp2_with fail
  refine (E1 _ (h.below hb3)).mono ?_
  rintro e w4 ⟨rfl, hb4'⟩
  have p4 := p3.below hb4'
  have hb4 := ext_trans hb3 hb4'
  clear hb4' hb3 p3 x0 x1 x2
  obtain ⟨x0, x1, x2, -⟩ := p4.c3
  rcases F with ⟨rfl, rfl⟩ | ⟨rfl, F, rfl, hF, hd2, hD, -, -⟩
  · go_wp2_with fail
    refine (R1 _).mono ?_
    rintro e w5 ⟨rfl, hb5'⟩
    have hb5 := ext_trans hb4 hb5'
    go_wp2_with fail
    go_ret
    exact ⟨rfl, hb5⟩
  · have D1 := fun w' h' => Decode_any F 0 w' aA aT aN aW aS h' (by omega)
    rw [hD] at D1
    clear hD
    have hlen : ((F.size : Int) == 14 + (d'.size : Int)) = true := by rw [hF]; simp
    have hwr : wrap64 (14 + (d'.size : Int)) = 14 + (d'.size : Int) := IntWalk.wrap64_in _ ⟨by omega, by omega⟩
    have hwr2 : IntKind.i64.wrap (14 + (d'.size : Int)) = 14 + (d'.size : Int) := IntWalk.i64_in _ ⟨by omega, by omega⟩
    clear hF
    go_wp2_with fail
    refine (D1 _ (h.below hb4)).mono ?_
    rintro e w5 ⟨rfl, hb5'⟩
    have p5 := (p4.below hb5').alloc (.cells #[.int .i64 op, .int .i64 id, .string d'] 23)
    have q5 := Blk.new_ w5 23 #[.int .i64 op, .int .i64 id, .string d']
    have hb5 := ext_alloc (ext_trans hb4 hb5') (.cells #[.int .i64 op, .int .i64 id, .string d'] 23)
    clear hb5' hb4 p4 x0 x1 x2
    obtain ⟨x0, x1, x2, -⟩ := p5.c3
    obtain ⟨z0, z1, z2, -⟩ := q5.c3
    go_wp2_with fail
    refine (R1 _).mono ?_
    rintro e w6 ⟨rfl, hb6'⟩
    have p6 := p5.below hb6'
    have q6 := q5.below hb6'
    have hb6 := ext_trans hb5 hb6'
    clear hb6' hb5 p5 q5 x0 x1 x2 z0 z1 z2
    obtain ⟨x0, x1, x2, -⟩ := p6.c3
    obtain ⟨z0, z1, z2, -⟩ := q6.c3
    go_wp2_with fail
    go_ret
    exact ⟨rfl, hb6⟩

end Go.Proofs.YtlabmomehjfjdaaDoor
