/-
  Package postriderlaw04: an item cut (Cut). Conditions: as the theorems' own hypotheses say.
-/
import Derived.Test.YtmoghgmbpkpcfaaGreatDoorItCu
namespace Go.Proofs.YtmoghgmbpkpcfaaGreatDoor
open Go.RowKit Go.Shelf

set_option maxRecDepth 100000 in
theorem ICut_any (t : VT) (w : World) (hv : VAt w.heap.size w 7 t) : Calls Tryz.prog 5 #[t.val] w fun e w' => ∃ t' : TV, e = .returned t'.val ∧ IsT (cutT 6 t) 7 w w' t' ∧ Over (w.heap.size + 1) t' := by
  have hb0 := ext_alloc (ext_new w (.cells #[.int .i64 t.kind, .int .i64 t.num, .string t.txt, .slice t.at_ t.len t.cap] 24)) (.cells #[.int .i64 0, .int .i64 0, .string ⟨#[]⟩, .slice none 0 0] 24)
  have hR := Blk.new_ (w.alloc (.cells #[.int .i64 t.kind, .int .i64 t.num, .string t.txt, .slice t.at_ t.len t.cap] 24)) 24 #[.int .i64 0, .int .i64 0, .string ⟨#[]⟩, .slice none 0 0]
  have hX := (Blk.new_ w 24 #[.int .i64 t.kind, .int .i64 t.num, .string t.txt, .slice t.at_ t.len t.cap]).alloc (.cells #[.int .i64 0, .int .i64 0, .string ⟨#[]⟩, .slice none 0 0] 24)
  simp only [World.size_alloc] at hR
  have hC := cutAt_any 6 7 t ((w.alloc (.cells #[.int .i64 t.kind, .int .i64 t.num, .string t.txt, .slice t.at_ t.len t.cap] 24)).alloc (.cells #[.int .i64 0, .int .i64 0, .string ⟨#[]⟩, .slice none 0 0] 24)) rfl (Nat.le_refl _) (hv.below hb0 hb0.size)
  obtain ⟨c0, c1, c2, c3, -⟩ := hX.c4
  unfold VT.val VT.row at hC ⊢
  go_enter Tryz.func5, Tryz.ntmps5
  go_wp2_with fail
  refine hC.mono ?_
  rintro e w1 ⟨t', rfl, q1, q2, q3, q4, hb1⟩
  have hR1 := hR.below hb1
  have g1 := hR1.lt
  obtain ⟨d0, d1, d2, d3, f0, f1, f2, f3⟩ := hR1.c4
  unfold TV.val TV.row
  go_wp2_with fail
  have hb2 := ext_trans hb0 hb1
  refine bodyPost_ret (v := _) (ret_item1 (pt := 2) (by kernel_rfl) rfl (blk_set4 hR1 _ _ _ _)) rfl ⟨t', rfl, ⟨q1, ?_, q4, below_set4 hb2 (by omega) _ _ _ _⟩, q3.mono (by simp)⟩
  refine q2.kept q3 (fun k hk hd => ?_) (by simp)
  have hk2 : w.heap.size + 1 + 1 ≤ k := by simpa using hk
  rw [Below.heap_setCell _ _ _ _ (by simp; omega), Below.heap_setCell _ _ _ _ (by simp; omega), Below.heap_setCell _ _ _ _ (by simp; omega), Below.heap_setCell _ _ _ _ (by simp; omega)]

/-- A tree stands where cells of a block below it are set. -/
theorem IsT.set {x : IN} {f L g : Nat} {w w' : World} {t : TV} (h : IsT x f w w' t) (ho : Over L t) (hg : g < L) (hw : w.heap.size ≤ g) (u0 u1 u2 u3 : Value) : IsT x f w ((((w'.setCell ⟨g, 0, none⟩ u0).setCell ⟨g, 1, none⟩ u1).setCell ⟨g, 2, none⟩ u2).setCell ⟨g, 3, none⟩ u3) t := by
  refine ⟨h.item, h.at_.kept ho (fun k hk hd => ?_) (by simp), h.fits, below_set4 h.bel hw _ _ _ _⟩
  rw [Below.heap_setCell _ _ _ _ (by simp; omega), Below.heap_setCell _ _ _ _ (by simp; omega), Below.heap_setCell _ _ _ _ (by simp; omega), Below.heap_setCell _ _ _ _ (by simp; omega)]
theorem IsT.from {x : IN} {f : Nat} {w w1 w2 : World} {t : TV} (h : IsT x f w1 w2 t) (hb : Below w.heap.size w w1) : IsT x f w w2 t := ⟨h.item, h.at_, h.fits, ext_trans hb h.bel⟩
theorem enc_right {x : IN} (h : x.right = true) : encI x = (x.text, 0) := by rw [encI, if_pos h]
theorem enc_wrong {x : IN} (h : x.right = false) : encI x = (ByteArray.empty, 40) := by rw [encI, if_neg (by rw [h]; decide)]

end Go.Proofs.YtmoghgmbpkpcfaaGreatDoor
