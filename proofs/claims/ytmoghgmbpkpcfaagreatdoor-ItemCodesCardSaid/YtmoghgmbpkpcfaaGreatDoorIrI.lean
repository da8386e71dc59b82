/-
  Package postriderref04 (the document's answer for items): Decode, Whole. Conditions: as the theorems' own hypotheses say.
-/
import Derived.Test.YtmoghgmbpkpcfaaGreatDoorIrH
import Derived.Test.YtmoghgmbpkpcfaaGreatDoorItY
namespace Go.Proofs.YtmoghgmbpkpcfaaGreatDoor
open Go.RowKit Go.Shelf

set_option maxRecDepth 100000 in
set_option maxHeartbeats 1000000 in
theorem rIDecode_any {s : ByteArray} (a : Int) {w : World} (hs : s.size ≤ 9223372036854775000) :
    Calls Tryz.prog 10 #[.string s, .int .i64 a] w fun e w' => ∃ t : TV, e = .returned (.tuple #[t.val, .int .i64 (decI s a).2.1, .int .i64 (decI s a).2.2]) ∧ IsT (decI s a).1 6 w w' t ∧ Over w.heap.size t := by
  rw [decI_read]
  have hb1 := ext_alloc (ext_new w (.cells #[.int .i64 0, .int .i64 0, .string ⟨#[]⟩, .slice none 0 0] 24)) (.cells #[.string s, .int .i64 0] 65)
  have hP := Blk.new_ (w.alloc (.cells #[.int .i64 0, .int .i64 0, .string ⟨#[]⟩, .slice none 0 0] 24)) 65 #[.string s, .int .i64 0]
  have hR := (Blk.new_ w 24 #[.int .i64 0, .int .i64 0, .string ⟨#[]⟩, .slice none 0 0]).alloc (.cells #[.string s, .int .i64 0] 65)
  simp only [World.size_alloc] at hP
  go_enter Tryz.func10, Tryz.ntmps10
  go_wp2_with fail
  generalize (w.alloc (.cells #[.int .i64 0, .int .i64 0, .string ⟨#[]⟩, .slice none 0 0] 24)).alloc (.cells #[.string s, .int .i64 0] 65) = w1 at *
  refine (rread_top hs hP).mono ?_
  rintro e w2 ⟨t, a2, er, rfl, hG⟩
  obtain ⟨hr, h1, h2, h3, h4, h5⟩ := hG.top hb1 (Nat.le_succ _)
  have HR := Lib.hid hr
  clear hr hG
  have hl := hR.lt
  have hR2 := hR.kept (h5.block _ hR.lt (by omega))
  obtain ⟨z0, z1, z2, z3, v0, v1, v2, v3⟩ := hR2.c4
  go_wp2_with fail
  refine bodyPost_ret (v := _) (ret_item3 (pt := 4) (u := 5) (v := 6) (by kernel_rfl) rfl (blk_set4 hR2 _ _ _ _)) rfl ⟨t, ?_, ⟨?_, ?_, h3, below_set4 h4 (Nat.le_refl _) _ _ _ _⟩, h2.off.over fun k hk => Nat.le_trans hb1.size hk⟩
  · rw [HR.out]; rfl
  · rw [HR.out]
  · refine h1.kept h2 (fun k hk hd => ?_) (by simp only [World.size_setCell]; exact Nat.le_refl _)
    rw [Below.heap_setCell _ _ _ _ (by simp; omega), Below.heap_setCell _ _ _ _ (by simp; omega), Below.heap_setCell _ _ _ _ (by simp; omega), Below.heap_setCell _ _ _ _ (by simp; omega)]

theorem dec_nil {s : ByteArray} {a : Int} (h : (decI s a).2.2 ≠ 0) : (decI s a).1 = nilI := by
  rw [decI_read] at h ⊢
  cases hr : readA s a with
  | bad er => rfl
  | ok c a' x => rw [hr] at h; exact absurd rfl h

set_option maxRecDepth 100000 in
set_option maxHeartbeats 1000000 in
theorem rIWhole_any {s : ByteArray} {w : World} (hs : s.size ≤ 9223372036854775000) :
    Calls Tryz.prog 12 #[.string s] w fun e w' => ∃ t : TV, e = .returned (.tuple #[t.val, .int .i64 (wholeI s).2]) ∧ IsT (wholeI s).1 6 w w' t := by
  have r0 := Blk.new_ w 24 #[.int .i64 0, .int .i64 0, .string ⟨#[]⟩, .slice none 0 0]
  have hb0 := ext_new w (.cells #[.int .i64 0, .int .i64 0, .string ⟨#[]⟩, .slice none 0 0] 24)
  have hD := rIDecode_any (s := s) 0 (w := w.alloc (.cells #[.int .i64 0, .int .i64 0, .string ⟨#[]⟩, .slice none 0 0] 24)) hs
  have hn := dec_nil (s := s) (a := 0)
  have hW : wholeI s = if (decI s 0).2.2 = 0 then (if (decI s 0).2.1 = (s.size : Int) then ((decI s 0).1, 0) else (nilI, 20)) else (nilI, (decI s 0).2.2) := rfl
  obtain ⟨⟨x, a, er⟩, hdec⟩ : ∃ p, decI s 0 = p := ⟨_, rfl⟩
  rw [hdec] at hD hn hW
  dsimp only at hD hn hW
  have HW := Lib.hid hW
  have HN := Lib.hid hn
  clear hdec hW hn
  go_enter Tryz.func12, Tryz.ntmps12
  go_wp2_with fail
  refine hD.mono ?_
  rintro e w3 ⟨t, rfl, ht, ho⟩
  have r3 := r0.below ht.bel
  have hb3 : Below w.heap.size w w3 := hb0.trans (ht.bel.mono hb0.size)
  have hl3 := r3.lt
  have n1 : ¬ w.heap.size = w3.heap.size := by omega
  have n2 : ¬ w3.heap.size = w.heap.size := by omega
  obtain ⟨z0, z1, z2, z3, v0, v1, v2, v3⟩ := r3.c4
  rw [World.size_alloc] at ho
  have hat : ∀ u0 u1 u2 u3 o, ItAt (((((w3.setCell ⟨w.heap.size, 0, none⟩ u0).setCell ⟨w.heap.size, 1, none⟩ u1).setCell ⟨w.heap.size, 2, none⟩ u2).setCell ⟨w.heap.size, 3, none⟩ u3).alloc o).heap.size (((((w3.setCell ⟨w.heap.size, 0, none⟩ u0).setCell ⟨w.heap.size, 1, none⟩ u1).setCell ⟨w.heap.size, 2, none⟩ u2).setCell ⟨w.heap.size, 3, none⟩ u3).alloc o) t := fun u0 u1 u2 u3 o => by
    refine ItAt.later (ItAt.kept (D' := ((((w3.setCell ⟨w.heap.size, 0, none⟩ u0).setCell ⟨w.heap.size, 1, none⟩ u1).setCell ⟨w.heap.size, 2, none⟩ u2).setCell ⟨w.heap.size, 3, none⟩ u3).heap.size) ht.at_ ho (fun k hk hd => ?_) (by simp)) (ext_new _ o) (by simp)
    rw [Below.heap_setCell _ _ _ _ (by simp; omega), Below.heap_setCell _ _ _ _ (by simp; omega), Below.heap_setCell _ _ _ _ (by simp; omega), Below.heap_setCell _ _ _ _ (by simp; omega)]
  have HT := Lib.hid ht
  have HAT := Lib.hid hat
  clear ht hD r0 hb0 hat
  unfold TV.val TV.row
  by_cases h0 : er = 0
  · subst h0
    by_cases h1 : a = (s.size : Int)
    · subst h1
      have e1 : wholeI s = (x, 0) := by rw [HW.out, if_pos rfl, if_pos rfl]
      have HE := Lib.hid e1
      clear e1
      go_wp2_with fail
      refine bodyPost_ret (v := _) (ret_item (pt := 2) (u := 3) (by kernel_rfl) rfl ((blk_set4 r3 _ _ _ _).alloc _)) rfl ?_
      rw [HE.out]
      refine ⟨t, rfl, HT.out.item, HAT.out _ _ _ _ _, HT.out.fits, (below_set4 hb3 (Nat.le_refl _) _ _ _ _).alloc (by simp only [World.size_setCell]; omega) _⟩
    · have h2 : (a == (s.size : Int)) = false := beq_eq_false_iff_ne.2 h1
      have e1 : wholeI s = (nilI, 20) := by rw [HW.out, if_pos rfl, if_neg h1]
      have HE := Lib.hid e1
      clear e1
      go_wp2_with fail
      refine bodyPost_ret (v := _) (ret_item (pt := 2) (u := 3) (by kernel_rfl) rfl ((blk_set4 r3 _ _ _ _).alloc _)) rfl ?_
      rw [HE.out]
      exact ⟨nilT, rfl, rfl, nilT_at _ _, nilT_fits 5, (below_set4 hb3 (Nat.le_refl _) _ _ _ _).alloc (by simp only [World.size_setCell]; omega) _⟩
  · have h2 : (er == 0) = false := beq_eq_false_iff_ne.2 h0
    have e1 : wholeI s = (nilI, er) := by rw [HW.out, if_neg h0]
    have HE := Lib.hid e1
    have HX := Lib.hid (HN.out h0)
    clear e1
    go_wp2_with fail
    refine bodyPost_ret (v := _) (ret_item (pt := 2) (u := 3) (by kernel_rfl) rfl ((blk_set4 r3 _ _ _ _).alloc _)) rfl ?_
    rw [HE.out]
    refine ⟨t, rfl, HT.out.item.trans HX.out, HAT.out _ _ _ _ _, HT.out.fits, (below_set4 hb3 (Nat.le_refl _) _ _ _ _).alloc (by simp only [World.size_setCell]; omega) _⟩

end Go.Proofs.YtmoghgmbpkpcfaaGreatDoor
