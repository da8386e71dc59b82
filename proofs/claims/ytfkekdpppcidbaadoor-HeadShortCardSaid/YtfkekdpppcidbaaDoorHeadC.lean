/-
  Package head: isMajor, and a head's bytes where there are none (encoded). Conditions: the listed variables hold what 'HInv' says.
-/
import Derived.Test.YtfkekdpppcidbaaDoorHeadB
import Derived.Test.YtfkekdpppcidbaaDoorBlk
namespace Go.Proofs.YtfkekdpppcidbaaDoor
open Go.RowKit

/-- Is a number a major? -/
def majB (n : Int) : Bool := n == 0 || n == 2 || n == 3 || n == 4

set_option maxRecDepth 100000 in
theorem isMajor_0 (w : World) : Calls Tryd.prog 29 #[.int .i64 0] w (Ret (.bool true) w) := by
  go_enter Tryd.func29, Tryd.ntmps29
  go_wp2_with fail
  have h1 : Calls Tryd.prog 37 #[.int .i64 0, .slice (some ⟨w.heap.size, 0, none⟩) 4 4] (w.alloc (.cells #[.int .i64 0, .int .i64 2, .int .i64 3, .int .i64 4] 3)) (Pure (.bool true) (w.alloc (.cells #[.int .i64 0, .int .i64 2, .int .i64 3, .int .i64 4] 3))) := by
    go_enter Tryd.func37, Tryd.ntmps37
    go_wp2
    refine wp_loop_rounds 1 ?_
    rw [rounds_succ]
    go_wp2
    go_ret
    exact ⟨rfl, rfl⟩
  refine h1.mono ?_
  rintro e w1 ⟨rfl, rfl⟩
  go_wp2_with fail
  go_ret
  exact ⟨rfl, ext_new _ _⟩

set_option maxRecDepth 100000 in
theorem isMajor_2 (w : World) : Calls Tryd.prog 29 #[.int .i64 2] w (Ret (.bool true) w) := by
  go_enter Tryd.func29, Tryd.ntmps29
  go_wp2_with fail
  have h1 : Calls Tryd.prog 37 #[.int .i64 2, .slice (some ⟨w.heap.size, 0, none⟩) 4 4] (w.alloc (.cells #[.int .i64 0, .int .i64 2, .int .i64 3, .int .i64 4] 3)) (Pure (.bool true) (w.alloc (.cells #[.int .i64 0, .int .i64 2, .int .i64 3, .int .i64 4] 3))) := by
    go_enter Tryd.func37, Tryd.ntmps37
    go_wp2
    refine wp_loop_rounds 2 ?_
    rw [rounds_succ]
    go_wp2
    rw [rounds_succ]
    go_wp2
    go_ret
    exact ⟨rfl, rfl⟩
  refine h1.mono ?_
  rintro e w1 ⟨rfl, rfl⟩
  go_wp2_with fail
  go_ret
  exact ⟨rfl, ext_new _ _⟩

set_option maxRecDepth 100000 in
theorem isMajor_3 (w : World) : Calls Tryd.prog 29 #[.int .i64 3] w (Ret (.bool true) w) := by
  go_enter Tryd.func29, Tryd.ntmps29
  go_wp2_with fail
  have h1 : Calls Tryd.prog 37 #[.int .i64 3, .slice (some ⟨w.heap.size, 0, none⟩) 4 4] (w.alloc (.cells #[.int .i64 0, .int .i64 2, .int .i64 3, .int .i64 4] 3)) (Pure (.bool true) (w.alloc (.cells #[.int .i64 0, .int .i64 2, .int .i64 3, .int .i64 4] 3))) := by
    go_enter Tryd.func37, Tryd.ntmps37
    go_wp2
    refine wp_loop_rounds 3 ?_
    rw [rounds_succ]
    go_wp2
    rw [rounds_succ]
    go_wp2
    rw [rounds_succ]
    go_wp2
    go_ret
    exact ⟨rfl, rfl⟩
  refine h1.mono ?_
  rintro e w1 ⟨rfl, rfl⟩
  go_wp2_with fail
  go_ret
  exact ⟨rfl, ext_new _ _⟩

set_option maxRecDepth 100000 in
theorem isMajor_4 (w : World) : Calls Tryd.prog 29 #[.int .i64 4] w (Ret (.bool true) w) := by
  go_enter Tryd.func29, Tryd.ntmps29
  go_wp2_with fail
  have h1 : Calls Tryd.prog 37 #[.int .i64 4, .slice (some ⟨w.heap.size, 0, none⟩) 4 4] (w.alloc (.cells #[.int .i64 0, .int .i64 2, .int .i64 3, .int .i64 4] 3)) (Pure (.bool true) (w.alloc (.cells #[.int .i64 0, .int .i64 2, .int .i64 3, .int .i64 4] 3))) := by
    go_enter Tryd.func37, Tryd.ntmps37
    go_wp2
    refine wp_loop_rounds 4 ?_
    rw [rounds_succ]
    go_wp2
    rw [rounds_succ]
    go_wp2
    rw [rounds_succ]
    go_wp2
    rw [rounds_succ]
    go_wp2
    go_ret
    exact ⟨rfl, rfl⟩
  refine h1.mono ?_
  rintro e w1 ⟨rfl, rfl⟩
  go_wp2_with fail
  go_ret
  exact ⟨rfl, ext_new _ _⟩

set_option maxRecDepth 100000 in
theorem isMajor_no (n : Int) (w : World) (h : majB n = false) : Calls Tryd.prog 29 #[.int .i64 n] w (Ret (.bool false) w) := by
  rw [majB, Bool.or_eq_false_iff, Bool.or_eq_false_iff, Bool.or_eq_false_iff] at h
  obtain ⟨⟨⟨h0, h2⟩, h3⟩, h4⟩ := h
  have e0 : ((0 : Int) == n) = false := by rw [beq_eq_false_iff_ne] at h0 ⊢; omega
  have e2 : ((2 : Int) == n) = false := by rw [beq_eq_false_iff_ne] at h2 ⊢; omega
  have e3 : ((3 : Int) == n) = false := by rw [beq_eq_false_iff_ne] at h3 ⊢; omega
  have e4 : ((4 : Int) == n) = false := by rw [beq_eq_false_iff_ne] at h4 ⊢; omega
  clear h0 h2 h3 h4
  go_enter Tryd.func29, Tryd.ntmps29
  go_wp2_with fail
  have h1 : Calls Tryd.prog 37 #[.int .i64 n, .slice (some ⟨w.heap.size, 0, none⟩) 4 4] (w.alloc (.cells #[.int .i64 0, .int .i64 2, .int .i64 3, .int .i64 4] 3)) (Pure (.bool false) (w.alloc (.cells #[.int .i64 0, .int .i64 2, .int .i64 3, .int .i64 4] 3))) := by
    go_enter Tryd.func37, Tryd.ntmps37
    go_wp2
    refine wp_loop_rounds 5 ?_
    rw [rounds_succ]
    go_wp2
    rw [rounds_succ]
    go_wp2
    rw [rounds_succ]
    go_wp2
    rw [rounds_succ]
    go_wp2
    rw [rounds_succ]
    go_wp2
    go_ret
    exact ⟨rfl, rfl⟩
  refine h1.mono ?_
  rintro e w1 ⟨rfl, rfl⟩
  go_wp2_with fail
  go_ret
  exact ⟨rfl, ext_new _ _⟩
theorem isMajor_any (n : Int) (w : World) : Calls Tryd.prog 29 #[.int .i64 n] w (Ret (.bool (majB n)) w) := by
  by_cases h0 : n = 0
  · subst h0; exact isMajor_0 w
  by_cases h2 : n = 2
  · subst h2; exact isMajor_2 w
  by_cases h3 : n = 3
  · subst h3; exact isMajor_3 w
  by_cases h4 : n = 4
  · subst h4; exact isMajor_4 w
  · have hm : majB n = false := by simp [majB, h0, h2, h3, h4]
    rw [hm]
    exact isMajor_no n w hm

theorem encoded_major (m n : Int) (w : World) (A : Nat → Addr) (aN aW aS : Addr) (h : HInv w A aN aW aS) (hm : majB m = false) :
    Calls Tryd.prog 19 #[.int .i64 m, .int .i64 n] w (Ret (.agg #[.string ByteArray.empty, ErrV (A 0)]) w) := by
  have HM := Lib.hid hm
  clear hm
  go_enter Tryd.func19, Tryd.ntmps19
  go_wp2_with fail
  refine (isMajor_any m _).mono ?_
  rintro e w1 ⟨rfl, hb1⟩
  rw [HM.out]
  have hb0 : Below w.heap.size w w1 := ext_trans (ext_alloc (ext_new w _) _) hb1
  have hB : Blk w1 (w.heap.size + 1) 40 #[.string ByteArray.empty, .nilIface] := (Blk.at_ (by simp)).below hb1
  have c0 := hB.cell 0
  have c1 := hB.cell 1
  have f0 := hB.frozen 0
  have f1 := hB.frozen 1
  simp only [List.getElem?_toArray, List.getElem?_cons_zero, List.getElem?_cons_succ] at c0 c1
  have g0 := (h.below hb0).c0
  unfold ErrV at g0
  have hsz := hB.lt
  go_wp2_with fail
  generalize hW : (w1.setCell ⟨w.heap.size + 1, 0, none⟩ (.string ⟨#[]⟩)).setCell ⟨w.heap.size + 1, 1, none⟩ (.iface 100 (.pointer (some (A 0)))) = WF
  have hF : Blk WF (w.heap.size + 1) 40 #[.string ByteArray.empty, .iface 100 (.pointer (some (A 0)))] := by rw [← hW]; exact (hB.set_ 0 (.string ⟨#[]⟩)).set_ 1 (.iface 100 (.pointer (some (A 0))))
  have hbF : Below w.heap.size w WF := by rw [← hW]; exact (hb0.setCell (by simp) _).setCell (by simp) _
  have F0 := hF.cell 0
  have F1 := hF.cell 1
  simp only [List.getElem?_toArray, List.getElem?_cons_zero, List.getElem?_cons_succ] at F0 F1
  clear hW
  exact bodyPost_ret (v := .agg #[.string ByteArray.empty, .iface 100 (.pointer (some (A 0)))]) (by simp [results, Tryd.results19, go_sem, F0, F1]) rfl ⟨rfl, hbF⟩
theorem encoded_num (m n : Int) (w : World) (A : Nat → Addr) (aN aW aS : Addr) (h : HInv w A aN aW aS) (hm : majB m = true) (hn : okNum n = false) :
    Calls Tryd.prog 19 #[.int .i64 m, .int .i64 n] w (Ret (.agg #[.string ByteArray.empty, ErrV (A 1)]) w) := by
  have HM := Lib.hid hm
  have HN := Lib.hid hn
  clear hm hn
  go_enter Tryd.func19, Tryd.ntmps19
  go_wp2_with fail
  refine (isMajor_any m _).mono ?_
  rintro e w1 ⟨rfl, hb1⟩
  rw [HM.out]
  have hb0 : Below w.heap.size w w1 := ext_trans (ext_alloc (ext_new w _) _) hb1
  have hB : Blk w1 (w.heap.size + 1) 40 #[.string ByteArray.empty, .nilIface] := (Blk.at_ (by simp)).below hb1
  have hC : Blk w1 w.heap.size 3 #[.int .i64 n] := ((Blk.new_ w _ _).alloc _).below hb1
  have d0 := hC.cell 0
  have c0 := hB.cell 0
  have c1 := hB.cell 1
  have f0 := hB.frozen 0
  have f1 := hB.frozen 1
  simp only [List.getElem?_toArray, List.getElem?_cons_zero, List.getElem?_cons_succ] at c0 c1 d0
  have g0 := (h.below hb0).c1
  unfold ErrV at g0
  have hsz := hB.lt
  go_wp2_with fail
  refine (Right_any n _).mono ?_
  rintro e w2 ⟨rfl, rfl⟩
  rw [HN.out]
  go_wp2_with fail
  generalize hW : (w1.setCell ⟨w.heap.size + 1, 0, none⟩ (.string ⟨#[]⟩)).setCell ⟨w.heap.size + 1, 1, none⟩ (.iface 100 (.pointer (some (A 1)))) = WF
  have hF : Blk WF (w.heap.size + 1) 40 #[.string ByteArray.empty, .iface 100 (.pointer (some (A 1)))] := by rw [← hW]; exact (hB.set_ 0 (.string ⟨#[]⟩)).set_ 1 (.iface 100 (.pointer (some (A 1))))
  have hbF : Below w.heap.size w WF := by rw [← hW]; exact (hb0.setCell (by simp) _).setCell (by simp) _
  have F0 := hF.cell 0
  have F1 := hF.cell 1
  simp only [List.getElem?_toArray, List.getElem?_cons_zero, List.getElem?_cons_succ] at F0 F1
  clear hW
  exact bodyPost_ret (v := .agg #[.string ByteArray.empty, .iface 100 (.pointer (some (A 1)))]) (by simp [results, Tryd.results19, go_sem, F0, F1]) rfl ⟨rfl, hbF⟩

end Go.Proofs.YtfkekdpppcidbaaDoor
