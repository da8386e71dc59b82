/-
  Package head: the head of some bytes, where there is none (decoded). Conditions: the listed variables hold what 'HInv' says.
-/
import Derived.Test.YtfkekdpppcidbaaDoorHeadF
namespace Go.Proofs.YtfkekdpppcidbaaDoor
open Go.RowKit

/-- A byte in two, in the walk's spellings. -/
structure Split (x : UInt8) (M R : Nat) : Prop where
  hi : wrap64 ((x.toNat : Int) / 32) = (M : Int)
  lo : bits .and .u8 (x.toNat : Int) 31 = (R : Int)
  lo' : wrap64 (R : Int) = (R : Int)
  m : M = x.toNat / 32
  r : R = x.toNat % 32
theorem split_of (x : UInt8) : Split x (x.toNat / 32) (x.toNat % 32) := by
  have hx := x.toNat_lt
  have h5 := u8_and_nat x.toNat 31 hx (by omega)
  have h6 : x.toNat &&& 31 = x.toNat % 32 := Nat.and_two_pow_sub_one_eq_mod x.toNat 5
  rw [h6] at h5
  refine ⟨?_, h5, ?_, rfl, rfl⟩
  · unfold wrap64; omega
  · unfold wrap64; omega

set_option maxRecDepth 100000 in
theorem decoded_out (s : ByteArray) (a : Int) (w : World) (A : Nat → Addr) (aN aW aS : Addr) (h : HInv w A aN aW aS) (hs : s.size ≤ 9223372036854775807) (ha : a < 0 ∨ (s.size : Int) ≤ a) :
    Calls Tryd.prog 21 #[.string s, .int .i64 a] w (Ret (.agg #[.int .i64 0, .int .i64 0, .int .i64 0, ErrV (A 2)]) w) := by
  have g2 := (h.below (ext_new w (.cells #[.int .i64 0, .int .i64 0, .int .i64 0, .nilIface] 47))).c2
  unfold ErrV at g2 ⊢
  have hF : Blk (w.alloc (.cells #[.int .i64 0, .int .i64 0, .int .i64 0, .iface 100 (.pointer (some (A 2)))] 47)) w.heap.size 47 #[.int .i64 0, .int .i64 0, .int .i64 0, .iface 100 (.pointer (some (A 2)))] := Blk.new_ _ _ _
  have hb := ext_new w (.cells #[.int .i64 0, .int .i64 0, .int .i64 0, .iface 100 (.pointer (some (A 2)))] 47)
  have F0 := hF.cell 0
  have F1 := hF.cell 1
  have F2 := hF.cell 2
  have F3 := hF.cell 3
  simp only [List.getElem?_toArray, List.getElem?_cons_zero, List.getElem?_cons_succ] at F0 F1 F2 F3
  clear hF
  by_cases h0 : a < 0
  · go_enter Tryd.func21, Tryd.ntmps21
    go_wp2_with fail
    generalize (w.alloc (.cells #[.int .i64 0, .int .i64 0, .int .i64 0, .iface 100 (.pointer (some (A 2)))] 47)) = WF at *
    exact bodyPost_ret (v := .agg #[.int .i64 0, .int .i64 0, .int .i64 0, .iface 100 (.pointer (some (A 2)))]) (by simp [results, Tryd.results21, go_sem, F0, F1, F2, F3]) rfl ⟨rfl, hb⟩
  · have h1 : (s.size : Int) ≤ a := by omega
    clear ha
    go_enter Tryd.func21, Tryd.ntmps21
    go_wp2_with fail
    generalize (w.alloc (.cells #[.int .i64 0, .int .i64 0, .int .i64 0, .iface 100 (.pointer (some (A 2)))] 47)) = WF at *
    exact bodyPost_ret (v := .agg #[.int .i64 0, .int .i64 0, .int .i64 0, .iface 100 (.pointer (some (A 2)))]) (by simp [results, Tryd.results21, go_sem, F0, F1, F2, F3]) rfl ⟨rfl, hb⟩

set_option maxRecDepth 100000 in
theorem decoded_form (s : ByteArray) (p M R : Nat) (w : World) (A : Nat → Addr) (aN aW aS : Addr) (h : HInv w A aN aW aS) (hs : s.size ≤ 9223372036854775807) (hp : p < s.size) (hM : Split s[p] M R) (hf : majB (M : Int) = false ∨ (majB (M : Int) = true ∧ 27 < R)) :
    Calls Tryd.prog 21 #[.string s, .int .i64 (p : Int)] w (Ret (.agg #[.int .i64 0, .int .i64 0, .int .i64 0, ErrV (A 3)]) w) := by
  have HF := Lib.hid hf
  clear hf
  obtain ⟨k1, k2, k3, k4, k5⟩ := hM
  have hR : R < 32 := by omega
  clear k4 k5
  have i3 : (0 : Int) ≤ (p : Int) := by omega
  have i4 : (p : Int) < (s.size : Int) := by omega
  go_enter Tryd.func21, Tryd.ntmps21
  go_wp2_with fail
  go_quiet (fail)
  have hW0 := hbelow_drewN (ext_new w (.cells #[.int .i64 0, .int .i64 0, .int .i64 0, .nilIface] 47)) nq
  have hB0 : Blk ((w.alloc (.cells #[.int .i64 0, .int .i64 0, .int .i64 0, .nilIface] 47)).drewN nq) w.heap.size 47 #[.int .i64 0, .int .i64 0, .int .i64 0, .nilIface] := Blk.new_ w _ _
  generalize (w.alloc (.cells #[.int .i64 0, .int .i64 0, .int .i64 0, .nilIface] 47)).drewN nq = W at *
  go_wp2_with fail
  refine (isMajor_any (M : Int) _).mono ?_
  rintro e w1 ⟨rfl, hb1⟩
  have g3 := (h.below (ext_trans hW0 hb1)).c3
  have hB := hB0.below hb1
  have hbw := ext_trans hW0 hb1
  clear hW0 hb1 hB0
  unfold ErrV at g3 ⊢
  have f0 := hB.frozen 0
  have f1 := hB.frozen 1
  have f2 := hB.frozen 2
  have f3 := hB.frozen 3
  have c0 := hB.cell 0
  have c1 := hB.cell 1
  have c2 := hB.cell 2
  have c3 := hB.cell 3
  have hl := hB.lt
  simp only [List.getElem?_toArray, List.getElem?_cons_zero, List.getElem?_cons_succ] at c0 c1 c2 c3
  have hFB := (((hB.set_ 0 (.int .i64 0)).set_ 1 (.int .i64 0)).set_ 2 (.int .i64 0)).set_ 3 (.iface 100 (.pointer (some (A 3))))
  have hFW := (((hbw.setCell (by simp) (p := ⟨w.heap.size, 0, none⟩) (.int .i64 0)).setCell (by simp) (p := ⟨w.heap.size, 1, none⟩) (.int .i64 0)).setCell (by simp) (p := ⟨w.heap.size, 2, none⟩) (.int .i64 0)).setCell (by simp) (p := ⟨w.heap.size, 3, none⟩) (.iface 100 (.pointer (some (A 3))))
  rcases HF.out with hm | ⟨hm, hr⟩
  · rw [hm]
    go_wp2_with fail
    generalize (((w1.setCell ⟨w.heap.size, 0, none⟩ (.int .i64 0)).setCell ⟨w.heap.size, 1, none⟩ (.int .i64 0)).setCell ⟨w.heap.size, 2, none⟩ (.int .i64 0)).setCell ⟨w.heap.size, 3, none⟩ (.iface 100 (.pointer (some (A 3)))) = WF at *
    have F0 := hFB.cell 0
    have F1 := hFB.cell 1
    have F2 := hFB.cell 2
    have F3 := hFB.cell 3
    simp only [List.setIfInBounds_toArray, List.set_cons_succ, List.set_cons_zero, List.getElem?_toArray, List.getElem?_cons_zero, List.getElem?_cons_succ] at F0 F1 F2 F3
    exact bodyPost_ret (v := .agg #[.int .i64 0, .int .i64 0, .int .i64 0, .iface 100 (.pointer (some (A 3)))]) (by simp [results, Tryd.results21, go_sem, F0, F1, F2, F3]) rfl ⟨rfl, hFW⟩
  · rw [hm]
    have hr' : (27 : Int) < (R : Int) := by omega
    go_wp2_with fail
    generalize (((w1.setCell ⟨w.heap.size, 0, none⟩ (.int .i64 0)).setCell ⟨w.heap.size, 1, none⟩ (.int .i64 0)).setCell ⟨w.heap.size, 2, none⟩ (.int .i64 0)).setCell ⟨w.heap.size, 3, none⟩ (.iface 100 (.pointer (some (A 3)))) = WF at *
    have F0 := hFB.cell 0
    have F1 := hFB.cell 1
    have F2 := hFB.cell 2
    have F3 := hFB.cell 3
    simp only [List.setIfInBounds_toArray, List.set_cons_succ, List.set_cons_zero, List.getElem?_toArray, List.getElem?_cons_zero, List.getElem?_cons_succ] at F0 F1 F2 F3
    exact bodyPost_ret (v := .agg #[.int .i64 0, .int .i64 0, .int .i64 0, .iface 100 (.pointer (some (A 3)))]) (by simp [results, Tryd.results21, go_sem, F0, F1, F2, F3]) rfl ⟨rfl, hFW⟩

end Go.Proofs.YtfkekdpppcidbaaDoor
