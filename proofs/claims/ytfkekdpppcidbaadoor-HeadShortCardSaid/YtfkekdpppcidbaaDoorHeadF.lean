/-
  Package head: a head's argument (argument). Conditions: the listed variables hold what 'HInv' says.
-/
import Derived.Test.YtfkekdpppcidbaaDoorHeadE
namespace Go.Proofs.YtfkekdpppcidbaaDoor
open Go.RowKit

/-- What argument tells, by what Take tells. -/
def argV (t : Int × Int) (wd : Int) (A : Nat → Addr) : Value := if t.2 = 0 then .tuple #[.int .i64 t.1, .int .i64 wd, .nilIface] else if t.2 = 10 then .tuple #[.int .i64 0, .int .i64 0, ErrV (A 1)] else .tuple #[.int .i64 0, .int .i64 0, ErrV (A 2)]
theorem hbelow_drewN {B : Nat} {a w : World} (h : Below B a w) (n : Nat) : Below B a (w.drewN n) := ⟨h.os, h.tape, h.output, h.size, h.block⟩
theorem argV_0 {x wd : Int} {A : Nat → Addr} : argV (x, 0) wd A = .tuple #[.int .i64 x, .int .i64 wd, .nilIface] := rfl
theorem argV_10 {x wd : Int} {A : Nat → Addr} : argV (x, 10) wd A = .tuple #[.int .i64 0, .int .i64 0, ErrV (A 1)] := rfl
theorem argV_e {x e wd : Int} {A : Nat → Addr} (h0 : e ≠ 0) (h1 : e ≠ 10) : argV (x, e) wd A = .tuple #[.int .i64 0, .int .i64 0, ErrV (A 2)] := by rw [argV, if_neg h0, if_neg h1]

set_option maxRecDepth 100000 in
set_option maxHeartbeats 1000000 in
theorem argument_low (s : ByteArray) (a r : Int) (w : World) (A : Nat → Addr) (aN aW aS : Addr) (h : HInv w A aN aW aS) (hr : r < 24) :
    Calls Tryd.prog 33 #[.string s, .int .i64 a, .int .i64 r] w (Ret (.tuple #[.int .i64 r, .int .i64 0, .nilIface]) w) := by
  have r0 := h.r0
  have r1 := h.r1
  have r2 := h.r2
  have r3 := h.r3
  have r4 := h.r4
  have r5 := h.r5
  have r6 := h.r6
  have r7 := h.r7
  have r8 := h.r8
  have r9 := h.r9
  have r10 := h.r10
  have r11 := h.r11
  have r12 := h.r12
  have r13 := h.r13
  have r14 := h.r14
  have i0 := roomsAt0
  have i1 := roomsAt1
  have i2 := roomsAt2
  have i3 := roomsAt3
  have i4 := roomsAt4
  go_enter Tryd.func33, Tryd.ntmps33
  go_wp2_with fail
  clear r0 r1 r2 r3 r4 r5 r6 r7 r8 r9 r10 r11 r12 r13 r14
  refine wp_loop_rounds 6 ?_
  rw [rounds_succ]
  go_wp2_with fail
  rw [rounds_succ]
  go_wp2_with fail
  rw [rounds_succ]
  go_wp2_with fail
  rw [rounds_succ]
  go_wp2_with fail
  rw [rounds_succ]
  go_wp2_with fail
  rw [rounds_succ]
  go_wp2_with fail
  refine bodyPost_ret (v := .tuple #[.int .i64 r, .int .i64 0, .nilIface]) (by simp [results, Tryd.results33]) rfl ⟨rfl, ?_⟩
  exact ext_alloc (ext_alloc (ext_alloc (ext_alloc (ext_new w _) _) _) _) _

set_option maxRecDepth 100000 in
set_option maxHeartbeats 1000000 in
theorem argument_24 (s : ByteArray) (a : Int) (w : World) (A : Nat → Addr) (aN aW aS : Addr) (h : HInv w A aN aW aS) (hs : s.size ≤ 9223372036854775807) :
    Calls Tryd.prog 33 #[.string s, .int .i64 a, .int .i64 24] w (Ret (argV (takeV s a 1) 1 A) w) := by
  have r0 := h.r0
  have r1 := h.r1
  have r2 := h.r2
  have r3 := h.r3
  have r4 := h.r4
  have r5 := h.r5
  have r6 := h.r6
  have r7 := h.r7
  have r8 := h.r8
  have r9 := h.r9
  have r10 := h.r10
  have r11 := h.r11
  have r12 := h.r12
  have r13 := h.r13
  have r14 := h.r14
  have i0 := roomsAt0
  have i1 := roomsAt1
  have i2 := roomsAt2
  have i3 := roomsAt3
  have i4 := roomsAt4
  have hT := fun w' h' => Take_any s a 1 w' aN aW aS h' hs (by omega) (by omega)
  generalize takeV s a 1 = t at hT ⊢
  obtain ⟨t1, t2⟩ := t
  go_enter Tryd.func33, Tryd.ntmps33
  go_wp2_with fail
  clear r0 r1 r2 r3 r4 r5 r6 r7 r8 r9 r10 r11 r12 r13 r14
  refine wp_loop_rounds 2 ?_
  rw [rounds_succ]
  go_wp2_with fail
  rw [rounds_succ]
  go_wp2_with fail
  have hx0 : Blk (((w.alloc (.cells #[.int .i64 0, .int .i64 24, .int .i64 0] 64)).alloc (.cells #[.int .i64 1, .int .i64 256, .int .i64 24] 64))) (w.heap.size + 1) 64 #[.int .i64 1, .int .i64 256, .int .i64 24] := Blk.at_ (by simp)
  refine (hT _ (h.below (ext_alloc (ext_new w _) _)).nums).mono ?_
  rintro e w1 ⟨rfl, hb1'⟩
  have hx := (hx0.below hb1').cell 0
  have hxl := (hx0.below hb1').lt
  have hb1 := ext_trans (ext_alloc (ext_new w _) _) hb1'
  have g1 := (h.below hb1).c1
  have g2 := (h.below hb1).c2
  simp only [List.getElem?_toArray, List.getElem?_cons_zero] at hx
  clear hx0 hb1' hT i0 i1 i2 i3 i4
  by_cases e0 : t2 = 0
  · subst e0
    rw [argV_0]
    go_wp2_with fail
    go_quiet (fail)
    go_wp2
    exact bodyPost_ret (v := .tuple #[.int .i64 t1, .int .i64 1, .nilIface]) (by simp [results, Tryd.results33]) rfl ⟨rfl, hbelow_drewN hb1 _⟩
  by_cases e10 : t2 = 10
  · subst e10
    rw [argV_10]
    unfold ErrV at g1 ⊢
    go_wp2_with fail
    go_quiet (fail)
    go_wp2
    exact bodyPost_ret (v := .tuple #[.int .i64 0, .int .i64 0, .iface 100 (.pointer (some (A 1)))]) (by simp [results, Tryd.results33]) rfl ⟨rfl, hbelow_drewN hb1 _⟩
  · rw [argV_e e0 e10]
    unfold ErrV at g2 ⊢
    have f0 : (t2 == 0) = false := beq_eq_false_iff_ne.2 e0
    have f10 : (t2 == 10) = false := beq_eq_false_iff_ne.2 e10
    go_wp2_with fail
    go_quiet (fail)
    go_wp2
    exact bodyPost_ret (v := .tuple #[.int .i64 0, .int .i64 0, .iface 100 (.pointer (some (A 2)))]) (by simp [results, Tryd.results33]) rfl ⟨by rw [argV_e e0 e10]; rfl, hbelow_drewN hb1 _⟩

set_option maxRecDepth 100000 in
set_option maxHeartbeats 1000000 in
theorem argument_25 (s : ByteArray) (a : Int) (w : World) (A : Nat → Addr) (aN aW aS : Addr) (h : HInv w A aN aW aS) (hs : s.size ≤ 9223372036854775807) :
    Calls Tryd.prog 33 #[.string s, .int .i64 a, .int .i64 25] w (Ret (argV (takeV s a 2) 2 A) w) := by
  have r0 := h.r0
  have r1 := h.r1
  have r2 := h.r2
  have r3 := h.r3
  have r4 := h.r4
  have r5 := h.r5
  have r6 := h.r6
  have r7 := h.r7
  have r8 := h.r8
  have r9 := h.r9
  have r10 := h.r10
  have r11 := h.r11
  have r12 := h.r12
  have r13 := h.r13
  have r14 := h.r14
  have i0 := roomsAt0
  have i1 := roomsAt1
  have i2 := roomsAt2
  have i3 := roomsAt3
  have i4 := roomsAt4
  have hT := fun w' h' => Take_any s a 2 w' aN aW aS h' hs (by omega) (by omega)
  generalize takeV s a 2 = t at hT ⊢
  obtain ⟨t1, t2⟩ := t
  go_enter Tryd.func33, Tryd.ntmps33
  go_wp2_with fail
  clear r0 r1 r2 r3 r4 r5 r6 r7 r8 r9 r10 r11 r12 r13 r14
  refine wp_loop_rounds 3 ?_
  rw [rounds_succ]
  go_wp2_with fail
  rw [rounds_succ]
  go_wp2_with fail
  rw [rounds_succ]
  go_wp2_with fail
  have hx0 : Blk ((((w.alloc (.cells #[.int .i64 0, .int .i64 24, .int .i64 0] 64)).alloc (.cells #[.int .i64 1, .int .i64 256, .int .i64 24] 64)).alloc (.cells #[.int .i64 2, .int .i64 65536, .int .i64 25] 64))) (w.heap.size + 2) 64 #[.int .i64 2, .int .i64 65536, .int .i64 25] := Blk.at_ (by simp)
  refine (hT _ (h.below (ext_alloc (ext_alloc (ext_new w _) _) _)).nums).mono ?_
  rintro e w1 ⟨rfl, hb1'⟩
  have hx := (hx0.below hb1').cell 0
  have hxl := (hx0.below hb1').lt
  have hb1 := ext_trans (ext_alloc (ext_alloc (ext_new w _) _) _) hb1'
  have g1 := (h.below hb1).c1
  have g2 := (h.below hb1).c2
  simp only [List.getElem?_toArray, List.getElem?_cons_zero] at hx
  clear hx0 hb1' hT i0 i1 i2 i3 i4
  by_cases e0 : t2 = 0
  · subst e0
    rw [argV_0]
    go_wp2_with fail
    go_quiet (fail)
    go_wp2
    exact bodyPost_ret (v := .tuple #[.int .i64 t1, .int .i64 2, .nilIface]) (by simp [results, Tryd.results33]) rfl ⟨rfl, hbelow_drewN hb1 _⟩
  by_cases e10 : t2 = 10
  · subst e10
    rw [argV_10]
    unfold ErrV at g1 ⊢
    go_wp2_with fail
    go_quiet (fail)
    go_wp2
    exact bodyPost_ret (v := .tuple #[.int .i64 0, .int .i64 0, .iface 100 (.pointer (some (A 1)))]) (by simp [results, Tryd.results33]) rfl ⟨rfl, hbelow_drewN hb1 _⟩
  · rw [argV_e e0 e10]
    unfold ErrV at g2 ⊢
    have f0 : (t2 == 0) = false := beq_eq_false_iff_ne.2 e0
    have f10 : (t2 == 10) = false := beq_eq_false_iff_ne.2 e10
    go_wp2_with fail
    go_quiet (fail)
    go_wp2
    exact bodyPost_ret (v := .tuple #[.int .i64 0, .int .i64 0, .iface 100 (.pointer (some (A 2)))]) (by simp [results, Tryd.results33]) rfl ⟨by rw [argV_e e0 e10]; rfl, hbelow_drewN hb1 _⟩

set_option maxRecDepth 100000 in
set_option maxHeartbeats 1000000 in
theorem argument_26 (s : ByteArray) (a : Int) (w : World) (A : Nat → Addr) (aN aW aS : Addr) (h : HInv w A aN aW aS) (hs : s.size ≤ 9223372036854775807) :
    Calls Tryd.prog 33 #[.string s, .int .i64 a, .int .i64 26] w (Ret (argV (takeV s a 4) 4 A) w) := by
  have r0 := h.r0
  have r1 := h.r1
  have r2 := h.r2
  have r3 := h.r3
  have r4 := h.r4
  have r5 := h.r5
  have r6 := h.r6
  have r7 := h.r7
  have r8 := h.r8
  have r9 := h.r9
  have r10 := h.r10
  have r11 := h.r11
  have r12 := h.r12
  have r13 := h.r13
  have r14 := h.r14
  have i0 := roomsAt0
  have i1 := roomsAt1
  have i2 := roomsAt2
  have i3 := roomsAt3
  have i4 := roomsAt4
  have hT := fun w' h' => Take_any s a 4 w' aN aW aS h' hs (by omega) (by omega)
  generalize takeV s a 4 = t at hT ⊢
  obtain ⟨t1, t2⟩ := t
  go_enter Tryd.func33, Tryd.ntmps33
  go_wp2_with fail
  clear r0 r1 r2 r3 r4 r5 r6 r7 r8 r9 r10 r11 r12 r13 r14
  refine wp_loop_rounds 4 ?_
  rw [rounds_succ]
  go_wp2_with fail
  rw [rounds_succ]
  go_wp2_with fail
  rw [rounds_succ]
  go_wp2_with fail
  rw [rounds_succ]
  go_wp2_with fail
  have hx0 : Blk (((((w.alloc (.cells #[.int .i64 0, .int .i64 24, .int .i64 0] 64)).alloc (.cells #[.int .i64 1, .int .i64 256, .int .i64 24] 64)).alloc (.cells #[.int .i64 2, .int .i64 65536, .int .i64 25] 64)).alloc (.cells #[.int .i64 4, .int .i64 4294967296, .int .i64 26] 64))) (w.heap.size + 3) 64 #[.int .i64 4, .int .i64 4294967296, .int .i64 26] := Blk.at_ (by simp)
  refine (hT _ (h.below (ext_alloc (ext_alloc (ext_alloc (ext_new w _) _) _) _)).nums).mono ?_
  rintro e w1 ⟨rfl, hb1'⟩
  have hx := (hx0.below hb1').cell 0
  have hxl := (hx0.below hb1').lt
  have hb1 := ext_trans (ext_alloc (ext_alloc (ext_alloc (ext_new w _) _) _) _) hb1'
  have g1 := (h.below hb1).c1
  have g2 := (h.below hb1).c2
  simp only [List.getElem?_toArray, List.getElem?_cons_zero] at hx
  clear hx0 hb1' hT i0 i1 i2 i3 i4
  by_cases e0 : t2 = 0
  · subst e0
    rw [argV_0]
    go_wp2_with fail
    go_quiet (fail)
    go_wp2
    exact bodyPost_ret (v := .tuple #[.int .i64 t1, .int .i64 4, .nilIface]) (by simp [results, Tryd.results33]) rfl ⟨rfl, hbelow_drewN hb1 _⟩
  by_cases e10 : t2 = 10
  · subst e10
    rw [argV_10]
    unfold ErrV at g1 ⊢
    go_wp2_with fail
    go_quiet (fail)
    go_wp2
    exact bodyPost_ret (v := .tuple #[.int .i64 0, .int .i64 0, .iface 100 (.pointer (some (A 1)))]) (by simp [results, Tryd.results33]) rfl ⟨rfl, hbelow_drewN hb1 _⟩
  · rw [argV_e e0 e10]
    unfold ErrV at g2 ⊢
    have f0 : (t2 == 0) = false := beq_eq_false_iff_ne.2 e0
    have f10 : (t2 == 10) = false := beq_eq_false_iff_ne.2 e10
    go_wp2_with fail
    go_quiet (fail)
    go_wp2
    exact bodyPost_ret (v := .tuple #[.int .i64 0, .int .i64 0, .iface 100 (.pointer (some (A 2)))]) (by simp [results, Tryd.results33]) rfl ⟨by rw [argV_e e0 e10]; rfl, hbelow_drewN hb1 _⟩

set_option maxRecDepth 100000 in
set_option maxHeartbeats 1000000 in
theorem argument_27 (s : ByteArray) (a : Int) (w : World) (A : Nat → Addr) (aN aW aS : Addr) (h : HInv w A aN aW aS) (hs : s.size ≤ 9223372036854775807) :
    Calls Tryd.prog 33 #[.string s, .int .i64 a, .int .i64 27] w (Ret (argV (takeV s a 8) 8 A) w) := by
  have r0 := h.r0
  have r1 := h.r1
  have r2 := h.r2
  have r3 := h.r3
  have r4 := h.r4
  have r5 := h.r5
  have r6 := h.r6
  have r7 := h.r7
  have r8 := h.r8
  have r9 := h.r9
  have r10 := h.r10
  have r11 := h.r11
  have r12 := h.r12
  have r13 := h.r13
  have r14 := h.r14
  have i0 := roomsAt0
  have i1 := roomsAt1
  have i2 := roomsAt2
  have i3 := roomsAt3
  have i4 := roomsAt4
  have hT := fun w' h' => Take_any s a 8 w' aN aW aS h' hs (by omega) (by omega)
  generalize takeV s a 8 = t at hT ⊢
  obtain ⟨t1, t2⟩ := t
  go_enter Tryd.func33, Tryd.ntmps33
  go_wp2_with fail
  clear r0 r1 r2 r3 r4 r5 r6 r7 r8 r9 r10 r11 r12 r13 r14
  refine wp_loop_rounds 5 ?_
  rw [rounds_succ]
  go_wp2_with fail
  rw [rounds_succ]
  go_wp2_with fail
  rw [rounds_succ]
  go_wp2_with fail
  rw [rounds_succ]
  go_wp2_with fail
  rw [rounds_succ]
  go_wp2_with fail
  have hx0 : Blk ((((((w.alloc (.cells #[.int .i64 0, .int .i64 24, .int .i64 0] 64)).alloc (.cells #[.int .i64 1, .int .i64 256, .int .i64 24] 64)).alloc (.cells #[.int .i64 2, .int .i64 65536, .int .i64 25] 64)).alloc (.cells #[.int .i64 4, .int .i64 4294967296, .int .i64 26] 64)).alloc (.cells #[.int .i64 8, .int .i64 281474976710656, .int .i64 27] 64))) (w.heap.size + 4) 64 #[.int .i64 8, .int .i64 281474976710656, .int .i64 27] := Blk.at_ (by simp)
  refine (hT _ (h.below (ext_alloc (ext_alloc (ext_alloc (ext_alloc (ext_new w _) _) _) _) _)).nums).mono ?_
  rintro e w1 ⟨rfl, hb1'⟩
  have hx := (hx0.below hb1').cell 0
  have hxl := (hx0.below hb1').lt
  have hb1 := ext_trans (ext_alloc (ext_alloc (ext_alloc (ext_alloc (ext_new w _) _) _) _) _) hb1'
  have g1 := (h.below hb1).c1
  have g2 := (h.below hb1).c2
  simp only [List.getElem?_toArray, List.getElem?_cons_zero] at hx
  clear hx0 hb1' hT i0 i1 i2 i3 i4
  by_cases e0 : t2 = 0
  · subst e0
    rw [argV_0]
    go_wp2_with fail
    go_quiet (fail)
    go_wp2
    exact bodyPost_ret (v := .tuple #[.int .i64 t1, .int .i64 8, .nilIface]) (by simp [results, Tryd.results33]) rfl ⟨rfl, hbelow_drewN hb1 _⟩
  by_cases e10 : t2 = 10
  · subst e10
    rw [argV_10]
    unfold ErrV at g1 ⊢
    go_wp2_with fail
    go_quiet (fail)
    go_wp2
    exact bodyPost_ret (v := .tuple #[.int .i64 0, .int .i64 0, .iface 100 (.pointer (some (A 1)))]) (by simp [results, Tryd.results33]) rfl ⟨rfl, hbelow_drewN hb1 _⟩
  · rw [argV_e e0 e10]
    unfold ErrV at g2 ⊢
    have f0 : (t2 == 0) = false := beq_eq_false_iff_ne.2 e0
    have f10 : (t2 == 10) = false := beq_eq_false_iff_ne.2 e10
    go_wp2_with fail
    go_quiet (fail)
    go_wp2
    exact bodyPost_ret (v := .tuple #[.int .i64 0, .int .i64 0, .iface 100 (.pointer (some (A 2)))]) (by simp [results, Tryd.results33]) rfl ⟨by rw [argV_e e0 e10]; rfl, hbelow_drewN hb1 _⟩

end Go.Proofs.YtfkekdpppcidbaaDoor
