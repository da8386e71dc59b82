/-
  Package head: a head's argument (argument). Conditions: the listed variables hold what 'HInv' says. Package head: the head of some bytes, where there is none (decoded). Conditions: the listed variables hold what 'HInv' says. Package head: the head of some bytes (decoded). Conditions: the listed variables hold what 'HInv' says. Package head: Decode over all inputs. Conditions: the listed variables hold what 'HInv' says.
-/
import Derived.Test.YtmoghgmbpkpcfaaGreatDoorMgJ
import Derived.Test.YtmoghgmbpkpcfaaGreatDoorMgB
namespace Go.Proofs.YtmoghgmbpkpcfaaGreatDoor
open Go.RowKit

/-- What argument tells, by what Take tells. -/
def argV (t : Int × Int) (wd : Int) (A : Nat → Addr) : Value := if t.2 = 0 then .tuple #[.int .i64 t.1, .int .i64 wd, .nilIface] else if t.2 = 10 then .tuple #[.int .i64 0, .int .i64 0, ErrV (A 1)] else .tuple #[.int .i64 0, .int .i64 0, ErrV (A 2)]
theorem hbelow_drewN {B : Nat} {a w : World} (h : Below B a w) (n : Nat) : Below B a (w.drewN n) := ⟨h.os, h.tape, h.output, h.size, h.block⟩
theorem argV_0 {x wd : Int} {A : Nat → Addr} : argV (x, 0) wd A = .tuple #[.int .i64 x, .int .i64 wd, .nilIface] := rfl
theorem argV_10 {x wd : Int} {A : Nat → Addr} : argV (x, 10) wd A = .tuple #[.int .i64 0, .int .i64 0, ErrV (A 1)] := rfl
theorem argV_e {x e wd : Int} {A : Nat → Addr} (h0 : e ≠ 0) (h1 : e ≠ 10) : argV (x, e) wd A = .tuple #[.int .i64 0, .int .i64 0, ErrV (A 2)] := by rw [argV, if_neg h0, if_neg h1]

set_option maxRecDepth 100000 in
set_option maxHeartbeats 1000000 in
theorem argument_low (s : ByteArray) (a r : Int) (w : World) (A : Nat → Addr) (aN aW aS : Addr) (h : HInv w A aN aW aS) (hr : r < 24) :
    Calls Tryz.prog 82 #[.string s, .int .i64 a, .int .i64 r] w (Ret (.tuple #[.int .i64 r, .int .i64 0, .nilIface]) w) := by
  have r0 := h.r0
  have r1 := h.r1
  have r2 := h.r2
  have r3 := h.r3
  have r4 := h.r4
  have r5 := h.r5
  have r6 := h.r6
  have r7 := h.r7
  have r8 := h.r8
  have r9 := h.r9
  have r10 := h.r10
  have r11 := h.r11
  have r12 := h.r12
  have r13 := h.r13
  have r14 := h.r14
  have i0 := roomsAt0
  have i1 := roomsAt1
  have i2 := roomsAt2
  have i3 := roomsAt3
  have i4 := roomsAt4
  go_enter Tryz.func82, Tryz.ntmps82
  go_wp2_with fail
  clear r0 r1 r2 r3 r4 r5 r6 r7 r8 r9 r10 r11 r12 r13 r14
  refine wp_loop_rounds 6 ?_
  rw [rounds_succ]
  go_wp2_with fail
  rw [rounds_succ]
  go_wp2_with fail
  rw [rounds_succ]
  go_wp2_with fail
  rw [rounds_succ]
  go_wp2_with fail
  rw [rounds_succ]
  go_wp2_with fail
  rw [rounds_succ]
  go_wp2_with fail
  refine bodyPost_ret (v := .tuple #[.int .i64 r, .int .i64 0, .nilIface]) (by simp [results, Tryz.results82]) rfl ⟨rfl, ?_⟩
  exact ext_alloc (ext_alloc (ext_alloc (ext_alloc (ext_new w _) _) _) _) _

set_option maxRecDepth 100000 in
set_option maxHeartbeats 1000000 in
theorem argument_24 (s : ByteArray) (a : Int) (w : World) (A : Nat → Addr) (aN aW aS : Addr) (h : HInv w A aN aW aS) (hs : s.size ≤ 9223372036854775807) :
    Calls Tryz.prog 82 #[.string s, .int .i64 a, .int .i64 24] w (Ret (argV (takeV s a 1) 1 A) w) := by
  have r0 := h.r0
  have r1 := h.r1
  have r2 := h.r2
  have r3 := h.r3
  have r4 := h.r4
  have r5 := h.r5
  have r6 := h.r6
  have r7 := h.r7
  have r8 := h.r8
  have r9 := h.r9
  have r10 := h.r10
  have r11 := h.r11
  have r12 := h.r12
  have r13 := h.r13
  have r14 := h.r14
  have i0 := roomsAt0
  have i1 := roomsAt1
  have i2 := roomsAt2
  have i3 := roomsAt3
  have i4 := roomsAt4
  have hT := fun w' h' => Take_any s a 1 w' aN aW aS h' hs (by omega) (by omega)
  generalize takeV s a 1 = t at hT ⊢
  obtain ⟨t1, t2⟩ := t
  go_enter Tryz.func82, Tryz.ntmps82
  go_wp2_with fail
  clear r0 r1 r2 r3 r4 r5 r6 r7 r8 r9 r10 r11 r12 r13 r14
  refine wp_loop_rounds 2 ?_
  rw [rounds_succ]
  go_wp2_with fail
  rw [rounds_succ]
  go_wp2_with fail
  have hx0 : Blk (((w.alloc (.cells #[.int .i64 0, .int .i64 24, .int .i64 0] 98)).alloc (.cells #[.int .i64 1, .int .i64 256, .int .i64 24] 98))) (w.heap.size + 1) 98 #[.int .i64 1, .int .i64 256, .int .i64 24] := Blk.at_ (by simp)
  refine (hT _ (h.below (ext_alloc (ext_new w _) _)).nums).mono ?_
  rintro e w1 ⟨rfl, hb1'⟩
  have hx := (hx0.below hb1').cell 0
  have hxl := (hx0.below hb1').lt
  have hb1 := ext_trans (ext_alloc (ext_new w _) _) hb1'
  have g1 := (h.below hb1).c1
  have g2 := (h.below hb1).c2
  simp only [List.getElem?_toArray, List.getElem?_cons_zero] at hx
  clear hx0 hb1' hT i0 i1 i2 i3 i4
  by_cases e0 : t2 = 0
  · subst e0
    rw [argV_0]
    go_wp2_with fail
    go_quiet (fail)
    go_wp2
    exact bodyPost_ret (v := .tuple #[.int .i64 t1, .int .i64 1, .nilIface]) (by simp [results, Tryz.results82]) rfl ⟨rfl, hbelow_drewN hb1 _⟩
  by_cases e10 : t2 = 10
  · subst e10
    rw [argV_10]
    unfold ErrV at g1 ⊢
    go_wp2_with fail
    go_quiet (fail)
    go_wp2
    exact bodyPost_ret (v := .tuple #[.int .i64 0, .int .i64 0, .iface 164 (.pointer (some (A 1)))]) (by simp [results, Tryz.results82]) rfl ⟨rfl, hbelow_drewN hb1 _⟩
  · rw [argV_e e0 e10]
    unfold ErrV at g2 ⊢
    have f0 : (t2 == 0) = false := beq_eq_false_iff_ne.2 e0
    have f10 : (t2 == 10) = false := beq_eq_false_iff_ne.2 e10
    go_wp2_with fail
    go_quiet (fail)
    go_wp2
    exact bodyPost_ret (v := .tuple #[.int .i64 0, .int .i64 0, .iface 164 (.pointer (some (A 2)))]) (by simp [results, Tryz.results82]) rfl ⟨by rw [argV_e e0 e10]; rfl, hbelow_drewN hb1 _⟩

set_option maxRecDepth 100000 in
set_option maxHeartbeats 1000000 in
theorem argument_25 (s : ByteArray) (a : Int) (w : World) (A : Nat → Addr) (aN aW aS : Addr) (h : HInv w A aN aW aS) (hs : s.size ≤ 9223372036854775807) :
    Calls Tryz.prog 82 #[.string s, .int .i64 a, .int .i64 25] w (Ret (argV (takeV s a 2) 2 A) w) := by
  have r0 := h.r0
  have r1 := h.r1
  have r2 := h.r2
  have r3 := h.r3
  have r4 := h.r4
  have r5 := h.r5
  have r6 := h.r6
  have r7 := h.r7
  have r8 := h.r8
  have r9 := h.r9
  have r10 := h.r10
  have r11 := h.r11
  have r12 := h.r12
  have r13 := h.r13
  have r14 := h.r14
  have i0 := roomsAt0
  have i1 := roomsAt1
  have i2 := roomsAt2
  have i3 := roomsAt3
  have i4 := roomsAt4
  have hT := fun w' h' => Take_any s a 2 w' aN aW aS h' hs (by omega) (by omega)
  generalize takeV s a 2 = t at hT ⊢
  obtain ⟨t1, t2⟩ := t
  go_enter Tryz.func82, Tryz.ntmps82
  go_wp2_with fail
  clear r0 r1 r2 r3 r4 r5 r6 r7 r8 r9 r10 r11 r12 r13 r14
  refine wp_loop_rounds 3 ?_
  rw [rounds_succ]
  go_wp2_with fail
  rw [rounds_succ]
  go_wp2_with fail
  rw [rounds_succ]
  go_wp2_with fail
  have hx0 : Blk ((((w.alloc (.cells #[.int .i64 0, .int .i64 24, .int .i64 0] 98)).alloc (.cells #[.int .i64 1, .int .i64 256, .int .i64 24] 98)).alloc (.cells #[.int .i64 2, .int .i64 65536, .int .i64 25] 98))) (w.heap.size + 2) 98 #[.int .i64 2, .int .i64 65536, .int .i64 25] := Blk.at_ (by simp)
  refine (hT _ (h.below (ext_alloc (ext_alloc (ext_new w _) _) _)).nums).mono ?_
  rintro e w1 ⟨rfl, hb1'⟩
  have hx := (hx0.below hb1').cell 0
  have hxl := (hx0.below hb1').lt
  have hb1 := ext_trans (ext_alloc (ext_alloc (ext_new w _) _) _) hb1'
  have g1 := (h.below hb1).c1
  have g2 := (h.below hb1).c2
  simp only [List.getElem?_toArray, List.getElem?_cons_zero] at hx
  clear hx0 hb1' hT i0 i1 i2 i3 i4
  by_cases e0 : t2 = 0
  · subst e0
    rw [argV_0]
    go_wp2_with fail
    go_quiet (fail)
    go_wp2
    exact bodyPost_ret (v := .tuple #[.int .i64 t1, .int .i64 2, .nilIface]) (by simp [results, Tryz.results82]) rfl ⟨rfl, hbelow_drewN hb1 _⟩
  by_cases e10 : t2 = 10
  · subst e10
    rw [argV_10]
    unfold ErrV at g1 ⊢
    go_wp2_with fail
    go_quiet (fail)
    go_wp2
    exact bodyPost_ret (v := .tuple #[.int .i64 0, .int .i64 0, .iface 164 (.pointer (some (A 1)))]) (by simp [results, Tryz.results82]) rfl ⟨rfl, hbelow_drewN hb1 _⟩
  · rw [argV_e e0 e10]
    unfold ErrV at g2 ⊢
    have f0 : (t2 == 0) = false := beq_eq_false_iff_ne.2 e0
    have f10 : (t2 == 10) = false := beq_eq_false_iff_ne.2 e10
    go_wp2_with fail
    go_quiet (fail)
    go_wp2
    exact bodyPost_ret (v := .tuple #[.int .i64 0, .int .i64 0, .iface 164 (.pointer (some (A 2)))]) (by simp [results, Tryz.results82]) rfl ⟨by rw [argV_e e0 e10]; rfl, hbelow_drewN hb1 _⟩

set_option maxRecDepth 100000 in
set_option maxHeartbeats 1000000 in
theorem argument_26 (s : ByteArray) (a : Int) (w : World) (A : Nat → Addr) (aN aW aS : Addr) (h : HInv w A aN aW aS) (hs : s.size ≤ 9223372036854775807) :
    Calls Tryz.prog 82 #[.string s, .int .i64 a, .int .i64 26] w (Ret (argV (takeV s a 4) 4 A) w) := by
  have r0 := h.r0
  have r1 := h.r1
  have r2 := h.r2
  have r3 := h.r3
  have r4 := h.r4
  have r5 := h.r5
  have r6 := h.r6
  have r7 := h.r7
  have r8 := h.r8
  have r9 := h.r9
  have r10 := h.r10
  have r11 := h.r11
  have r12 := h.r12
  have r13 := h.r13
  have r14 := h.r14
  have i0 := roomsAt0
  have i1 := roomsAt1
  have i2 := roomsAt2
  have i3 := roomsAt3
  have i4 := roomsAt4
  have hT := fun w' h' => Take_any s a 4 w' aN aW aS h' hs (by omega) (by omega)
  generalize takeV s a 4 = t at hT ⊢
  obtain ⟨t1, t2⟩ := t
  go_enter Tryz.func82, Tryz.ntmps82
  go_wp2_with fail
  clear r0 r1 r2 r3 r4 r5 r6 r7 r8 r9 r10 r11 r12 r13 r14
  refine wp_loop_rounds 4 ?_
  rw [rounds_succ]
  go_wp2_with fail
  rw [rounds_succ]
  go_wp2_with fail
  rw [rounds_succ]
  go_wp2_with fail
  rw [rounds_succ]
  go_wp2_with fail
  have hx0 : Blk (((((w.alloc (.cells #[.int .i64 0, .int .i64 24, .int .i64 0] 98)).alloc (.cells #[.int .i64 1, .int .i64 256, .int .i64 24] 98)).alloc (.cells #[.int .i64 2, .int .i64 65536, .int .i64 25] 98)).alloc (.cells #[.int .i64 4, .int .i64 4294967296, .int .i64 26] 98))) (w.heap.size + 3) 98 #[.int .i64 4, .int .i64 4294967296, .int .i64 26] := Blk.at_ (by simp)
  refine (hT _ (h.below (ext_alloc (ext_alloc (ext_alloc (ext_new w _) _) _) _)).nums).mono ?_
  rintro e w1 ⟨rfl, hb1'⟩
  have hx := (hx0.below hb1').cell 0
  have hxl := (hx0.below hb1').lt
  have hb1 := ext_trans (ext_alloc (ext_alloc (ext_alloc (ext_new w _) _) _) _) hb1'
  have g1 := (h.below hb1).c1
  have g2 := (h.below hb1).c2
  simp only [List.getElem?_toArray, List.getElem?_cons_zero] at hx
  clear hx0 hb1' hT i0 i1 i2 i3 i4
  by_cases e0 : t2 = 0
  · subst e0
    rw [argV_0]
    go_wp2_with fail
    go_quiet (fail)
    go_wp2
    exact bodyPost_ret (v := .tuple #[.int .i64 t1, .int .i64 4, .nilIface]) (by simp [results, Tryz.results82]) rfl ⟨rfl, hbelow_drewN hb1 _⟩
  by_cases e10 : t2 = 10
  · subst e10
    rw [argV_10]
    unfold ErrV at g1 ⊢
    go_wp2_with fail
    go_quiet (fail)
    go_wp2
    exact bodyPost_ret (v := .tuple #[.int .i64 0, .int .i64 0, .iface 164 (.pointer (some (A 1)))]) (by simp [results, Tryz.results82]) rfl ⟨rfl, hbelow_drewN hb1 _⟩
  · rw [argV_e e0 e10]
    unfold ErrV at g2 ⊢
    have f0 : (t2 == 0) = false := beq_eq_false_iff_ne.2 e0
    have f10 : (t2 == 10) = false := beq_eq_false_iff_ne.2 e10
    go_wp2_with fail
    go_quiet (fail)
    go_wp2
    exact bodyPost_ret (v := .tuple #[.int .i64 0, .int .i64 0, .iface 164 (.pointer (some (A 2)))]) (by simp [results, Tryz.results82]) rfl ⟨by rw [argV_e e0 e10]; rfl, hbelow_drewN hb1 _⟩

set_option maxRecDepth 100000 in
set_option maxHeartbeats 1000000 in
theorem argument_27 (s : ByteArray) (a : Int) (w : World) (A : Nat → Addr) (aN aW aS : Addr) (h : HInv w A aN aW aS) (hs : s.size ≤ 9223372036854775807) :
    Calls Tryz.prog 82 #[.string s, .int .i64 a, .int .i64 27] w (Ret (argV (takeV s a 8) 8 A) w) := by
  have r0 := h.r0
  have r1 := h.r1
  have r2 := h.r2
  have r3 := h.r3
  have r4 := h.r4
  have r5 := h.r5
  have r6 := h.r6
  have r7 := h.r7
  have r8 := h.r8
  have r9 := h.r9
  have r10 := h.r10
  have r11 := h.r11
  have r12 := h.r12
  have r13 := h.r13
  have r14 := h.r14
  have i0 := roomsAt0
  have i1 := roomsAt1
  have i2 := roomsAt2
  have i3 := roomsAt3
  have i4 := roomsAt4
  have hT := fun w' h' => Take_any s a 8 w' aN aW aS h' hs (by omega) (by omega)
  generalize takeV s a 8 = t at hT ⊢
  obtain ⟨t1, t2⟩ := t
  go_enter Tryz.func82, Tryz.ntmps82
  go_wp2_with fail
  clear r0 r1 r2 r3 r4 r5 r6 r7 r8 r9 r10 r11 r12 r13 r14
  refine wp_loop_rounds 5 ?_
  rw [rounds_succ]
  go_wp2_with fail
  rw [rounds_succ]
  go_wp2_with fail
  rw [rounds_succ]
  go_wp2_with fail
  rw [rounds_succ]
  go_wp2_with fail
  rw [rounds_succ]
  go_wp2_with fail
  have hx0 : Blk ((((((w.alloc (.cells #[.int .i64 0, .int .i64 24, .int .i64 0] 98)).alloc (.cells #[.int .i64 1, .int .i64 256, .int .i64 24] 98)).alloc (.cells #[.int .i64 2, .int .i64 65536, .int .i64 25] 98)).alloc (.cells #[.int .i64 4, .int .i64 4294967296, .int .i64 26] 98)).alloc (.cells #[.int .i64 8, .int .i64 281474976710656, .int .i64 27] 98))) (w.heap.size + 4) 98 #[.int .i64 8, .int .i64 281474976710656, .int .i64 27] := Blk.at_ (by simp)
  refine (hT _ (h.below (ext_alloc (ext_alloc (ext_alloc (ext_alloc (ext_new w _) _) _) _) _)).nums).mono ?_
  rintro e w1 ⟨rfl, hb1'⟩
  have hx := (hx0.below hb1').cell 0
  have hxl := (hx0.below hb1').lt
  have hb1 := ext_trans (ext_alloc (ext_alloc (ext_alloc (ext_alloc (ext_new w _) _) _) _) _) hb1'
  have g1 := (h.below hb1).c1
  have g2 := (h.below hb1).c2
  simp only [List.getElem?_toArray, List.getElem?_cons_zero] at hx
  clear hx0 hb1' hT i0 i1 i2 i3 i4
  by_cases e0 : t2 = 0
  · subst e0
    rw [argV_0]
    go_wp2_with fail
    go_quiet (fail)
    go_wp2
    exact bodyPost_ret (v := .tuple #[.int .i64 t1, .int .i64 8, .nilIface]) (by simp [results, Tryz.results82]) rfl ⟨rfl, hbelow_drewN hb1 _⟩
  by_cases e10 : t2 = 10
  · subst e10
    rw [argV_10]
    unfold ErrV at g1 ⊢
    go_wp2_with fail
    go_quiet (fail)
    go_wp2
    exact bodyPost_ret (v := .tuple #[.int .i64 0, .int .i64 0, .iface 164 (.pointer (some (A 1)))]) (by simp [results, Tryz.results82]) rfl ⟨rfl, hbelow_drewN hb1 _⟩
  · rw [argV_e e0 e10]
    unfold ErrV at g2 ⊢
    have f0 : (t2 == 0) = false := beq_eq_false_iff_ne.2 e0
    have f10 : (t2 == 10) = false := beq_eq_false_iff_ne.2 e10
    go_wp2_with fail
    go_quiet (fail)
    go_wp2
    exact bodyPost_ret (v := .tuple #[.int .i64 0, .int .i64 0, .iface 164 (.pointer (some (A 2)))]) (by simp [results, Tryz.results82]) rfl ⟨by rw [argV_e e0 e10]; rfl, hbelow_drewN hb1 _⟩

end Go.Proofs.YtmoghgmbpkpcfaaGreatDoor

namespace Go.Proofs.YtmoghgmbpkpcfaaGreatDoor
open Go.RowKit

/-- A byte in two, in the walk's spellings. -/
structure Split (x : UInt8) (M R : Nat) : Prop where
  hi : wrap64 ((x.toNat : Int) / 32) = (M : Int)
  lo : bits .and .u8 (x.toNat : Int) 31 = (R : Int)
  lo' : wrap64 (R : Int) = (R : Int)
  m : M = x.toNat / 32
  r : R = x.toNat % 32
theorem split_of (x : UInt8) : Split x (x.toNat / 32) (x.toNat % 32) := by
  have hx := x.toNat_lt
  have h5 := u8_and_nat x.toNat 31 hx (by omega)
  have h6 : x.toNat &&& 31 = x.toNat % 32 := Nat.and_two_pow_sub_one_eq_mod x.toNat 5
  rw [h6] at h5
  refine ⟨?_, h5, ?_, rfl, rfl⟩
  · unfold wrap64; omega
  · unfold wrap64; omega

set_option maxRecDepth 100000 in
theorem decoded_out (s : ByteArray) (a : Int) (w : World) (A : Nat → Addr) (aN aW aS : Addr) (h : HInv w A aN aW aS) (hs : s.size ≤ 9223372036854775807) (ha : a < 0 ∨ (s.size : Int) ≤ a) :
    Calls Tryz.prog 76 #[.string s, .int .i64 a] w (Ret (.agg #[.int .i64 0, .int .i64 0, .int .i64 0, ErrV (A 2)]) w) := by
  have g2 := (h.below (ext_new w (.cells #[.int .i64 0, .int .i64 0, .int .i64 0, .nilIface] 139))).c2
  unfold ErrV at g2 ⊢
  have hF : Blk (w.alloc (.cells #[.int .i64 0, .int .i64 0, .int .i64 0, .iface 164 (.pointer (some (A 2)))] 139)) w.heap.size 139 #[.int .i64 0, .int .i64 0, .int .i64 0, .iface 164 (.pointer (some (A 2)))] := Blk.new_ _ _ _
  have hb := ext_new w (.cells #[.int .i64 0, .int .i64 0, .int .i64 0, .iface 164 (.pointer (some (A 2)))] 139)
  have F0 := hF.cell 0
  have F1 := hF.cell 1
  have F2 := hF.cell 2
  have F3 := hF.cell 3
  simp only [List.getElem?_toArray, List.getElem?_cons_zero, List.getElem?_cons_succ] at F0 F1 F2 F3
  clear hF
  by_cases h0 : a < 0
  · go_enter Tryz.func76, Tryz.ntmps76
    go_wp2_with fail
    generalize (w.alloc (.cells #[.int .i64 0, .int .i64 0, .int .i64 0, .iface 164 (.pointer (some (A 2)))] 139)) = WF at *
    exact bodyPost_ret (v := .agg #[.int .i64 0, .int .i64 0, .int .i64 0, .iface 164 (.pointer (some (A 2)))]) (by simp [results, Tryz.results76, go_sem, F0, F1, F2, F3]) rfl ⟨rfl, hb⟩
  · have h1 : (s.size : Int) ≤ a := by omega
    clear ha
    go_enter Tryz.func76, Tryz.ntmps76
    go_wp2_with fail
    generalize (w.alloc (.cells #[.int .i64 0, .int .i64 0, .int .i64 0, .iface 164 (.pointer (some (A 2)))] 139)) = WF at *
    exact bodyPost_ret (v := .agg #[.int .i64 0, .int .i64 0, .int .i64 0, .iface 164 (.pointer (some (A 2)))]) (by simp [results, Tryz.results76, go_sem, F0, F1, F2, F3]) rfl ⟨rfl, hb⟩

set_option maxRecDepth 100000 in
theorem decoded_form (s : ByteArray) (p M R : Nat) (w : World) (A : Nat → Addr) (aN aW aS : Addr) (h : HInv w A aN aW aS) (hs : s.size ≤ 9223372036854775807) (hp : p < s.size) (hM : Split s[p] M R) (hf : majB (M : Int) = false ∨ (majB (M : Int) = true ∧ 27 < R)) :
    Calls Tryz.prog 76 #[.string s, .int .i64 (p : Int)] w (Ret (.agg #[.int .i64 0, .int .i64 0, .int .i64 0, ErrV (A 3)]) w) := by
  have HF := Lib.hid hf
  clear hf
  obtain ⟨k1, k2, k3, k4, k5⟩ := hM
  have hR : R < 32 := by omega
  clear k4 k5
  have i3 : (0 : Int) ≤ (p : Int) := by omega
  have i4 : (p : Int) < (s.size : Int) := by omega
  go_enter Tryz.func76, Tryz.ntmps76
  go_wp2_with fail
  go_quiet (fail)
  have hW0 := hbelow_drewN (ext_new w (.cells #[.int .i64 0, .int .i64 0, .int .i64 0, .nilIface] 139)) nq
  have hB0 : Blk ((w.alloc (.cells #[.int .i64 0, .int .i64 0, .int .i64 0, .nilIface] 139)).drewN nq) w.heap.size 139 #[.int .i64 0, .int .i64 0, .int .i64 0, .nilIface] := Blk.new_ w _ _
  generalize (w.alloc (.cells #[.int .i64 0, .int .i64 0, .int .i64 0, .nilIface] 139)).drewN nq = W at *
  go_wp2_with fail
  refine (isMajor_any (M : Int) _).mono ?_
  rintro e w1 ⟨rfl, hb1⟩
  have g3 := (h.below (ext_trans hW0 hb1)).c3
  have hB := hB0.below hb1
  have hbw := ext_trans hW0 hb1
  clear hW0 hb1 hB0
  unfold ErrV at g3 ⊢
  have f0 := hB.frozen 0
  have f1 := hB.frozen 1
  have f2 := hB.frozen 2
  have f3 := hB.frozen 3
  have c0 := hB.cell 0
  have c1 := hB.cell 1
  have c2 := hB.cell 2
  have c3 := hB.cell 3
  have hl := hB.lt
  simp only [List.getElem?_toArray, List.getElem?_cons_zero, List.getElem?_cons_succ] at c0 c1 c2 c3
  have hFB := (((hB.set_ 0 (.int .i64 0)).set_ 1 (.int .i64 0)).set_ 2 (.int .i64 0)).set_ 3 (.iface 164 (.pointer (some (A 3))))
  have hFW := (((hbw.setCell (by simp) (p := ⟨w.heap.size, 0, none⟩) (.int .i64 0)).setCell (by simp) (p := ⟨w.heap.size, 1, none⟩) (.int .i64 0)).setCell (by simp) (p := ⟨w.heap.size, 2, none⟩) (.int .i64 0)).setCell (by simp) (p := ⟨w.heap.size, 3, none⟩) (.iface 164 (.pointer (some (A 3))))
  rcases HF.out with hm | ⟨hm, hr⟩
  · rw [hm]
    go_wp2_with fail
    generalize (((w1.setCell ⟨w.heap.size, 0, none⟩ (.int .i64 0)).setCell ⟨w.heap.size, 1, none⟩ (.int .i64 0)).setCell ⟨w.heap.size, 2, none⟩ (.int .i64 0)).setCell ⟨w.heap.size, 3, none⟩ (.iface 164 (.pointer (some (A 3)))) = WF at *
    have F0 := hFB.cell 0
    have F1 := hFB.cell 1
    have F2 := hFB.cell 2
    have F3 := hFB.cell 3
    simp only [List.setIfInBounds_toArray, List.set_cons_succ, List.set_cons_zero, List.getElem?_toArray, List.getElem?_cons_zero, List.getElem?_cons_succ] at F0 F1 F2 F3
    exact bodyPost_ret (v := .agg #[.int .i64 0, .int .i64 0, .int .i64 0, .iface 164 (.pointer (some (A 3)))]) (by simp [results, Tryz.results76, go_sem, F0, F1, F2, F3]) rfl ⟨rfl, hFW⟩
  · rw [hm]
    have hr' : (27 : Int) < (R : Int) := by omega
    go_wp2_with fail
    generalize (((w1.setCell ⟨w.heap.size, 0, none⟩ (.int .i64 0)).setCell ⟨w.heap.size, 1, none⟩ (.int .i64 0)).setCell ⟨w.heap.size, 2, none⟩ (.int .i64 0)).setCell ⟨w.heap.size, 3, none⟩ (.iface 164 (.pointer (some (A 3)))) = WF at *
    have F0 := hFB.cell 0
    have F1 := hFB.cell 1
    have F2 := hFB.cell 2
    have F3 := hFB.cell 3
    simp only [List.setIfInBounds_toArray, List.set_cons_succ, List.set_cons_zero, List.getElem?_toArray, List.getElem?_cons_zero, List.getElem?_cons_succ] at F0 F1 F2 F3
    exact bodyPost_ret (v := .agg #[.int .i64 0, .int .i64 0, .int .i64 0, .iface 164 (.pointer (some (A 3)))]) (by simp [results, Tryz.results76, go_sem, F0, F1, F2, F3]) rfl ⟨rfl, hFW⟩

end Go.Proofs.YtmoghgmbpkpcfaaGreatDoor

namespace Go.Proofs.YtmoghgmbpkpcfaaGreatDoor
open Go.RowKit
attribute [local go_sem] Oper.semAt_some

set_option maxRecDepth 100000 in
theorem decoded_err (s : ByteArray) (p M R : Nat) (w : World) (A : Nat → Addr) (aN aW aS : Addr) (h : HInv w A aN aW aS) (hs : s.size ≤ 9223372036854775807) (hp : p < s.size) (hM : Split s[p] M R) (b : Addr) (hf : majB (M : Int) = true) (hr : R ≤ 27)
    (hA : ∀ w', HInv w' A aN aW aS → Calls Tryz.prog 82 #[.string s, .int .i64 ((p : Int) + 1), .int .i64 (R : Int)] w' (Ret (.tuple #[.int .i64 0, .int .i64 0, ErrV b]) w')) :
    Calls Tryz.prog 76 #[.string s, .int .i64 (p : Int)] w (Ret (.agg #[.int .i64 0, .int .i64 0, .int .i64 0, ErrV b]) w) := by
  have HF := Lib.hid hf
  clear hf
  obtain ⟨k1, k2, k3, k4, k5⟩ := hM
  have hR : R < 32 := by omega
  clear k4 k5
  have i5 : (R : Int) ≤ 27 := by omega
  have i3 : (0 : Int) ≤ (p : Int) := by omega
  have i4 : (p : Int) < (s.size : Int) := by omega
  unfold ErrV at hA ⊢
  go_enter Tryz.func76, Tryz.ntmps76
  go_wp2_with fail
  go_quiet (fail)
  have hW0 := hbelow_drewN (ext_new w (.cells #[.int .i64 0, .int .i64 0, .int .i64 0, .nilIface] 139)) nq
  have hB0 : Blk ((w.alloc (.cells #[.int .i64 0, .int .i64 0, .int .i64 0, .nilIface] 139)).drewN nq) w.heap.size 139 #[.int .i64 0, .int .i64 0, .int .i64 0, .nilIface] := Blk.new_ w _ _
  generalize (w.alloc (.cells #[.int .i64 0, .int .i64 0, .int .i64 0, .nilIface] 139)).drewN nq = W at *
  go_wp2_with fail
  refine (isMajor_any (M : Int) _).mono ?_
  rintro e w1 ⟨rfl, hb1⟩
  rw [HF.out]
  have hbm := ext_trans hW0 hb1
  have hBm := hB0.below hb1
  clear hW0 hb1 hB0
  go_wp2_with fail
  refine (hA _ (h.below hbm)).mono ?_
  rintro e w2 ⟨rfl, hb2⟩
  have hB := (hBm.below hb2).alloc (.cells #[.int .i64 0] 3)
  have hbw := ext_alloc (ext_trans hbm hb2) (.cells #[.int .i64 0] 3)
  clear hbm hb2 hBm hA
  have f0 := hB.frozen 0
  have f1 := hB.frozen 1
  have f2 := hB.frozen 2
  have f3 := hB.frozen 3
  have c0 := hB.cell 0
  have c1 := hB.cell 1
  have c2 := hB.cell 2
  have c3 := hB.cell 3
  have hl := hB.lt
  simp only [List.getElem?_toArray, List.getElem?_cons_zero, List.getElem?_cons_succ] at c0 c1 c2 c3
  have hFB := (((hB.set_ 0 (.int .i64 0)).set_ 1 (.int .i64 0)).set_ 2 (.int .i64 0)).set_ 3 (.iface 164 (.pointer (some b)))
  have hFW := (((hbw.setCell (by simp) (p := ⟨w.heap.size, 0, none⟩) (.int .i64 0)).setCell (by simp) (p := ⟨w.heap.size, 1, none⟩) (.int .i64 0)).setCell (by simp) (p := ⟨w.heap.size, 2, none⟩) (.int .i64 0)).setCell (by simp) (p := ⟨w.heap.size, 3, none⟩) (.iface 164 (.pointer (some b)))
  go_wp2_with fail
  generalize (((((w2.alloc (.cells #[.int .i64 0] 3)).setCell ⟨w.heap.size, 0, none⟩ (.int .i64 0)).setCell ⟨w.heap.size, 1, none⟩ (.int .i64 0)).setCell ⟨w.heap.size, 2, none⟩ (.int .i64 0)).setCell ⟨w.heap.size, 3, none⟩ (.iface 164 (.pointer (some b)))) = WF at *
  have F0 := hFB.cell 0
  have F1 := hFB.cell 1
  have F2 := hFB.cell 2
  have F3 := hFB.cell 3
  simp only [List.setIfInBounds_toArray, List.set_cons_succ, List.set_cons_zero, List.getElem?_toArray, List.getElem?_cons_zero, List.getElem?_cons_succ] at F0 F1 F2 F3
  exact bodyPost_ret (v := .agg #[.int .i64 0, .int .i64 0, .int .i64 0, .iface 164 (.pointer (some b))]) (by simp [results, Tryz.results76, go_sem, F0, F1, F2, F3]) rfl ⟨rfl, hFW⟩

set_option maxRecDepth 100000 in
theorem decoded_fit (s : ByteArray) (p M R : Nat) (w : World) (A : Nat → Addr) (aN aW aS : Addr) (h : HInv w A aN aW aS) (hs : s.size ≤ 9223372036854775807) (hp : p < s.size) (hM : Split s[p] M R) (n wd : Nat) (hn : n ≤ 281474976710655) (hwd : wd ≤ 8) (hp2 : p + 1 + wd ≤ s.size) (hf : majB (M : Int) = true) (hr : R ≤ 27)
    (hA : ∀ w', HInv w' A aN aW aS → Calls Tryz.prog 82 #[.string s, .int .i64 ((p : Int) + 1), .int .i64 (R : Int)] w' (Ret (.tuple #[.int .i64 (n : Int), .int .i64 (wd : Int), .nilIface]) w')) :
    Calls Tryz.prog 76 #[.string s, .int .i64 (p : Int)] w (Ret (if wOf n = wd then .agg #[.int .i64 (M : Int), .int .i64 (n : Int), .int .i64 ((p : Int) + 1 + (wd : Int)), .nilIface] else .agg #[.int .i64 0, .int .i64 0, .int .i64 0, ErrV (A 3)]) w) := by
  have HF := Lib.hid hf
  clear hf
  obtain ⟨k1, k2, k3, k4, k5⟩ := hM
  have hR : R < 32 := by omega
  clear k4 k5
  have i5 : (R : Int) ≤ 27 := by omega
  have i3 : (0 : Int) ≤ (p : Int) := by omega
  have i4 : (p : Int) < (s.size : Int) := by omega
  generalize hG : (if wOf n = wd then Value.agg #[.int .i64 (M : Int), .int .i64 (n : Int), .int .i64 ((p : Int) + 1 + (wd : Int)), .nilIface] else .agg #[.int .i64 0, .int .i64 0, .int .i64 0, ErrV (A 3)]) = G
  have HG := Lib.hid hG
  clear hG
  refine callsIn_wide.1 (callsIn_of_wp_marks (n := 5) Tryz.func76 rfl trivial ?_ rfl)
  simp only [Tryz.ntmps76, List.size_toArray, List.length_cons, List.length_nil, Nat.reduceAdd, Nat.reduceSub, Array.replicate_succ, Array.replicate_zero, List.push_toArray, List.append_toArray, List.nil_append, List.cons_append]
  refine wpIn_wide.2 ?_
  go_wp2_with fail
  go_quiet (fail)
  have hW0 := hbelow_drewN (ext_new w (.cells #[.int .i64 0, .int .i64 0, .int .i64 0, .nilIface] 139)) nq
  have hB0 : Blk ((w.alloc (.cells #[.int .i64 0, .int .i64 0, .int .i64 0, .nilIface] 139)).drewN nq) w.heap.size 139 #[.int .i64 0, .int .i64 0, .int .i64 0, .nilIface] := Blk.new_ w _ _
  generalize (w.alloc (.cells #[.int .i64 0, .int .i64 0, .int .i64 0, .nilIface] 139)).drewN nq = W at *
  go_wp2_with fail
  refine (isMajor_any (M : Int) _).mono ?_
  rintro e w1 ⟨rfl, hb1⟩
  rw [HF.out]
  have hbm := ext_trans hW0 hb1
  have hBm := hB0.below hb1
  clear hW0 hb1 hB0
  go_wp2_with fail
  refine (hA _ (h.below hbm)).mono ?_
  rintro e w2 ⟨rfl, hb2⟩
  go_wp2_with fail
  refine (fits_any (n : Int) _).mono ?_
  rintro e w3 ⟨rfl, rfl⟩
  go_wp2_with fail
  obtain ⟨d, hd⟩ : ∃ d, w.heap.size = d := ⟨_, rfl⟩
  obtain ⟨e, he⟩ : ∃ e, w2.heap.size = e := ⟨_, rfl⟩
  have hB := (hBm.below hb2).alloc (.cells #[.int .i64 (wd : Int)] 3)
  have hbw := ext_alloc (ext_trans hbm hb2) (.cells #[.int .i64 (wd : Int)] 3)
  have hde := (hBm.below hb2).lt
  rw [hd] at hB hbw hde ⊢
  rw [he] at hde ⊢
  clear hbm hb2 hBm hA
  have q1 : Blk (w2.alloc (.cells #[.int .i64 (wd : Int)] 3)) e 3 #[.int .i64 (wd : Int)] := Blk.at_ he.symm
  generalize hW0 : (w2.alloc (.cells #[.int .i64 (wd : Int)] 3)).alloc (.cells #[.int .i64 (n : Int)] 3) = W0
  have hW0s : W0.heap.size = e + 2 := by rw [← hW0]; simp [he]
  have p1 : Blk W0 e 3 #[.int .i64 (wd : Int)] := by rw [← hW0]; exact q1.alloc _
  have p2 : Blk W0 d 139 #[.int .i64 0, .int .i64 0, .int .i64 0, .nilIface] := by rw [← hW0]; exact hB.alloc _
  have p4 : Boxed W0 (e + 1) 3 (.int .i64 (n : Int)) := by rw [← hW0]; exact boxed_at (by simp [he])
  have p7 : Below d w W0 := by rw [← hW0]; exact hbw.alloc (by simp; omega) _
  clear hW0 q1 hB hbw
  have hKB : ∀ {W W' : World} {g : Nat} {t : TypeId} {cs : Array Value} {row : Option Nat}, Blk W g t cs → W.grownBy W' row → (∀ r, row = some r → r ≠ g) → Blk W' g t cs := fun {W W' g t cs row} hb hgr hr => by
    have := hb.lt
    exact hb.kept (hgr.block g this (fun e => hr g e.symm rfl))
  have g3 : ∀ W, Below d w W → W.cell? ⟨3, 0, none⟩ = some (ErrV (A 3)) := fun W hb => (h.below (hd ▸ hb)).c3
  unfold ErrV at g3
  refine wpIn_wide.1 (wpIn_rangeN (n := 5) (gf := 69) (lb := #[.pointer (some ⟨e + 1, 0, none⟩)]) rfl (by omega) rfl trivial (enters_of Tryz.func69 (by kernel_rfl) rfl)
    (fits_seq n (by omega) (e + 1) _) (fun _ => rfl) ?hSt (fun h k => k.trans h) ?hKb ?hMb
    (fun pre W => pre = [] ∧ Below d w W ∧ Blk W e 3 #[.int .i64 (wd : Int)] ∧ Blk W d 139 #[.int .i64 0, .int .i64 0, .int .i64 0, .nilIface] ∧ e + 1 < W.heap.size)
    (fun c _ W => Below d w W ∧ ((c = .ret ∧ wOf n ≠ wd ∧ Blk W d 139 #[.int .i64 0, .int .i64 0, .int .i64 0, .iface 164 (.pointer (some (A 3)))]) ∨ (c = .exit 0 ∧ wOf n = wd ∧ Blk W d 139 #[.int .i64 0, .int .i64 0, .int .i64 0, .nilIface] ∧ Blk W e 3 #[.int .i64 (wd : Int)]))) ?hI ?hIx ?hIM ?hIxM ⟨rfl, p7, p1, p2, by omega⟩ ?hround ?hdone ?hstop)
  case hSt => intro o o'; exact ⟨(p4.alloc _).alloc _, ((h.below (hd ▸ p7)).rooms.alloc _).alloc _⟩
  case hKb =>
    intro W l o o' hl _ _
    exact World.putObj_heap_other (by omega)
  case hMb =>
    rintro A B ⟨o, rfl⟩ l o' hl ho _
    exact (Below.heap_alloc _ _ _ (Array.getElem?_eq_some_iff.1 ho).1).trans ho
  case hI =>
    rintro pre A B row ⟨a1, a2, a3, a4, a6⟩ hgr hr
    have hd1 := p2.lt
    have hne : ∀ g, g < W0.heap.size → ∀ r, row = some r → r ≠ g := fun g hg r er => by have := (hr r er).1; omega
    exact ⟨a1, a2.grown hgr (by have := a2.size; omega) (fun r e => by have := (hr r e).1; omega), hKB a3 hgr (hne _ (by omega)), hKB a4 hgr (hne _ hd1), by have := hgr.size; omega⟩
  case hIx =>
    rintro c pre A B row ⟨a2, a4⟩ hgr hr
    have hd1 := p2.lt
    have hne : ∀ g, g < W0.heap.size → ∀ r, row = some r → r ≠ g := fun g hg r er => by have := (hr r er).1; omega
    refine ⟨a2.grown hgr (by have := a2.size; omega) (fun r e => by have := (hr r e).1; omega), ?_⟩
    rcases a4 with ⟨z1, z2, z3⟩ | ⟨z1, z2, z3, z4⟩
    · exact .inl ⟨z1, z2, hKB z3 hgr (hne _ hd1)⟩
    · exact .inr ⟨z1, z2, hKB z3 hgr (hne _ hd1), hKB z4 hgr (hne _ (by omega))⟩
  case hIM =>
    rintro pre A B ⟨a1, a2, a3, a4, a6⟩ ⟨o, rfl⟩
    exact ⟨a1, a2.alloc (Nat.le_trans (by omega) (Nat.le_of_lt a6)) _, a3.alloc _, a4.alloc _, by simp; omega⟩
  case hIxM =>
    rintro c pre A B ⟨a2, a4⟩ ⟨o, rfl⟩
    rcases a4 with ⟨z1, z2, z3⟩ | ⟨z1, z2, z3, z4⟩
    · exact ⟨a2.alloc (Nat.le_trans (by omega) (Nat.le_of_lt z3.lt)) _, .inl ⟨z1, z2, z3.alloc _⟩⟩
    · exact ⟨a2.alloc (Nat.le_trans (by omega) (Nat.le_of_lt z3.lt)) _, .inr ⟨z1, z2, z3.alloc _, z4.alloc _⟩⟩
  case hround =>
    rintro l pre x W ⟨rfl, a2, a3, a4, a6⟩ ⟨hx5, hxn, hxp⟩ hlW
    have hff := (first_fit hn hx5 hxn hxp.symm).1
    have FF := Lib.hid hff
    clear hff hxn hxp
    unfold roomV
    gi_wp2
    have hd1 := p2.lt
    refine ⟨KeepsFrom.of_grownBy (World.grownBy_alloc W _ none) (fun j hj => by cases hj), Below.heap_alloc _ _ _ (by omega), ⟨trivial, a2.alloc (Nat.le_trans (by omega) (Nat.le_of_lt a6)) _, a3.alloc _, a4.alloc _, by simp; omega⟩, ?_⟩
    rintro Wb ⟨-, b2, b3, b4, b6⟩ hWb
    have bx : Blk Wb W.heap.size 98 #[.int .i64 (roomW x : Int), .int .i64 (roomM x : Int), .int .i64 (roomX x : Int)] := (hWb _ (by omega)).trans (World.alloc_heap_new W _)
    clear hWb
    have x0 := bx.cell 0
    have n0 := b3.cell 0
    have z0 := b4.frozen 0
    have z1 := b4.frozen 1
    have z2 := b4.frozen 2
    have z3 := b4.frozen 3
    have y0 := b4.cell 0
    have y1 := b4.cell 1
    have y2 := b4.cell 2
    have y3 := b4.cell 3
    have g3' := g3 Wb b2
    simp only [List.getElem?_toArray, List.getElem?_cons_zero, List.getElem?_cons_succ] at x0 n0 y0 y1 y2 y3
    rw [FF.out] at x0
    have e1 := bx.lt
    have e2 := b3.lt
    have e4 := b4.lt
    by_cases hq : wOf n = wd
    · have hq1 : ((wOf n : Int) == (wd : Int)) = true := by rw [hq]; simp
      have hq2 : (wOf n : Int) = (wd : Int) := by omega
      have HQ := Lib.hid hq
      rw [hq2] at x0
      clear hq hq1 hq2
      gi_wp2
      exact ⟨KeepsFrom.refl _ _, b2, .inr ⟨rfl, HQ.out, b4, b3⟩⟩
    · have hq2 : ¬ ((wOf n : Int) = (wd : Int)) := by omega
      have HQ := Lib.hid hq
      clear hq
      generalize wOf n = q at *
      gi_wp2
      exact ⟨((((KeepsOthers.setCell _ _ _).from _).trans ((KeepsOthers.setCell _ _ _).from _)).trans ((KeepsOthers.setCell _ _ _).from _)).trans ((KeepsOthers.setCell _ _ _).from _),
        (((b2.setCell (by simp) _).setCell (by simp) _).setCell (by simp) _).setCell (by simp) _, .inl ⟨rfl, HQ.out, (((b4.set_ 0 _).set_ 1 _).set_ 2 _).set_ 3 _⟩⟩
  case hdone =>
    rintro xs W hxs ⟨rfl, _⟩ hD
    exact absurd hxs.symm (fitsL_five hn)
  case hstop =>
    rintro c pre W _ ⟨a2, a4⟩ hD
    rw [hW0s] at hD ⊢
    rcases a4 with ⟨rfl, z2, z3⟩ | ⟨rfl, z2, z3, z4⟩
    · have HQ := Lib.hid z2
      clear z2
      have a5 : Blk (W.putObj (e + 2) (.deferred none)) d 139 #[.int .i64 0, .int .i64 0, .int .i64 0, .iface 164 (.pointer (some (A 3)))] := z3.kept (World.putObj_heap_other (by omega))
      have c0 := a5.cell 0
      have c1 := a5.cell 1
      have c2 := a5.cell 2
      have c3 := a5.cell 3
      simp only [List.getElem?_toArray, List.getElem?_cons_zero, List.getElem?_cons_succ] at c0 c1 c2 c3
      gi_wp2
      refine ⟨by simp, .inl ⟨_, _, rfl, run_takeDeferred hD, ?_⟩⟩
      refine ⟨.agg #[.int .i64 0, .int .i64 0, .int .i64 0, .iface 164 (.pointer (some (A 3)))], (by simp [results, Tryz.results76, go_sem, c0, c1, c2, c3]), by rw [← HG.out, if_neg HQ.out]; rfl, ?_⟩
      rw [hd]
      exact a2.grown (grownBy_putObj' W (e + 2) _) (by have := a2.size; omega) (fun k e => by cases e; omega)
    · have HQ := Lib.hid z2
      clear z2
      have f0 := z3.frozen 0
      have f1 := z3.frozen 1
      have f2 := z3.frozen 2
      have f3 := z3.frozen 3
      have c0 := z3.cell 0
      have c1 := z3.cell 1
      have c2 := z3.cell 2
      have c3 := z3.cell 3
      have c4 := z4.cell 0
      have l3 := z3.lt
      simp only [List.getElem?_toArray, List.getElem?_cons_zero, List.getElem?_cons_succ] at c0 c1 c2 c3 c4
      gi_wp2
      have u1 : IntKind.i64.wrap ((p : Int) + 1) = (p : Int) + 1 := IntWalk.i64_in _ (by omega)
      have u2 : IntKind.i64.wrap ((p : Int) + 1 + (wd : Int)) = (p : Int) + 1 + (wd : Int) := IntWalk.i64_in _ (by omega)
      go_wp2_with fail
      have hFB := (((z3.set_ 0 (.int .i64 (M : Int))).set_ 1 (.int .i64 (n : Int))).set_ 2 (.int .i64 ((p : Int) + 1 + (wd : Int)))).set_ 3 .nilIface
      have hFW := (((a2.setCell (p := ⟨d, 0, none⟩) (by simp) (.int .i64 (M : Int))).setCell (p := ⟨d, 1, none⟩) (by simp) (.int .i64 (n : Int))).setCell (p := ⟨d, 2, none⟩) (by simp) (.int .i64 ((p : Int) + 1 + (wd : Int)))).setCell (p := ⟨d, 3, none⟩) (by simp) .nilIface
      have hFD : ((((W.setCell ⟨d, 0, none⟩ (.int .i64 (M : Int))).setCell ⟨d, 1, none⟩ (.int .i64 (n : Int))).setCell ⟨d, 2, none⟩ (.int .i64 ((p : Int) + 1 + (wd : Int)))).setCell ⟨d, 3, none⟩ .nilIface).heap[e + 2]? = some (.deferred (some [])) := by
        rw [Below.heap_setCell _ _ _ _ (by simp; omega), Below.heap_setCell _ _ _ _ (by simp; omega), Below.heap_setCell _ _ _ _ (by simp; omega), Below.heap_setCell _ _ _ _ (by simp; omega)]
        exact hD
      generalize (((W.setCell ⟨d, 0, none⟩ (.int .i64 (M : Int))).setCell ⟨d, 1, none⟩ (.int .i64 (n : Int))).setCell ⟨d, 2, none⟩ (.int .i64 ((p : Int) + 1 + (wd : Int)))).setCell ⟨d, 3, none⟩ .nilIface = WF at *
      have a5 := hFB.kept (World.putObj_heap_other (by omega) : (WF.putObj (e + 2) (.deferred none)).heap[d]? = WF.heap[d]?)
      have F0 := a5.cell 0
      have F1 := a5.cell 1
      have F2 := a5.cell 2
      have F3 := a5.cell 3
      simp only [List.setIfInBounds_toArray, List.set_cons_succ, List.set_cons_zero, List.getElem?_toArray, List.getElem?_cons_zero, List.getElem?_cons_succ] at F0 F1 F2 F3
      refine ⟨by simp, .inl ⟨_, _, rfl, run_takeDeferred hFD, ?_⟩⟩
      refine ⟨.agg #[.int .i64 (M : Int), .int .i64 (n : Int), .int .i64 ((p : Int) + 1 + (wd : Int)), .nilIface], (by simp [results, Tryz.results76, go_sem, F0, F1, F2, F3]), by rw [← HG.out, if_pos HQ.out], ?_⟩
      rw [hd]
      exact hFW.grown (grownBy_putObj' WF (e + 2) _) (by have := hFW.size; omega) (fun k e => by cases e; omega)

end Go.Proofs.YtmoghgmbpkpcfaaGreatDoor

namespace Go.Proofs.YtmoghgmbpkpcfaaGreatDoor
open Go.RowKit

/-- What Decode tells. -/
def decV (s : ByteArray) (a : Int) : (Int × Int × Int) × Int :=
  if a < 0 ∨ (s.size : Int) ≤ a then ((0, 0, 0), 11) else
    match decL (s.data.toList.drop a.toNat) with
    | .bad e => ((0, 0, 0), e)
    | .ok m n w => (((m : Int), (n : Int), a + 1 + (w : Int)), 0)
/-- As Decode's results. -/
def decR (t : (Int × Int × Int) × Int) : Value := .tuple #[.int .i64 t.1.1, .int .i64 t.1.2.1, .int .i64 t.1.2.2, .int .i64 t.2]

set_option maxRecDepth 100000 in
theorem Decode_bad (s : ByteArray) (a : Int) (V : Value) (e : Int) (w : World) (A : Nat → Addr) (aN aW aS : Addr) (h : HInv w A aN aW aS)
    (hD : ∀ w', HInv w' A aN aW aS → Calls Tryz.prog 76 #[.string s, .int .i64 a] w' (Ret (.agg #[.int .i64 0, .int .i64 0, .int .i64 0, V]) w'))
    (hE : ∀ w', HInv w' A aN aW aS → Calls Tryz.prog 75 #[.agg #[.int .i64 0, .int .i64 0, .int .i64 0, V]] w' (Ret (.tuple #[.agg #[.int .i64 0, .int .i64 0, .int .i64 0], .int .i64 e]) w')) :
    Calls Tryz.prog 57 #[.string s, .int .i64 a] w (Ret (decR ((0, 0, 0), e)) w) := by
  unfold decR
  go_enter Tryz.func57, Tryz.ntmps57
  go_wp2_with fail
  refine (hD _ h).mono ?_
  rintro e w1 ⟨rfl, hb1⟩
  go_wp2_with fail
  refine (hE _ (h.below hb1)).mono ?_
  rintro e w2 ⟨rfl, hb2⟩
  go_wp2_with fail
  refine bodyPost_ret (v := .tuple #[.int .i64 0, .int .i64 0, .int .i64 0, .int .i64 _]) (by simp [results, Tryz.results57]) rfl ⟨rfl, ext_alloc (ext_trans hb1 hb2) _⟩

set_option maxRecDepth 100000 in
theorem Decode_good (s : ByteArray) (a m n x : Int) (hx : x ≠ 0) (w : World) (A : Nat → Addr) (aN aW aS : Addr) (h : HInv w A aN aW aS)
    (hD : ∀ w', HInv w' A aN aW aS → Calls Tryz.prog 76 #[.string s, .int .i64 a] w' (Ret (.agg #[.int .i64 m, .int .i64 n, .int .i64 x, .nilIface]) w')) :
    Calls Tryz.prog 57 #[.string s, .int .i64 a] w (Ret (decR ((m, n, x), 0)) w) := by
  have hE := fun w' h' => heitherH_nil m n x w' A aN aW aS h'
  have hx0 : (x == 0) = false := beq_eq_false_iff_ne.2 hx
  unfold decR
  go_enter Tryz.func57, Tryz.ntmps57
  go_wp2_with fail
  refine (hD _ h).mono ?_
  rintro e w1 ⟨rfl, hb1⟩
  go_wp2_with fail
  refine (hE _ (h.below hb1)).mono ?_
  rintro e w2 ⟨rfl, hb2⟩
  go_wp2_with fail
  go_quiet (fail)
  go_wp2_with fail
  refine bodyPost_ret (v := .tuple #[.int .i64 m, .int .i64 n, .int .i64 x, .int .i64 0]) (by simp [results, Tryz.results57]) rfl ⟨rfl, hbelow_drewN (ext_alloc (ext_trans hb1 hb2) _) _⟩

theorem majB_nat (k : Nat) : majB (k : Int) = okMajor k := by
  rw [Bool.eq_iff_iff, majB_iff, okMajor_iff]; omega
theorem list_at (s : ByteArray) (p : Nat) (hp : p < s.size) : s.data.toList.drop p = s[p] :: s.data.toList.drop (p + 1) := by
  rw [List.drop_eq_getElem_cons (by simpa using hp)]; rfl
theorem list_size (s : ByteArray) : s.data.toList.length = s.size := by rw [Array.length_toList]; rfl

/-- Behind a first byte that asks for more bytes. -/
theorem Decode_more (s : ByteArray) (p M R wd : Nat) (w : World) (A : Nat → Addr) (aN aW aS : Addr) (h : HInv w A aN aW aS) (hs : s.size ≤ 9223372036854775807) (hp : p < s.size) (hM : Split s[p] M R)
    (hf : okMajor M = true) (hR : R ≤ 27) (hR2 : ¬ R < 24) (hw : wRest R = wd) (h1 : 1 ≤ wd) (h8 : wd ≤ 8)
    (hA : ∀ w', HInv w' A aN aW aS → Calls Tryz.prog 82 #[.string s, .int .i64 ((p : Int) + 1), .int .i64 (R : Int)] w' (Ret (argV (takeV s ((p : Int) + 1) (wd : Int)) (wd : Int) A) w')) :
    Calls Tryz.prog 57 #[.string s, .int .i64 (p : Int)] w (Ret (decR (decV s (p : Int))) w) := by
  have hf' : majB (M : Int) = true := (majB_nat M).trans hf
  have hls := list_size s
  rw [decV, if_neg (by omega), Int.toNat_natCast, list_at s p hp, decL, ← hM.m, ← hM.r, if_neg (by simp [hf, hR]), if_neg hR2, hw]
  have hkw : okWidth (wd : Int) = true := okWidth_iff.2 ⟨by omega, by omega⟩
  by_cases c : (s.data.toList.drop (p + 1)).length < wd
  · rw [if_pos c]
    rw [List.length_drop] at c
    have ht : takeV s ((p : Int) + 1) (wd : Int) = (0, 11) := takeV_short hkw (by
      rcases bool_cases (okWithin s.size ((p : Int) + 1) (wd : Int)) with k | k
      · exact k
      · have := okWithin_iff.1 k; omega)
    rw [ht] at hA
    exact Decode_bad s p (ErrV (A 2)) 11 w A aN aW aS h (fun w' h' => decoded_err s p M R w' A aN aW aS h' hs hp hM (A 2) hf' hR (fun w' h' => hA w' h')) (fun w' h' => heitherH_2 0 0 0 w' A aN aW aS h')
  · rw [if_neg c]
    rw [List.length_drop] at c
    have hkk : okWithin s.size ((p : Int) + 1) (wd : Int) = true := okWithin_iff.2 ⟨by omega, by omega, by omega, by omega⟩
    have ht := takeV_ok hkw hkk
    rw [show ((p : Int) + 1).toNat = p + 1 by omega, Int.toNat_natCast] at ht
    by_cases c2 : 281474976710655 < val ((s.data.toList.drop (p + 1)).take wd)
    · rw [if_pos c2]
      rw [takeN, takeE, if_neg (by omega), if_neg (by omega)] at ht
      rw [ht] at hA
      exact Decode_bad s p (ErrV (A 1)) 10 w A aN aW aS h (fun w' h' => decoded_err s p M R w' A aN aW aS h' hs hp hM (A 1) hf' hR (fun w' h' => hA w' h')) (fun w' h' => heitherH_1 0 0 0 w' A aN aW aS h')
    · rw [if_neg c2]
      rw [takeN, takeE, if_pos (by omega), if_pos (by omega)] at ht
      rw [ht] at hA
      have hfit := fun w' h' => decoded_fit s p M R w' A aN aW aS h' hs hp hM (val ((s.data.toList.drop (p + 1)).take wd)) wd (by omega) h8 (by omega) hf' hR (fun w' h' => hA w' h')
      by_cases c3 : wOf (val ((s.data.toList.drop (p + 1)).take wd)) = wd
      · rw [if_neg (by simp [c3])]
        rw [if_pos c3] at hfit
        exact Decode_good s p _ _ _ (by omega) w A aN aW aS h hfit
      · rw [if_pos c3]
        rw [if_neg c3] at hfit
        exact Decode_bad s p (ErrV (A 3)) 20 w A aN aW aS h hfit (fun w' h' => heitherH_3 0 0 0 w' A aN aW aS h')

theorem Decode_any (s : ByteArray) (a : Int) (w : World) (A : Nat → Addr) (aN aW aS : Addr) (h : HInv w A aN aW aS) (hs : s.size ≤ 9223372036854775807) :
    Calls Tryz.prog 57 #[.string s, .int .i64 a] w (Ret (decR (decV s a)) w) := by
  by_cases ho : a < 0 ∨ (s.size : Int) ≤ a
  · rw [decV, if_pos ho]
    exact Decode_bad s a (ErrV (A 2)) 11 w A aN aW aS h (fun w' h' => decoded_out s a w' A aN aW aS h' hs ho) (fun w' h' => heitherH_2 0 0 0 w' A aN aW aS h')
  obtain ⟨p, rfl⟩ := Int.eq_ofNat_of_zero_le (show 0 ≤ a by omega)
  have hp : p < s.size := by omega
  obtain ⟨M, R, hM⟩ : ∃ M R, Split s[p] M R := ⟨_, _, split_of s[p]⟩
  have hls := list_size s
  by_cases c1 : okMajor M = true ∧ R ≤ 27
  · obtain ⟨k1, k2⟩ := c1
    by_cases c2 : R < 24
    · rw [decV, if_neg (by omega), Int.toNat_natCast, list_at s p hp, decL, ← hM.m, ← hM.r, if_neg (by simp [k1, k2]), if_pos c2]
      have hfit := fun w' h' => decoded_fit s p M R w' A aN aW aS h' hs hp hM R 0 (by omega) (by omega) (by omega) ((majB_nat M).trans k1) k2 (fun w' h' => argument_low s ((p : Int) + 1) (R : Int) w' A aN aW aS h' (by omega))
      rw [if_pos (by simp [wOf, c2])] at hfit
      exact Decode_good s p _ _ _ (by omega) w A aN aW aS h hfit
    · obtain h24 | h25 | h26 | h27 : R = 24 ∨ R = 25 ∨ R = 26 ∨ R = 27 := by omega
      · subst h24; exact Decode_more s p M 24 1 w A aN aW aS h hs hp hM k1 k2 c2 rfl (by omega) (by omega) (fun w' h' => argument_24 s _ w' A aN aW aS h' hs)
      · subst h25; exact Decode_more s p M 25 2 w A aN aW aS h hs hp hM k1 k2 c2 rfl (by omega) (by omega) (fun w' h' => argument_25 s _ w' A aN aW aS h' hs)
      · subst h26; exact Decode_more s p M 26 4 w A aN aW aS h hs hp hM k1 k2 c2 rfl (by omega) (by omega) (fun w' h' => argument_26 s _ w' A aN aW aS h' hs)
      · subst h27; exact Decode_more s p M 27 8 w A aN aW aS h hs hp hM k1 k2 c2 rfl (by omega) (by omega) (fun w' h' => argument_27 s _ w' A aN aW aS h' hs)
  · rw [decV, if_neg ho, Int.toNat_natCast, list_at s p hp, decL, ← hM.m, ← hM.r, if_pos (by
      rw [Bool.not_eq_true', Bool.and_eq_false_iff]
      by_cases k : okMajor M = true
      · exact .inr (decide_eq_false (fun hk => c1 ⟨k, hk⟩))
      · exact .inl (by simpa using k))]
    refine Decode_bad s p (ErrV (A 3)) 20 w A aN aW aS h (fun w' h' => decoded_form s p M R w' A aN aW aS h' hs hp hM ?_) (fun w' h' => heitherH_3 0 0 0 w' A aN aW aS h')
    rw [majB_nat]
    by_cases k : okMajor M = true
    · exact .inr ⟨k, Nat.lt_of_not_le (fun hk => c1 ⟨k, hk⟩)⟩
    · exact .inl (by simpa using k)

end Go.Proofs.YtmoghgmbpkpcfaaGreatDoor
