/-
  Package crc: what its variables hold ('CInv'), either's and Size's contracts, and more of the kind. Conditions: as the theorems' own hypotheses say.
-/
import Derived.Test.YtmebjdbkngehiaaGreatDoorQgE
import Derived.Test.YtmebjdbkngehiaaGreatDoorQgC
import Derived.Laws.BitsAllLaws
import Derived.Test.YtmebjdbkngehiaaGreatDoorQgB
import Derived.Test.YtmebjdbkngehiaaGreatDoorQgA
import Derived.LoopTactic
namespace Go.Proofs.YtmebjdbkngehiaaGreatDoor
open Go.RowKit
set_option maxHeartbeats 1000000
variable {w w' : World} {a b : Int}
structure CInv (w : World) (aA aT aN aW aS : Addr) : Prop where
 cA : w.cell? ⟨4, 0, none⟩ = some (ErrV aA)
 cT : w.cell? ⟨5, 0, none⟩ = some (ErrV aT)
 k0 : w.cell? ⟨6, 0, none⟩ = some (.int .i64 0)
 k1 : w.cell? ⟨6, 1, none⟩ = some (.int .i64 0)
 k2 : w.cell? ⟨6, 2, none⟩ = some (.int .i64 1)
 k3 : w.cell? ⟨6, 3, none⟩ = some (.int .i64 2)
 k4 : w.cell? ⟨6, 4, none⟩ = some (.int .i64 2)
 k5 : w.cell? ⟨6, 5, none⟩ = some (.int .i64 4)
 pA : Plain w aA
 pT : Plain w aT
 nAT : aA ≠ aT
 nums : NInv w aN aW aS
theorem CInv.below {aA aT aN aW aS : Addr} (h : CInv w aA aT aN aW aS) (hb : Below w.heap.size w w') : CInv w' aA aT aN aW aS :=
 ⟨cell_later hb h.cA, cell_later hb h.cT, cell_later hb h.k0, cell_later hb h.k1, cell_later hb h.k2, cell_later hb h.k3, cell_later hb h.k4, cell_later hb h.k5, h.pA.below hb, h.pT.below hb, h.nAT, h.nums.below hb⟩
theorem ceitherS_nil (v : ByteArray) (w : World) (aA aT aN aW aS : Addr) (h : CInv w aA aT aN aW aS) :
  Calls Tryz.prog 161 #[.string v, .nilIface] w (Pure (.tuple #[.string v, .int .i64 0]) w) := by
 have hA := h.cA
 have hT := h.cT
 go_enter Tryz.func161, Tryz.ntmps161
 go_wp2_with fail
 refine (is_nil aA _).mono ?_
 rintro e w' ⟨rfl, rfl⟩
 go_wp2_with fail
 refine (is_nil aT _).mono ?_
 rintro e w' ⟨rfl, rfl⟩
 go_wp2_with fail
 go_ret2
 exact ⟨rfl, rfl⟩
theorem kindsAt0 (w : World) : (Instr.index 278 (.agg #[.int .i64 0, .int .i64 0, .int .i64 1, .int .i64 2, .int .i64 2, .int .i64 4]) (.int .i64 0)).run Tryz.prog w = .ok (.agg #[.int .i64 0, .int .i64 0]) w := by kernel_rfl
theorem kindsAt1 (w : World) : (Instr.index 278 (.agg #[.int .i64 0, .int .i64 0, .int .i64 1, .int .i64 2, .int .i64 2, .int .i64 4]) (.int .i64 1)).run Tryz.prog w = .ok (.agg #[.int .i64 1, .int .i64 2]) w := by kernel_rfl
theorem kindsAt2 (w : World) : (Instr.index 278 (.agg #[.int .i64 0, .int .i64 0, .int .i64 1, .int .i64 2, .int .i64 2, .int .i64 4]) (.int .i64 2)).run Tryz.prog w = .ok (.agg #[.int .i64 2, .int .i64 4]) w := by kernel_rfl
set_option maxRecDepth 100000 in
theorem Size_1 (w : World) (aA aT aN aW aS : Addr) (h : CInv w aA aT aN aW aS) : Calls Tryz.prog 163 #[.int .i64 1] w (Ret (.int .i64 2) w) := by
 obtain ⟨_, _, k0, k1, k2, k3, k4, k5, _, _, _, _⟩ := h
 have hz := cell_lt k0
 have i0 := kindsAt0
 have i1 := kindsAt1
 have i2 := kindsAt2
 go_enter Tryz.func163, Tryz.ntmps163
 go_wp2
 refine wp_loop_rounds 2 ?_
 rw [rounds_succ]
 go_wp2
 rw [rounds_succ]
 go_wp2
 go_ret
 exact ⟨rfl, by repeat first | exact Below.refl _ _ | exact ext_new _ _ | refine ext_alloc ?_ _⟩
set_option maxRecDepth 100000 in
theorem Size_2 (w : World) (aA aT aN aW aS : Addr) (h : CInv w aA aT aN aW aS) : Calls Tryz.prog 163 #[.int .i64 2] w (Ret (.int .i64 4) w) := by
 obtain ⟨_, _, k0, k1, k2, k3, k4, k5, _, _, _, _⟩ := h
 have hz := cell_lt k0
 have i0 := kindsAt0
 have i1 := kindsAt1
 have i2 := kindsAt2
 go_enter Tryz.func163, Tryz.ntmps163
 go_wp2
 refine wp_loop_rounds 3 ?_
 rw [rounds_succ]
 go_wp2
 rw [rounds_succ]
 go_wp2
 rw [rounds_succ]
 go_wp2
 go_ret
 exact ⟨rfl, by repeat first | exact Below.refl _ _ | exact ext_new _ _ | refine ext_alloc ?_ _⟩
attribute [local go_sem] Oper.semAt_some
theorem and1_u16 (r : Nat) (h : r < 65536) : bits .and .u16 (r : Int) 1 = ((r % 2 : Nat) : Int) := by
 have := u16_and_nat r 1 h (by omega)
 rw [nat_mask1] at this
 exact this
theorem and1_u32 (r : Nat) (h : r < 4294967296) : bits .and .u32 (r : Int) 1 = ((r % 2 : Nat) : Int) := by
 have := u32_and_nat r 1 h (by omega)
 rw [nat_mask1] at this
 exact this
def odd16 (put i r : Nat) : Int := if stepsN put i r % 2 = 1 then 1 else 0
theorem bits16_any (a : Addr) (n : Int) (w : World) :
  Calls Tryz.prog 188 #[.pointer (some a), .int .i64 n] w fun e w' =>
   e = .returned (.func (.func 191) #[] #[.pointer (some ⟨w.heap.size + 1, 0, none⟩), .pointer (some ⟨w.heap.size, 0, none⟩)]) ∧
   (w.alloc (.cells #[.pointer (some a)] 286)).alloc (.cells #[.int .i64 n] 3) = w' := by
 go_enter Tryz.func188, Tryz.ntmps188
 go_wp2
 go_ret
 exact ⟨rfl, rfl⟩
theorem bits16_seq (r0 put n : Nat) (hr : r0 < 65536) (hp : put < 65536) (hn : n ≤ 8) (Bn Bx R m : Nat) :
  SeqW Fence.wide m Tryz.prog 191 #[.pointer (some ⟨Bn, 0, none⟩), .pointer (some ⟨Bx, 0, none⟩)] (fun i : Nat => #[.int .u16 (odd16 put i r0)])
   (fun A B => B.heap[R]? = A.heap[R]? ∧ B.heap[Bx]? = A.heap[Bx]?) (fun A B => B = A.drew ∨ ∃ v, B = A.setCell ⟨R, 0, none⟩ v) (fun pre i => i = pre.length ∧ i < n)
   (fun xs W => xs.length = n ∧ Blk W R 288 #[.int .u16 ((stepsN put n r0 : Nat) : Int), .int .u16 (put : Int)]) (fun _ => True)
   (fun W => Boxed W Bn 3 (.int .i64 (n : Int)) ∧ Boxed W Bx 286 (.pointer (some ⟨R, 0, none⟩)) ∧ Blk W R 288 #[.int .u16 (r0 : Int), .int .u16 (put : Int)] ∧ R ≠ Bx ∧ R ≠ Bn) := by
 rintro l J Jx W ⟨hbn, hbx, hbr, hRx, hRn⟩ hJ hJx hY h0
 have cn := hbn.cell
 clear hbn
 refine callsIn_of_wp Tryz.func191 rfl trivial ?_ rfl
 simp only [Tryz.ntmps191, List.size_toArray, List.length_cons, List.length_nil, Nat.reduceAdd, Nat.reduceSub, Array.replicate_succ, Array.replicate_zero, List.push_toArray, List.append_toArray, List.nil_append, List.cons_append]
 refine wpIn_scope (wpIn_seq (wpIn_label ?_))
 gi_wp2
 gi_loopw [6] (fun i wr => ∃ k : Nat, k ≤ n ∧ i = .int .i64 (k : Int) ∧ J (List.range k) wr ∧ Blk wr R 288 #[.int .u16 ((stepsN put k r0 : Nat) : Int), .int .u16 (put : Int)] ∧ Boxed wr Bx 286 (.pointer (some ⟨R, 0, none⟩))) (fun i _ => n - (intOf i).toNat)
 case atStart => exact ⟨0, Nat.zero_le _, rfl, h0, hbr, hbx⟩
 case round =>
  obtain ⟨k, hk, rfl, hJk, hbk, hxk⟩ := hrel
  have cx := hxk.cell
  have cr := hbk.cell 0
  have cp := hbk.cell 1
  have fr := hbk.frozen 0
  simp only [List.getElem?_toArray, List.getElem?_cons_zero, List.getElem?_cons_succ] at cr cp
  by_cases hlt : k < n
  ·have hq : stepsN put k r0 < 65536 := stepsN_lt (w := 16) k hp hr
   have hy0 := fun A hA => hY (List.range k) k A hA ⟨by simp, hlt⟩
   have hstep : stepsN put (k + 1) r0 = stepN put (stepsN put k r0) := rfl
   unfold odd16 at hy0
   dsimp only at hy0
   generalize stepsN put k r0 = q at hy0 hbk cr hq hstep
   rcases Nat.mod_two_eq_zero_or_one q with hq2 | hq2
   ·have hand : bits .and .u16 (q : Int) 1 = 0 := by rw [and1_u16 q hq, hq2]; rfl
    have hne : ¬ q % 2 = 1 := by omega
    have hbZ := hbk.set_ 0 (.int .u16 ((q : Int) / 2))
    have hxZ : Boxed (wr.setCell ⟨R, 0, none⟩ (.int .u16 ((q : Int) / 2))) Bx 286 (.pointer (some ⟨R, 0, none⟩)) := (Below.heap_setCell _ _ _ _ (Ne.symm hRx)).trans hxk
    have hy := hy0 _ (hJ _ _ _ hJk (.inr ⟨.int .u16 ((q : Int) / 2), rfl⟩))
    rw [if_neg hne] at hy
    have HS := Lib.hid (show stepsN put (k + 1) r0 = q / 2 by rw [hstep, stepN, if_neg hne])
    obtain ⟨fnn, tmps, assign, body, hy, hR⟩ := hy
    clear hy0 hstep hne hq2
    gi_wp2
    refine ⟨fun hd => (by cases hd), hR.mono ?_⟩
    rintro e W3 (⟨rfl, hJ3, hk3, hk4⟩ | ⟨rfl, hJx3⟩)
    ·have hb3 : Blk W3 R 288 #[.int .u16 ((stepsN put (k + 1) r0 : Nat) : Int), .int .u16 (put : Int)] := by
      rw [HS.out]
      exact Blk.kept hbZ hk3
     have hx3 := boxed_kept' hxZ hk4
     gi_wp2
     go_roundw
     case rel =>
      refine ⟨k + 1, by omega, by go_num, ?_, hb3, hx3⟩
      rw [List.range_succ]
      exact hJ3
     case measure => simp [intOf]; omega
    ·gi_wp2
     simp only [Exit.noGoto]
     go_end0
     exact ⟨⟨_, rfl⟩, .inr ⟨_, trivial, hJx3⟩⟩
   ·have hand : bits .and .u16 (q : Int) 1 = 1 := by rw [and1_u16 q hq, hq2]; rfl
    have hxor : bits .xor .u16 ((q : Int) / 2) (put : Int) = ((q / 2 ^^^ put : Nat) : Int) := u16_xor_nat (q / 2) put (by omega) hp
    have hb1 := hbk.set_ 0 (.int .u16 ((q : Int) / 2))
    have hbZ := hb1.set_ 0 (.int .u16 ((q / 2 ^^^ put : Nat) : Int))
    have hx1 : Boxed (wr.setCell ⟨R, 0, none⟩ (.int .u16 ((q : Int) / 2))) Bx 286 (.pointer (some ⟨R, 0, none⟩)) := (Below.heap_setCell _ _ _ _ (Ne.symm hRx)).trans hxk
    have hxZ : Boxed (((wr.setCell ⟨R, 0, none⟩ (.int .u16 ((q : Int) / 2))).setCell ⟨R, 0, none⟩ (.int .u16 ((q / 2 ^^^ put : Nat) : Int))).drew) Bx 286 (.pointer (some ⟨R, 0, none⟩)) := (Below.heap_setCell _ _ _ _ (Ne.symm hRx)).trans hx1
    have hy := hy0 _ (hJ _ _ _ (hJ _ _ _ (hJ _ _ _ hJk (.inr ⟨.int .u16 ((q : Int) / 2), rfl⟩)) (.inr ⟨.int .u16 ((q / 2 ^^^ put : Nat) : Int), rfl⟩)) (.inl rfl))
    rw [if_pos hq2] at hy
    have HS := Lib.hid (show stepsN put (k + 1) r0 = q / 2 ^^^ put by rw [hstep, stepN, if_pos hq2])
    obtain ⟨fnn, tmps, assign, body, hy, hR⟩ := hy
    have HY := Lib.hid hy
    have hrw : (wr.setCell ⟨R, 0, none⟩ (.int .u16 ((q : Int) / 2))).cell? ⟨R, 0, none⟩ = some (.int .u16 ((q : Int) / 2)) := by
     have := hb1.cell 0
     simpa using this
    clear hy0 hstep hy hb1 hq2
    gi_wp2
    gi_region
    have hy := HY.out
    clear HY
    gi_wp2
    refine ⟨fun hd => (by cases hd), hR.mono ?_⟩
    rintro e W3 (⟨rfl, hJ3, hk3, hk4⟩ | ⟨rfl, hJx3⟩)
    ·have hb3 : Blk W3 R 288 #[.int .u16 ((stepsN put (k + 1) r0 : Nat) : Int), .int .u16 (put : Int)] := by
      rw [HS.out]
      exact Blk.kept hbZ hk3
     have hx3 := boxed_kept' hxZ hk4
     gi_wp2
     go_roundw
     case rel =>
      refine ⟨k + 1, by omega, by go_num, ?_, hb3, hx3⟩
      rw [List.range_succ]
      exact hJ3
     case measure => simp [intOf]; omega
    ·gi_wp2
     simp only [Exit.noGoto]
     go_end0
     exact ⟨⟨_, rfl⟩, .inr ⟨_, trivial, hJx3⟩⟩
  ·gi_wp2
   simp only [Exit.noGoto]
   go_end0
   obtain rfl : k = n := by omega
   exact ⟨⟨_, rfl⟩, .inl ⟨List.range k, ⟨by simp, hbk⟩, hJk⟩⟩
def odd32 (put i r : Nat) : Int := if stepsN put i r % 2 = 1 then 1 else 0
theorem bits32_any (a : Addr) (n : Int) (w : World) :
  Calls Tryz.prog 190 #[.pointer (some a), .int .i64 n] w fun e w' =>
   e = .returned (.func (.func 192) #[] #[.pointer (some ⟨w.heap.size + 1, 0, none⟩), .pointer (some ⟨w.heap.size, 0, none⟩)]) ∧
   (w.alloc (.cells #[.pointer (some a)] 292)).alloc (.cells #[.int .i64 n] 3) = w' := by
 go_enter Tryz.func190, Tryz.ntmps190
 go_wp2
 go_ret
 exact ⟨rfl, rfl⟩
theorem bits32_seq (r0 put n : Nat) (hr : r0 < 4294967296) (hp : put < 4294967296) (hn : n ≤ 8) (Bn Bx R m : Nat) :
  SeqW Fence.wide m Tryz.prog 192 #[.pointer (some ⟨Bn, 0, none⟩), .pointer (some ⟨Bx, 0, none⟩)] (fun i : Nat => #[.int .u32 (odd32 put i r0)])
   (fun A B => B.heap[R]? = A.heap[R]? ∧ B.heap[Bx]? = A.heap[Bx]?) (fun A B => B = A.drew ∨ ∃ v, B = A.setCell ⟨R, 0, none⟩ v) (fun pre i => i = pre.length ∧ i < n)
   (fun xs W => xs.length = n ∧ Blk W R 294 #[.int .u32 ((stepsN put n r0 : Nat) : Int), .int .u32 (put : Int)]) (fun _ => True)
   (fun W => Boxed W Bn 3 (.int .i64 (n : Int)) ∧ Boxed W Bx 292 (.pointer (some ⟨R, 0, none⟩)) ∧ Blk W R 294 #[.int .u32 (r0 : Int), .int .u32 (put : Int)] ∧ R ≠ Bx ∧ R ≠ Bn) := by
 rintro l J Jx W ⟨hbn, hbx, hbr, hRx, hRn⟩ hJ hJx hY h0
 have cn := hbn.cell
 clear hbn
 refine callsIn_of_wp Tryz.func192 rfl trivial ?_ rfl
 simp only [Tryz.ntmps192, List.size_toArray, List.length_cons, List.length_nil, Nat.reduceAdd, Nat.reduceSub, Array.replicate_succ, Array.replicate_zero, List.push_toArray, List.append_toArray, List.nil_append, List.cons_append]
 refine wpIn_scope (wpIn_seq (wpIn_label ?_))
 gi_wp2
 gi_loopw [6] (fun i wr => ∃ k : Nat, k ≤ n ∧ i = .int .i64 (k : Int) ∧ J (List.range k) wr ∧ Blk wr R 294 #[.int .u32 ((stepsN put k r0 : Nat) : Int), .int .u32 (put : Int)] ∧ Boxed wr Bx 292 (.pointer (some ⟨R, 0, none⟩))) (fun i _ => n - (intOf i).toNat)
 case atStart => exact ⟨0, Nat.zero_le _, rfl, h0, hbr, hbx⟩
 case round =>
  obtain ⟨k, hk, rfl, hJk, hbk, hxk⟩ := hrel
  have cx := hxk.cell
  have cr := hbk.cell 0
  have cp := hbk.cell 1
  have fr := hbk.frozen 0
  simp only [List.getElem?_toArray, List.getElem?_cons_zero, List.getElem?_cons_succ] at cr cp
  by_cases hlt : k < n
  ·have hq : stepsN put k r0 < 4294967296 := stepsN_lt (w := 32) k hp hr
   have hy0 := fun A hA => hY (List.range k) k A hA ⟨by simp, hlt⟩
   have hstep : stepsN put (k + 1) r0 = stepN put (stepsN put k r0) := rfl
   unfold odd32 at hy0
   dsimp only at hy0
   generalize stepsN put k r0 = q at hy0 hbk cr hq hstep
   rcases Nat.mod_two_eq_zero_or_one q with hq2 | hq2
   ·have hand : bits .and .u32 (q : Int) 1 = 0 := by rw [and1_u32 q hq, hq2]; rfl
    have hne : ¬ q % 2 = 1 := by omega
    have hbZ := hbk.set_ 0 (.int .u32 ((q : Int) / 2))
    have hxZ : Boxed (wr.setCell ⟨R, 0, none⟩ (.int .u32 ((q : Int) / 2))) Bx 292 (.pointer (some ⟨R, 0, none⟩)) := (Below.heap_setCell _ _ _ _ (Ne.symm hRx)).trans hxk
    have hy := hy0 _ (hJ _ _ _ hJk (.inr ⟨.int .u32 ((q : Int) / 2), rfl⟩))
    rw [if_neg hne] at hy
    have HS := Lib.hid (show stepsN put (k + 1) r0 = q / 2 by rw [hstep, stepN, if_neg hne])
    obtain ⟨fnn, tmps, assign, body, hy, hR⟩ := hy
    clear hy0 hstep hne hq2
    gi_wp2
    refine ⟨fun hd => (by cases hd), hR.mono ?_⟩
    rintro e W3 (⟨rfl, hJ3, hk3, hk4⟩ | ⟨rfl, hJx3⟩)
    ·have hb3 : Blk W3 R 294 #[.int .u32 ((stepsN put (k + 1) r0 : Nat) : Int), .int .u32 (put : Int)] := by
      rw [HS.out]
      exact Blk.kept hbZ hk3
     have hx3 := boxed_kept' hxZ hk4
     gi_wp2
     go_roundw
     case rel =>
      refine ⟨k + 1, by omega, by go_num, ?_, hb3, hx3⟩
      rw [List.range_succ]
      exact hJ3
     case measure => simp [intOf]; omega
    ·gi_wp2
     simp only [Exit.noGoto]
     go_end0
     exact ⟨⟨_, rfl⟩, .inr ⟨_, trivial, hJx3⟩⟩
   ·have hand : bits .and .u32 (q : Int) 1 = 1 := by rw [and1_u32 q hq, hq2]; rfl
    have hxor : bits .xor .u32 ((q : Int) / 2) (put : Int) = ((q / 2 ^^^ put : Nat) : Int) := u32_xor_nat (q / 2) put (by omega) hp
    have hb1 := hbk.set_ 0 (.int .u32 ((q : Int) / 2))
    have hbZ := hb1.set_ 0 (.int .u32 ((q / 2 ^^^ put : Nat) : Int))
    have hx1 : Boxed (wr.setCell ⟨R, 0, none⟩ (.int .u32 ((q : Int) / 2))) Bx 292 (.pointer (some ⟨R, 0, none⟩)) := (Below.heap_setCell _ _ _ _ (Ne.symm hRx)).trans hxk
    have hxZ : Boxed (((wr.setCell ⟨R, 0, none⟩ (.int .u32 ((q : Int) / 2))).setCell ⟨R, 0, none⟩ (.int .u32 ((q / 2 ^^^ put : Nat) : Int))).drew) Bx 292 (.pointer (some ⟨R, 0, none⟩)) := (Below.heap_setCell _ _ _ _ (Ne.symm hRx)).trans hx1
    have hy := hy0 _ (hJ _ _ _ (hJ _ _ _ (hJ _ _ _ hJk (.inr ⟨.int .u32 ((q : Int) / 2), rfl⟩)) (.inr ⟨.int .u32 ((q / 2 ^^^ put : Nat) : Int), rfl⟩)) (.inl rfl))
    rw [if_pos hq2] at hy
    have HS := Lib.hid (show stepsN put (k + 1) r0 = q / 2 ^^^ put by rw [hstep, stepN, if_pos hq2])
    obtain ⟨fnn, tmps, assign, body, hy, hR⟩ := hy
    have HY := Lib.hid hy
    have hrw : (wr.setCell ⟨R, 0, none⟩ (.int .u32 ((q : Int) / 2))).cell? ⟨R, 0, none⟩ = some (.int .u32 ((q : Int) / 2)) := by
     have := hb1.cell 0
     simpa using this
    clear hy0 hstep hy hb1 hq2
    gi_wp2
    gi_region
    have hy := HY.out
    clear HY
    gi_wp2
    refine ⟨fun hd => (by cases hd), hR.mono ?_⟩
    rintro e W3 (⟨rfl, hJ3, hk3, hk4⟩ | ⟨rfl, hJx3⟩)
    ·have hb3 : Blk W3 R 294 #[.int .u32 ((stepsN put (k + 1) r0 : Nat) : Int), .int .u32 (put : Int)] := by
      rw [HS.out]
      exact Blk.kept hbZ hk3
     have hx3 := boxed_kept' hxZ hk4
     gi_wp2
     go_roundw
     case rel =>
      refine ⟨k + 1, by omega, by go_num, ?_, hb3, hx3⟩
      rw [List.range_succ]
      exact hJ3
     case measure => simp [intOf]; omega
    ·gi_wp2
     simp only [Exit.noGoto]
     go_end0
     exact ⟨⟨_, rfl⟩, .inr ⟨_, trivial, hJx3⟩⟩
  ·gi_wp2
   simp only [Exit.noGoto]
   go_end0
   obtain rfl : k = n := by omega
   exact ⟨⟨_, rfl⟩, .inl ⟨List.range k, ⟨by simp, hbk⟩, hJk⟩⟩
attribute [local go_sem] Oper.semAt_some
theorem part16_make (w : World) :
  Calls Tryz.prog 177 #[.int .u16 33800] w fun e w' => e = .returned (.func (.func 187) #[] #[.pointer (some ⟨w.heap.size, 0, none⟩)]) ∧ w.alloc (.cells #[.int .u16 33800] 273) = w' := by
 go_enter Tryz.func177, Tryz.ntmps177
 go_wp2
 go_ret
 exact ⟨rfl, rfl⟩
theorem part16_any (b : Nat) (hb : b < 256) (Bp : Nat) (w : World) (hp : Boxed w Bp 273 (.int .u16 33800)) :
  Calls Tryz.prog 187 #[.int .i64 (b : Int), .pointer (some ⟨Bp, 0, none⟩)] w (Ret (.int .u32 ((partN (putN false) b : Nat) : Int)) w) := by
 have cp := hp.cell
 have hq : stepsN (putN false) 8 b < 65536 := stepsN_lt (w := 16) 8 (putN_lt false) (show b < 2 ^ 16 by omega)
 refine callsIn_wide.1 (callsIn_of_wp_marks (n := 5) Tryz.func187 rfl trivial ?_ rfl)
 simp only [Tryz.ntmps187, List.size_toArray, List.length_cons, List.length_nil, Nat.reduceAdd, Nat.reduceSub, Array.replicate_succ, Array.replicate_zero, List.push_toArray, List.append_toArray, List.nil_append, List.cons_append]
 refine wpIn_wide.2 ?_
 go_wp2_with fail
 refine (bits16_any ⟨w.heap.size, 0, none⟩ 8 _).mono ?_
 rintro e w5 ⟨rfl, rfl⟩
 go_wp2_with fail
 obtain ⟨d, hd⟩ : ∃ d, w.heap.size = d := ⟨_, rfl⟩
 have hpl := hp.lt
 rw [hd]
 have q1 : Blk (w.alloc (.cells #[.int .u16 (b : Int), .int .u16 33800] 288)) d 288 #[.int .u16 (b : Int), .int .u16 (((putN false : Nat)) : Int)] := by rw [← hd]; exact World.alloc_heap_new w _
 generalize hW5 : ((w.alloc (.cells #[.int .u16 (b : Int), .int .u16 33800] 288)).alloc (.cells #[.pointer (some ⟨d, 0, none⟩)] 286)).alloc (.cells #[.int .i64 8] 3) = W5
 have hW5s : W5.heap.size = d + 3 := by rw [← hW5]; simp [hd]
 have p1 : Blk W5 d 288 #[.int .u16 (b : Int), .int .u16 ((putN false : Nat) : Int)] := by rw [← hW5]; exact (q1.alloc _).alloc _
 have p2 : Boxed W5 (d + 1) 286 (.pointer (some ⟨d, 0, none⟩)) := by rw [← hW5]; exact (boxed_at (by simp [hd])).alloc _
 have p3 : Boxed W5 (d + 1 + 1) 3 (.int .i64 ((8 : Nat) : Int)) := by rw [← hW5]; exact boxed_at (by simp [hd])
 have p7 : Below d w W5 := by
  rw [← hW5]
  exact (((Below.refl _ w).alloc (by omega) _).alloc (by simp; omega) _).alloc (by simp; omega) _
 clear hW5 q1
 refine wpIn_wide.1 (wpIn_rangeW (n := 5) (gf := 191) (lb := #[.pointer (some ⟨d + 1 + 1, 0, none⟩), .pointer (some ⟨d + 1, 0, none⟩)]) rfl (by omega) rfl trivial (enters_of Tryz.func191 (by kernel_rfl) rfl)
  (bits16_seq b (putN false) 8 (by omega) (putN_lt false) (by omega) (d + 1 + 1) (d + 1) d _) (fun _ => rfl) ?hSt ?hSe (fun h k => ⟨k.1.trans h.1, k.2.trans h.2⟩) ?hKb ?hMb
  (fun _ W => Below d w W) (fun _ _ _ => False) ?hI (fun _ _ _ _ _ h _ _ => h) ?hIM (fun _ _ _ _ h _ => h) p7 ?hround ?hdone (fun _ _ _ _ h _ => h.elim))
 case hSt => intro o o'; exact ⟨(p3.alloc _).alloc _, (p2.alloc _).alloc _, (p1.alloc _).alloc _, by omega, by omega⟩
 case hSe =>
  intro xs W l o o' hl _ _ hs
  exact ⟨hs.1, Blk.kept hs.2 (World.putObj_heap_other (by omega))⟩
 case hKb =>
  intro W l o o' hl _ _
  exact ⟨World.putObj_heap_other (by omega), World.putObj_heap_other (by omega)⟩
 case hMb =>
  rintro A B (rfl | ⟨v, rfl⟩) l o hl ho _
  ·exact ho
  ·rw [Below.heap_setCell _ _ _ _ (by simp; omega)]
   exact ho
 case hI =>
  intro pre A B row h hgr hr
  exact h.grown hgr (by have := h.size; omega) (fun r e => by have := (hr r e).1; omega)
 case hIM =>
  rintro pre A B h (rfl | ⟨v, rfl⟩)
  ·exact h.drew
  ·exact h.setCell (by simp) _
 case hround =>
  rintro l pre x W hIW hx
  gi_wp2
  refine ⟨KeepsFrom.refl _ _, (by first | trivial | exact ⟨rfl, rfl⟩), hIW, ?_⟩
  intro Wb hIb _
  gi_wp2
  exact ⟨KeepsFrom.refl _ _, ⟨rfl, rfl⟩, hIb⟩
 case hdone =>
  rintro xs W ⟨hxs, hbk⟩ hIW hD
  have c0 := hbk.cell 0
  simp only [List.getElem?_toArray, List.getElem?_cons_zero] at c0
  have hv : ((stepsN (putN false) 8 b : Nat) : Int) = ((partN (putN false) b : Nat) : Int) := rfl
  rw [hv] at c0
  have hq' : partN (putN false) b < 65536 := hq
  clear hv hq hbk
  generalize hz : partN (putN false) b = z at c0 hq'
  have HZ := Lib.hid hz
  clear hz
  go_wp2_with fail
  refine ⟨by simp, .inl ⟨_, _, rfl, run_takeDeferred hD, ?_⟩⟩
  refine ⟨_, results_tmp rfl _ _ _, by rw [HZ.out]; rfl, ?_⟩
  rw [hW5s, hd]
  exact hIW.grown (grownBy_putObj' W (d + 3) _) (by have := hIW.size; omega) (fun k e => by cases e; omega)
theorem part32_make (w : World) :
  Calls Tryz.prog 178 #[.int .u32 2197175160] w fun e w' => e = .returned (.func (.func 189) #[] #[.pointer (some ⟨w.heap.size, 0, none⟩)]) ∧ w.alloc (.cells #[.int .u32 2197175160] 251) = w' := by
 go_enter Tryz.func178, Tryz.ntmps178
 go_wp2
 go_ret
 exact ⟨rfl, rfl⟩
theorem part32_any (b : Nat) (hb : b < 256) (Bp : Nat) (w : World) (hp : Boxed w Bp 251 (.int .u32 2197175160)) :
  Calls Tryz.prog 189 #[.int .i64 (b : Int), .pointer (some ⟨Bp, 0, none⟩)] w (Ret (.int .u32 ((partN (putN true) b : Nat) : Int)) w) := by
 have cp := hp.cell
 have hq : stepsN (putN true) 8 b < 4294967296 := stepsN_lt (w := 32) 8 (putN_lt true) (show b < 2 ^ 32 by omega)
 refine callsIn_wide.1 (callsIn_of_wp_marks (n := 5) Tryz.func189 rfl trivial ?_ rfl)
 simp only [Tryz.ntmps189, List.size_toArray, List.length_cons, List.length_nil, Nat.reduceAdd, Nat.reduceSub, Array.replicate_succ, Array.replicate_zero, List.push_toArray, List.append_toArray, List.nil_append, List.cons_append]
 refine wpIn_wide.2 ?_
 go_wp2_with fail
 refine (bits32_any ⟨w.heap.size, 0, none⟩ 8 _).mono ?_
 rintro e w5 ⟨rfl, rfl⟩
 go_wp2_with fail
 obtain ⟨d, hd⟩ : ∃ d, w.heap.size = d := ⟨_, rfl⟩
 have hpl := hp.lt
 rw [hd]
 have q1 : Blk (w.alloc (.cells #[.int .u32 (b : Int), .int .u32 2197175160] 294)) d 294 #[.int .u32 (b : Int), .int .u32 (((putN true : Nat)) : Int)] := by rw [← hd]; exact World.alloc_heap_new w _
 generalize hW5 : ((w.alloc (.cells #[.int .u32 (b : Int), .int .u32 2197175160] 294)).alloc (.cells #[.pointer (some ⟨d, 0, none⟩)] 292)).alloc (.cells #[.int .i64 8] 3) = W5
 have hW5s : W5.heap.size = d + 3 := by rw [← hW5]; simp [hd]
 have p1 : Blk W5 d 294 #[.int .u32 (b : Int), .int .u32 ((putN true : Nat) : Int)] := by rw [← hW5]; exact (q1.alloc _).alloc _
 have p2 : Boxed W5 (d + 1) 292 (.pointer (some ⟨d, 0, none⟩)) := by rw [← hW5]; exact (boxed_at (by simp [hd])).alloc _
 have p3 : Boxed W5 (d + 1 + 1) 3 (.int .i64 ((8 : Nat) : Int)) := by rw [← hW5]; exact boxed_at (by simp [hd])
 have p7 : Below d w W5 := by
  rw [← hW5]
  exact (((Below.refl _ w).alloc (by omega) _).alloc (by simp; omega) _).alloc (by simp; omega) _
 clear hW5 q1
 refine wpIn_wide.1 (wpIn_rangeW (n := 5) (gf := 192) (lb := #[.pointer (some ⟨d + 1 + 1, 0, none⟩), .pointer (some ⟨d + 1, 0, none⟩)]) rfl (by omega) rfl trivial (enters_of Tryz.func192 (by kernel_rfl) rfl)
  (bits32_seq b (putN true) 8 (by omega) (putN_lt true) (by omega) (d + 1 + 1) (d + 1) d _) (fun _ => rfl) ?hSt ?hSe (fun h k => ⟨k.1.trans h.1, k.2.trans h.2⟩) ?hKb ?hMb
  (fun _ W => Below d w W) (fun _ _ _ => False) ?hI (fun _ _ _ _ _ h _ _ => h) ?hIM (fun _ _ _ _ h _ => h) p7 ?hround ?hdone (fun _ _ _ _ h _ => h.elim))
 case hSt => intro o o'; exact ⟨(p3.alloc _).alloc _, (p2.alloc _).alloc _, (p1.alloc _).alloc _, by omega, by omega⟩
 case hSe =>
  intro xs W l o o' hl _ _ hs
  exact ⟨hs.1, Blk.kept hs.2 (World.putObj_heap_other (by omega))⟩
 case hKb =>
  intro W l o o' hl _ _
  exact ⟨World.putObj_heap_other (by omega), World.putObj_heap_other (by omega)⟩
 case hMb =>
  rintro A B (rfl | ⟨v, rfl⟩) l o hl ho _
  ·exact ho
  ·rw [Below.heap_setCell _ _ _ _ (by simp; omega)]
   exact ho
 case hI =>
  intro pre A B row h hgr hr
  exact h.grown hgr (by have := h.size; omega) (fun r e => by have := (hr r e).1; omega)
 case hIM =>
  rintro pre A B h (rfl | ⟨v, rfl⟩)
  ·exact h.drew
  ·exact h.setCell (by simp) _
 case hround =>
  rintro l pre x W hIW hx
  gi_wp2
  refine ⟨KeepsFrom.refl _ _, (by first | trivial | exact ⟨rfl, rfl⟩), hIW, ?_⟩
  intro Wb hIb _
  gi_wp2
  exact ⟨KeepsFrom.refl _ _, ⟨rfl, rfl⟩, hIb⟩
 case hdone =>
  rintro xs W ⟨hxs, hbk⟩ hIW hD
  have c0 := hbk.cell 0
  simp only [List.getElem?_toArray, List.getElem?_cons_zero] at c0
  have hv : ((stepsN (putN true) 8 b : Nat) : Int) = ((partN (putN true) b : Nat) : Int) := rfl
  rw [hv] at c0
  have hq' : partN (putN true) b < 4294967296 := hq
  clear hv hq hbk
  generalize hz : partN (putN true) b = z at c0 hq'
  have HZ := Lib.hid hz
  clear hz
  go_wp2_with fail
  refine ⟨by simp, .inl ⟨_, _, rfl, run_takeDeferred hD, ?_⟩⟩
  refine ⟨_, results_tmp rfl _ _ _, by rw [HZ.out]; rfl, ?_⟩
  rw [hW5s, hd]
  exact hIW.grown (grownBy_putObj' W (d + 3) _) (by have := hIW.size; omega) (fun k e => by cases e; omega)
def RdU (w : World) (A : Option Addr) (xs : List Nat) : Prop := 0 < xs.length → ∃ a, A = some a ∧ a.block < w.heap.size ∧ ∀ i (h : i < xs.length), w.cell? (a.add i) = some (.int .u32 (xs[i] : Int))
theorem RdU.below {A : Option Addr} {xs : List Nat} (h : RdU w A xs) (hb : Below w.heap.size w w') : RdU w' A xs := fun hl => by
 obtain ⟨a, h1, h2, h3⟩ := h hl
 have hblk : ∀ i, (a.add i).block = a.block := fun i => by unfold Addr.add; split <;> rfl
 exact ⟨a, h1, Nat.lt_of_lt_of_le h2 hb.size, fun i hi => (hb.cell (by rw [hblk]; exact h2)).trans (h3 i hi)⟩
theorem list_take_snoc (s : ByteArray) (k : Nat) (h : k < s.size) : s.data.toList.take (k + 1) = s.data.toList.take k ++ [s[k]] := by
 rw [List.take_succ_eq_append_getElem (by simpa using h)]; rfl
theorem not16 (x : Nat) (h : x < 65536) : bits .xor .u16 IntKind.u16.max (x : Int) = ((x ^^^ 65535 : Nat) : Int) := by
 rw [Nat.xor_comm]; exact u16_xor_nat 65535 x (by omega) h
theorem not32 (x : Nat) (h : x < 4294967296) : bits .xor .u32 IntKind.u32.max (x : Int) = ((x ^^^ 4294967295 : Nat) : Int) := by
 rw [Nat.xor_comm]; exact u32_xor_nat 4294967295 x (by omega) h
theorem val_u16 (h : a = b) : Value.int .u16 a = .int .u16 b := by rw [h]
theorem val_u32 (h : a = b) : Value.int .u32 a = .int .u32 b := by rw [h]
theorem sum16_any (A : Option Addr) (c : Nat) (T : List Nat) (s : ByteArray) (w : World) (hT : T.length = 256) (hr : RdU w A T) (hv : ∀ x ∈ T, x < 4294967296) (hs : s.size ≤ 9223372036854775807) :
  Calls Tryz.prog 179 #[.slice A 256 c, .string s] w (Pure (.int .u32 ((sumT false T s.data.toList : Nat) : Int)) w) := by
 obtain ⟨a, rfl, hab, hcell⟩ := hr (by omega)
 have HC := Lib.hid hcell
 have h0 : runT false T (allN false) [] = 65535 := rfl
 have H0 := Lib.hid h0
 clear h0 hcell hr
 go_enter Tryz.func179, Tryz.ntmps179
 go_wp2
 go_loop [5, 11] (fun r i => ∃ k : Nat, k ≤ s.size ∧ i = .int .i64 k ∧ r = .int .u16 ((runT false T (allN false) (s.data.toList.take k) : Nat) : Int)) (fun _ i => s.size - (intOf i).toNat)
 case atStart => exact ⟨0, Nat.zero_le _, rfl, by rw [List.take_zero, H0.out]; rfl⟩
 case round =>
  obtain ⟨k, hk, rfl, rfl⟩ := hrel
  by_cases hlt : k < s.size
  ·have hq := runT_lt false T (s.data.toList.take k) _ (allN_lt false)
   have hnext : runT false T (allN false) (s.data.toList.take (k + 1)) = stepT false T (runT false T (allN false) (s.data.toList.take k)) s[k] := by
    rw [list_take_snoc s k hlt, runT_snoc]
   have HN := Lib.hid hnext
   clear hnext
   generalize runT false T (allN false) (s.data.toList.take k) = q at hq HN
   have hq' : q < 65536 := hq
   have hx : bits .xor .u8 ((q : Int) % 256) ((s[k]).toNat : Int) = ((q % 256 ^^^ s[k].toNat : Nat) : Int) := u8_xor_nat (q % 256) s[k].toNat (by omega) s[k].toNat_lt
   have hil := idx_lt q s[k]
   have hc := HC.out (q % 256 ^^^ s[k].toNat) (by omega)
   have htv : T[q % 256 ^^^ s[k].toNat]'(by omega) < 4294967296 := hv _ (List.getElem_mem _)
   have hgd : T.getD (q % 256 ^^^ s[k].toNat) 0 = T[q % 256 ^^^ s[k].toNat]'(by omega) := by
    rw [List.getD, List.getElem?_eq_getElem (by omega)]; rfl
   have HG := Lib.hid hgd
   clear hgd
   go_wp2
   go_round
   case rel =>
    refine ⟨k + 1, by omega, by go_num, val_u16 ?_⟩
    rw [HN.out, stepT, HG.out]
    generalize T[q % 256 ^^^ s[k].toNat]'(by omega) = t at htv
    rw [IntKind.wrap_u16]
    have := u16_xor_nat (q / 256) (t % 65536) (by omega) (by omega)
    exact this
   case measure => simp [intOf]; omega
  ·have hq := runT_lt false T (s.data.toList.take k) _ (allN_lt false)
   have hall : s.data.toList.take k = s.data.toList := List.take_of_length_le (by simp; omega)
   rw [hall] at hq ⊢
   have hn := not16 _ hq
   have hqv : runT false T (allN false) s.data.toList ^^^ 65535 = sumT false T s.data.toList := rfl
   have hsl : sumT false T s.data.toList < 65536 := sumT_lt false T _
   rw [hqv] at hn
   clear hqv hall
   generalize hz : sumT false T s.data.toList = z at hn hsl
   have HZ := Lib.hid hz
   clear hz
   go_wp2
   go_ret
   exact ⟨by rw [HZ.out]; rfl, rfl⟩
theorem sum32_any (A : Option Addr) (c : Nat) (T : List Nat) (s : ByteArray) (w : World) (hT : T.length = 256) (hr : RdU w A T) (hv : ∀ x ∈ T, x < 4294967296) (hs : s.size ≤ 9223372036854775807) :
  Calls Tryz.prog 180 #[.slice A 256 c, .string s] w (Pure (.int .u32 ((sumT true T s.data.toList : Nat) : Int)) w) := by
 obtain ⟨a, rfl, hab, hcell⟩ := hr (by omega)
 have HC := Lib.hid hcell
 have h0 : runT true T (allN true) [] = 4294967295 := rfl
 have H0 := Lib.hid h0
 clear h0 hcell hr
 go_enter Tryz.func180, Tryz.ntmps180
 go_wp2
 go_loop [5, 11] (fun r i => ∃ k : Nat, k ≤ s.size ∧ i = .int .i64 k ∧ r = .int .u32 ((runT true T (allN true) (s.data.toList.take k) : Nat) : Int)) (fun _ i => s.size - (intOf i).toNat)
 case atStart => exact ⟨0, Nat.zero_le _, rfl, by rw [List.take_zero, H0.out]; rfl⟩
 case round =>
  obtain ⟨k, hk, rfl, rfl⟩ := hrel
  by_cases hlt : k < s.size
  ·have hq := runT_lt true T (s.data.toList.take k) _ (allN_lt true)
   have hnext : runT true T (allN true) (s.data.toList.take (k + 1)) = stepT true T (runT true T (allN true) (s.data.toList.take k)) s[k] := by
    rw [list_take_snoc s k hlt, runT_snoc]
   have HN := Lib.hid hnext
   clear hnext
   generalize runT true T (allN true) (s.data.toList.take k) = q at hq HN
   have hq' : q < 4294967296 := hq
   have hx : bits .xor .u8 ((q : Int) % 256) ((s[k]).toNat : Int) = ((q % 256 ^^^ s[k].toNat : Nat) : Int) := u8_xor_nat (q % 256) s[k].toNat (by omega) s[k].toNat_lt
   have hil := idx_lt q s[k]
   have hc := HC.out (q % 256 ^^^ s[k].toNat) (by omega)
   have htv : T[q % 256 ^^^ s[k].toNat]'(by omega) < 4294967296 := hv _ (List.getElem_mem _)
   have hgd : T.getD (q % 256 ^^^ s[k].toNat) 0 = T[q % 256 ^^^ s[k].toNat]'(by omega) := by
    rw [List.getD, List.getElem?_eq_getElem (by omega)]; rfl
   have HG := Lib.hid hgd
   clear hgd
   go_wp2
   go_round
   case rel =>
    refine ⟨k + 1, by omega, by go_num, val_u32 ?_⟩
    rw [HN.out, stepT, HG.out]
    generalize T[q % 256 ^^^ s[k].toNat]'(by omega) = t at htv
    skip
    have := u32_xor_nat (q / 256) (t % 4294967296) (by omega) (by omega)
    rw [Nat.mod_eq_of_lt htv] at this; rw [show bitsN true = 32 from rfl, Nat.mod_eq_of_lt (show t < 2 ^ 32 from htv)]; exact this
   case measure => simp [intOf]; omega
  ·have hq := runT_lt true T (s.data.toList.take k) _ (allN_lt true)
   have hall : s.data.toList.take k = s.data.toList := List.take_of_length_le (by simp; omega)
   rw [hall] at hq ⊢
   have hn := not32 _ hq
   have hqv : runT true T (allN true) s.data.toList ^^^ 4294967295 = sumT true T s.data.toList := rfl
   have hsl : sumT true T s.data.toList < 4294967296 := sumT_lt true T _
   rw [hqv] at hn
   clear hqv hall
   generalize hz : sumT true T s.data.toList = z at hn hsl
   have HZ := Lib.hid hz
   clear hz
   go_wp2
   go_ret
   exact ⟨by rw [HZ.out]; rfl, rfl⟩
end Go.Proofs.YtmebjdbkngehiaaGreatDoor
