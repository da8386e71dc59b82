/-
  Package crc: the iterator over the bits that fall out of a register (bits$1), as a contract for whatever loop body. Conditions: as the theorems' own hypotheses say.
-/
import Derived.Test.YtlabmomehjfjdaaDoorCrcA
import Derived.Test.YtlabmomehjfjdaaDoorRng2
import Derived.Test.YtlabmomehjfjdaaDoorBlk
namespace Go.Proofs.YtlabmomehjfjdaaDoor
open Go.RowKit
attribute [local go_sem] Oper.semAt_some

theorem boxed_kept' {W W' : World} {B : Nat} {t : TypeId} {v : Value} (h : Boxed W B t v) (hb : W'.heap[B]? = W.heap[B]?) : Boxed W' B t v := hb.trans h
theorem and1_u16 (r : Nat) (h : r < 65536) : bits .and .u16 (r : Int) 1 = ((r % 2 : Nat) : Int) := by
  have := u16_and_nat r 1 h (by omega)
  rw [nat_mask1] at this
  exact this
theorem and1_u32 (r : Nat) (h : r < 4294967296) : bits .and .u32 (r : Int) 1 = ((r % 2 : Nat) : Int) := by
  have := u32_and_nat r 1 h (by omega)
  rw [nat_mask1] at this
  exact this

/-- The bit that falls out in a round. -/
def odd16 (put i r : Nat) : Int := if stepsN put i r % 2 = 1 then 1 else 0
theorem bits16_any (a : Addr) (n : Int) (w : World) :
    Calls Tryd.prog 64 #[.pointer (some a), .int .i64 n] w fun e w' =>
      e = .returned (.func (.func 68) #[] #[.pointer (some ⟨w.heap.size + 1, 0, none⟩), .pointer (some ⟨w.heap.size, 0, none⟩)]) ∧
      (w.alloc (.cells #[.pointer (some a)] 105)).alloc (.cells #[.int .i64 n] 3) = w' := by
  go_enter Tryd.func64, Tryd.ntmps64
  go_wp2
  go_ret
  exact ⟨rfl, rfl⟩

set_option maxHeartbeats 1000000 in
theorem bits16_seq (r0 put n : Nat) (hr : r0 < 65536) (hp : put < 65536) (hn : n ≤ 8) (Bn Bx R m : Nat) :
    SeqW Fence.wide m Tryd.prog 68 #[.pointer (some ⟨Bn, 0, none⟩), .pointer (some ⟨Bx, 0, none⟩)] (fun i : Nat => #[.int .u16 (odd16 put i r0)])
      (fun A B => B.heap[R]? = A.heap[R]? ∧ B.heap[Bx]? = A.heap[Bx]?) (fun A B => B = A.drew ∨ ∃ v, B = A.setCell ⟨R, 0, none⟩ v) (fun pre i => i = pre.length ∧ i < n)
      (fun xs W => xs.length = n ∧ Blk W R 107 #[.int .u16 ((stepsN put n r0 : Nat) : Int), .int .u16 (put : Int)]) (fun _ => True)
      (fun W => Boxed W Bn 3 (.int .i64 (n : Int)) ∧ Boxed W Bx 105 (.pointer (some ⟨R, 0, none⟩)) ∧ Blk W R 107 #[.int .u16 (r0 : Int), .int .u16 (put : Int)] ∧ R ≠ Bx ∧ R ≠ Bn) := by
  rintro l J Jx W ⟨hbn, hbx, hbr, hRx, hRn⟩ hJ hJx hY h0
  have cn := hbn.cell
  clear hbn
  refine callsIn_of_wp Tryd.func68 rfl trivial ?_ rfl
  simp only [Tryd.ntmps68, List.size_toArray, List.length_cons, List.length_nil, Nat.reduceAdd, Nat.reduceSub, Array.replicate_succ, Array.replicate_zero, List.push_toArray, List.append_toArray, List.nil_append, List.cons_append]
  refine wpIn_scope (wpIn_seq (wpIn_label ?_))
  gi_wp2
  gi_loopw [6] (fun i wr => ∃ k : Nat, k ≤ n ∧ i = .int .i64 (k : Int) ∧ J (List.range k) wr ∧ Blk wr R 107 #[.int .u16 ((stepsN put k r0 : Nat) : Int), .int .u16 (put : Int)] ∧ Boxed wr Bx 105 (.pointer (some ⟨R, 0, none⟩))) (fun i _ => n - (intOf i).toNat)
  case atStart => exact ⟨0, Nat.zero_le _, rfl, h0, hbr, hbx⟩
  case round =>
    obtain ⟨k, hk, rfl, hJk, hbk, hxk⟩ := hrel
    have cx := hxk.cell
    have cr := hbk.cell 0
    have cp := hbk.cell 1
    have fr := hbk.frozen 0
    simp only [List.getElem?_toArray, List.getElem?_cons_zero, List.getElem?_cons_succ] at cr cp
    by_cases hlt : k < n
    · have hq : stepsN put k r0 < 65536 := stepsN_lt (w := 16) k hp hr
      have hy0 := fun A hA => hY (List.range k) k A hA ⟨by simp, hlt⟩
      have hstep : stepsN put (k + 1) r0 = stepN put (stepsN put k r0) := rfl
      unfold odd16 at hy0
      dsimp only at hy0
      generalize stepsN put k r0 = q at hy0 hbk cr hq hstep
      rcases Nat.mod_two_eq_zero_or_one q with hq2 | hq2
      · have hand : bits .and .u16 (q : Int) 1 = 0 := by rw [and1_u16 q hq, hq2]; rfl
        have hne : ¬ q % 2 = 1 := by omega
        have hbZ := hbk.set_ 0 (.int .u16 ((q : Int) / 2))
        have hxZ : Boxed (wr.setCell ⟨R, 0, none⟩ (.int .u16 ((q : Int) / 2))) Bx 105 (.pointer (some ⟨R, 0, none⟩)) := (Below.heap_setCell _ _ _ _ (Ne.symm hRx)).trans hxk
        have hy := hy0 _ (hJ _ _ _ hJk (.inr ⟨.int .u16 ((q : Int) / 2), rfl⟩))
        rw [if_neg hne] at hy
        have HS := Lib.hid (show stepsN put (k + 1) r0 = q / 2 by rw [hstep, stepN, if_neg hne])
        obtain ⟨fnn, tmps, assign, body, hy, hR⟩ := hy
        clear hy0 hstep hne hq2
        gi_wp2
        refine ⟨fun hd => (by cases hd), hR.mono ?_⟩
        rintro e W3 (⟨rfl, hJ3, hk3, hk4⟩ | ⟨rfl, hJx3⟩)
        · have hb3 : Blk W3 R 107 #[.int .u16 ((stepsN put (k + 1) r0 : Nat) : Int), .int .u16 (put : Int)] := by
            rw [HS.out]
            exact Blk.kept hbZ hk3
          have hx3 := boxed_kept' hxZ hk4
          gi_wp2
          go_roundw
          case rel =>
            refine ⟨k + 1, by omega, by go_num, ?_, hb3, hx3⟩
            rw [List.range_succ]
            exact hJ3
          case measure => simp [intOf]; omega
        · gi_wp2
          simp only [Exit.noGoto]
          go_end0
          exact ⟨⟨_, rfl⟩, .inr ⟨_, trivial, hJx3⟩⟩
      · have hand : bits .and .u16 (q : Int) 1 = 1 := by rw [and1_u16 q hq, hq2]; rfl
        have hxor : bits .xor .u16 ((q : Int) / 2) (put : Int) = ((q / 2 ^^^ put : Nat) : Int) := u16_xor_nat (q / 2) put (by omega) hp
        have hb1 := hbk.set_ 0 (.int .u16 ((q : Int) / 2))
        have hbZ := hb1.set_ 0 (.int .u16 ((q / 2 ^^^ put : Nat) : Int))
        have hx1 : Boxed (wr.setCell ⟨R, 0, none⟩ (.int .u16 ((q : Int) / 2))) Bx 105 (.pointer (some ⟨R, 0, none⟩)) := (Below.heap_setCell _ _ _ _ (Ne.symm hRx)).trans hxk
        have hxZ : Boxed (((wr.setCell ⟨R, 0, none⟩ (.int .u16 ((q : Int) / 2))).setCell ⟨R, 0, none⟩ (.int .u16 ((q / 2 ^^^ put : Nat) : Int))).drew) Bx 105 (.pointer (some ⟨R, 0, none⟩)) := (Below.heap_setCell _ _ _ _ (Ne.symm hRx)).trans hx1
        have hy := hy0 _ (hJ _ _ _ (hJ _ _ _ (hJ _ _ _ hJk (.inr ⟨.int .u16 ((q : Int) / 2), rfl⟩)) (.inr ⟨.int .u16 ((q / 2 ^^^ put : Nat) : Int), rfl⟩)) (.inl rfl))
        rw [if_pos hq2] at hy
        have HS := Lib.hid (show stepsN put (k + 1) r0 = q / 2 ^^^ put by rw [hstep, stepN, if_pos hq2])
        obtain ⟨fnn, tmps, assign, body, hy, hR⟩ := hy
        have HY := Lib.hid hy
        have hrw : (wr.setCell ⟨R, 0, none⟩ (.int .u16 ((q : Int) / 2))).cell? ⟨R, 0, none⟩ = some (.int .u16 ((q : Int) / 2)) := by
          have := hb1.cell 0
          simpa using this
        clear hy0 hstep hy hb1 hq2
        gi_wp2
        gi_region
        have hy := HY.out
        clear HY
        gi_wp2
        refine ⟨fun hd => (by cases hd), hR.mono ?_⟩
        rintro e W3 (⟨rfl, hJ3, hk3, hk4⟩ | ⟨rfl, hJx3⟩)
        · have hb3 : Blk W3 R 107 #[.int .u16 ((stepsN put (k + 1) r0 : Nat) : Int), .int .u16 (put : Int)] := by
            rw [HS.out]
            exact Blk.kept hbZ hk3
          have hx3 := boxed_kept' hxZ hk4
          gi_wp2
          go_roundw
          case rel =>
            refine ⟨k + 1, by omega, by go_num, ?_, hb3, hx3⟩
            rw [List.range_succ]
            exact hJ3
          case measure => simp [intOf]; omega
        · gi_wp2
          simp only [Exit.noGoto]
          go_end0
          exact ⟨⟨_, rfl⟩, .inr ⟨_, trivial, hJx3⟩⟩
    · gi_wp2
      simp only [Exit.noGoto]
      go_end0
      obtain rfl : k = n := by omega
      exact ⟨⟨_, rfl⟩, .inl ⟨List.range k, ⟨by simp, hbk⟩, hJk⟩⟩

/-- The bit that falls out in a round. -/
def odd32 (put i r : Nat) : Int := if stepsN put i r % 2 = 1 then 1 else 0
theorem bits32_any (a : Addr) (n : Int) (w : World) :
    Calls Tryd.prog 66 #[.pointer (some a), .int .i64 n] w fun e w' =>
      e = .returned (.func (.func 69) #[] #[.pointer (some ⟨w.heap.size + 1, 0, none⟩), .pointer (some ⟨w.heap.size, 0, none⟩)]) ∧
      (w.alloc (.cells #[.pointer (some a)] 111)).alloc (.cells #[.int .i64 n] 3) = w' := by
  go_enter Tryd.func66, Tryd.ntmps66
  go_wp2
  go_ret
  exact ⟨rfl, rfl⟩

set_option maxHeartbeats 1000000 in
theorem bits32_seq (r0 put n : Nat) (hr : r0 < 4294967296) (hp : put < 4294967296) (hn : n ≤ 8) (Bn Bx R m : Nat) :
    SeqW Fence.wide m Tryd.prog 69 #[.pointer (some ⟨Bn, 0, none⟩), .pointer (some ⟨Bx, 0, none⟩)] (fun i : Nat => #[.int .u32 (odd32 put i r0)])
      (fun A B => B.heap[R]? = A.heap[R]? ∧ B.heap[Bx]? = A.heap[Bx]?) (fun A B => B = A.drew ∨ ∃ v, B = A.setCell ⟨R, 0, none⟩ v) (fun pre i => i = pre.length ∧ i < n)
      (fun xs W => xs.length = n ∧ Blk W R 113 #[.int .u32 ((stepsN put n r0 : Nat) : Int), .int .u32 (put : Int)]) (fun _ => True)
      (fun W => Boxed W Bn 3 (.int .i64 (n : Int)) ∧ Boxed W Bx 111 (.pointer (some ⟨R, 0, none⟩)) ∧ Blk W R 113 #[.int .u32 (r0 : Int), .int .u32 (put : Int)] ∧ R ≠ Bx ∧ R ≠ Bn) := by
  rintro l J Jx W ⟨hbn, hbx, hbr, hRx, hRn⟩ hJ hJx hY h0
  have cn := hbn.cell
  clear hbn
  refine callsIn_of_wp Tryd.func69 rfl trivial ?_ rfl
  simp only [Tryd.ntmps69, List.size_toArray, List.length_cons, List.length_nil, Nat.reduceAdd, Nat.reduceSub, Array.replicate_succ, Array.replicate_zero, List.push_toArray, List.append_toArray, List.nil_append, List.cons_append]
  refine wpIn_scope (wpIn_seq (wpIn_label ?_))
  gi_wp2
  gi_loopw [6] (fun i wr => ∃ k : Nat, k ≤ n ∧ i = .int .i64 (k : Int) ∧ J (List.range k) wr ∧ Blk wr R 113 #[.int .u32 ((stepsN put k r0 : Nat) : Int), .int .u32 (put : Int)] ∧ Boxed wr Bx 111 (.pointer (some ⟨R, 0, none⟩))) (fun i _ => n - (intOf i).toNat)
  case atStart => exact ⟨0, Nat.zero_le _, rfl, h0, hbr, hbx⟩
  case round =>
    obtain ⟨k, hk, rfl, hJk, hbk, hxk⟩ := hrel
    have cx := hxk.cell
    have cr := hbk.cell 0
    have cp := hbk.cell 1
    have fr := hbk.frozen 0
    simp only [List.getElem?_toArray, List.getElem?_cons_zero, List.getElem?_cons_succ] at cr cp
    by_cases hlt : k < n
    · have hq : stepsN put k r0 < 4294967296 := stepsN_lt (w := 32) k hp hr
      have hy0 := fun A hA => hY (List.range k) k A hA ⟨by simp, hlt⟩
      have hstep : stepsN put (k + 1) r0 = stepN put (stepsN put k r0) := rfl
      unfold odd32 at hy0
      dsimp only at hy0
      generalize stepsN put k r0 = q at hy0 hbk cr hq hstep
      rcases Nat.mod_two_eq_zero_or_one q with hq2 | hq2
      · have hand : bits .and .u32 (q : Int) 1 = 0 := by rw [and1_u32 q hq, hq2]; rfl
        have hne : ¬ q % 2 = 1 := by omega
        have hbZ := hbk.set_ 0 (.int .u32 ((q : Int) / 2))
        have hxZ : Boxed (wr.setCell ⟨R, 0, none⟩ (.int .u32 ((q : Int) / 2))) Bx 111 (.pointer (some ⟨R, 0, none⟩)) := (Below.heap_setCell _ _ _ _ (Ne.symm hRx)).trans hxk
        have hy := hy0 _ (hJ _ _ _ hJk (.inr ⟨.int .u32 ((q : Int) / 2), rfl⟩))
        rw [if_neg hne] at hy
        have HS := Lib.hid (show stepsN put (k + 1) r0 = q / 2 by rw [hstep, stepN, if_neg hne])
        obtain ⟨fnn, tmps, assign, body, hy, hR⟩ := hy
        clear hy0 hstep hne hq2
        gi_wp2
        refine ⟨fun hd => (by cases hd), hR.mono ?_⟩
        rintro e W3 (⟨rfl, hJ3, hk3, hk4⟩ | ⟨rfl, hJx3⟩)
        · have hb3 : Blk W3 R 113 #[.int .u32 ((stepsN put (k + 1) r0 : Nat) : Int), .int .u32 (put : Int)] := by
            rw [HS.out]
            exact Blk.kept hbZ hk3
          have hx3 := boxed_kept' hxZ hk4
          gi_wp2
          go_roundw
          case rel =>
            refine ⟨k + 1, by omega, by go_num, ?_, hb3, hx3⟩
            rw [List.range_succ]
            exact hJ3
          case measure => simp [intOf]; omega
        · gi_wp2
          simp only [Exit.noGoto]
          go_end0
          exact ⟨⟨_, rfl⟩, .inr ⟨_, trivial, hJx3⟩⟩
      · have hand : bits .and .u32 (q : Int) 1 = 1 := by rw [and1_u32 q hq, hq2]; rfl
        have hxor : bits .xor .u32 ((q : Int) / 2) (put : Int) = ((q / 2 ^^^ put : Nat) : Int) := u32_xor_nat (q / 2) put (by omega) hp
        have hb1 := hbk.set_ 0 (.int .u32 ((q : Int) / 2))
        have hbZ := hb1.set_ 0 (.int .u32 ((q / 2 ^^^ put : Nat) : Int))
        have hx1 : Boxed (wr.setCell ⟨R, 0, none⟩ (.int .u32 ((q : Int) / 2))) Bx 111 (.pointer (some ⟨R, 0, none⟩)) := (Below.heap_setCell _ _ _ _ (Ne.symm hRx)).trans hxk
        have hxZ : Boxed (((wr.setCell ⟨R, 0, none⟩ (.int .u32 ((q : Int) / 2))).setCell ⟨R, 0, none⟩ (.int .u32 ((q / 2 ^^^ put : Nat) : Int))).drew) Bx 111 (.pointer (some ⟨R, 0, none⟩)) := (Below.heap_setCell _ _ _ _ (Ne.symm hRx)).trans hx1
        have hy := hy0 _ (hJ _ _ _ (hJ _ _ _ (hJ _ _ _ hJk (.inr ⟨.int .u32 ((q : Int) / 2), rfl⟩)) (.inr ⟨.int .u32 ((q / 2 ^^^ put : Nat) : Int), rfl⟩)) (.inl rfl))
        rw [if_pos hq2] at hy
        have HS := Lib.hid (show stepsN put (k + 1) r0 = q / 2 ^^^ put by rw [hstep, stepN, if_pos hq2])
        obtain ⟨fnn, tmps, assign, body, hy, hR⟩ := hy
        have HY := Lib.hid hy
        have hrw : (wr.setCell ⟨R, 0, none⟩ (.int .u32 ((q : Int) / 2))).cell? ⟨R, 0, none⟩ = some (.int .u32 ((q : Int) / 2)) := by
          have := hb1.cell 0
          simpa using this
        clear hy0 hstep hy hb1 hq2
        gi_wp2
        gi_region
        have hy := HY.out
        clear HY
        gi_wp2
        refine ⟨fun hd => (by cases hd), hR.mono ?_⟩
        rintro e W3 (⟨rfl, hJ3, hk3, hk4⟩ | ⟨rfl, hJx3⟩)
        · have hb3 : Blk W3 R 113 #[.int .u32 ((stepsN put (k + 1) r0 : Nat) : Int), .int .u32 (put : Int)] := by
            rw [HS.out]
            exact Blk.kept hbZ hk3
          have hx3 := boxed_kept' hxZ hk4
          gi_wp2
          go_roundw
          case rel =>
            refine ⟨k + 1, by omega, by go_num, ?_, hb3, hx3⟩
            rw [List.range_succ]
            exact hJ3
          case measure => simp [intOf]; omega
        · gi_wp2
          simp only [Exit.noGoto]
          go_end0
          exact ⟨⟨_, rfl⟩, .inr ⟨_, trivial, hJx3⟩⟩
    · gi_wp2
      simp only [Exit.noGoto]
      go_end0
      obtain rfl : k = n := by omega
      exact ⟨⟨_, rfl⟩, .inl ⟨List.range k, ⟨by simp, hbk⟩, hJk⟩⟩

end Go.Proofs.YtlabmomehjfjdaaDoor
