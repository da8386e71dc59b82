/-
  Package head: the iterator over the rooms that have room for an argument (fits$1), as a contract for whatever loop body. Conditions: as the theorems' own hypotheses say.
-/
import Derived.Test.YtfkekdpppcidbaaDoorHeadA
import Derived.Test.YtfkekdpppcidbaaDoorRng2
namespace Go.Proofs.YtfkekdpppcidbaaDoor
open Go.RowKit
attribute [local go_sem] Oper.semAt_some

/-- The rooms: width, first argument that has no room, what is put to the major. -/
def roomW (i : Nat) : Nat := [0, 1, 2, 4, 8].getD i 0
def roomM (i : Nat) : Nat := [24, 256, 65536, 4294967296, 281474976710656].getD i 0
def roomX (i : Nat) : Nat := [0, 24, 25, 26, 27].getD i 0
def roomV (i : Nat) : Value := .agg #[.int .i64 (roomW i : Int), .int .i64 (roomM i : Int), .int .i64 (roomX i : Int)]
def roomsV : Value := .agg #[.int .i64 0, .int .i64 24, .int .i64 0, .int .i64 1, .int .i64 256, .int .i64 24, .int .i64 2, .int .i64 65536, .int .i64 25, .int .i64 4, .int .i64 4294967296, .int .i64 26, .int .i64 8, .int .i64 281474976710656, .int .i64 27]
theorem roomsAt0 (w : World) : (Instr.index 74 (.agg #[.int .i64 0, .int .i64 24, .int .i64 0, .int .i64 1, .int .i64 256, .int .i64 24, .int .i64 2, .int .i64 65536, .int .i64 25, .int .i64 4, .int .i64 4294967296, .int .i64 26, .int .i64 8, .int .i64 281474976710656, .int .i64 27]) (.int .i64 0)).run Tryd.prog w = .ok (.agg #[.int .i64 0, .int .i64 24, .int .i64 0]) w := by kernel_rfl
theorem roomsAt1 (w : World) : (Instr.index 74 (.agg #[.int .i64 0, .int .i64 24, .int .i64 0, .int .i64 1, .int .i64 256, .int .i64 24, .int .i64 2, .int .i64 65536, .int .i64 25, .int .i64 4, .int .i64 4294967296, .int .i64 26, .int .i64 8, .int .i64 281474976710656, .int .i64 27]) (.int .i64 1)).run Tryd.prog w = .ok (.agg #[.int .i64 1, .int .i64 256, .int .i64 24]) w := by kernel_rfl
theorem roomsAt2 (w : World) : (Instr.index 74 (.agg #[.int .i64 0, .int .i64 24, .int .i64 0, .int .i64 1, .int .i64 256, .int .i64 24, .int .i64 2, .int .i64 65536, .int .i64 25, .int .i64 4, .int .i64 4294967296, .int .i64 26, .int .i64 8, .int .i64 281474976710656, .int .i64 27]) (.int .i64 2)).run Tryd.prog w = .ok (.agg #[.int .i64 2, .int .i64 65536, .int .i64 25]) w := by kernel_rfl
theorem roomsAt3 (w : World) : (Instr.index 74 (.agg #[.int .i64 0, .int .i64 24, .int .i64 0, .int .i64 1, .int .i64 256, .int .i64 24, .int .i64 2, .int .i64 65536, .int .i64 25, .int .i64 4, .int .i64 4294967296, .int .i64 26, .int .i64 8, .int .i64 281474976710656, .int .i64 27]) (.int .i64 3)).run Tryd.prog w = .ok (.agg #[.int .i64 4, .int .i64 4294967296, .int .i64 26]) w := by kernel_rfl
theorem roomsAt4 (w : World) : (Instr.index 74 (.agg #[.int .i64 0, .int .i64 24, .int .i64 0, .int .i64 1, .int .i64 256, .int .i64 24, .int .i64 2, .int .i64 65536, .int .i64 25, .int .i64 4, .int .i64 4294967296, .int .i64 26, .int .i64 8, .int .i64 281474976710656, .int .i64 27]) (.int .i64 4)).run Tryd.prog w = .ok (.agg #[.int .i64 8, .int .i64 281474976710656, .int .i64 27]) w := by kernel_rfl
theorem roomsAt (i : Nat) (h : i < 5) (w : World) : (Instr.index 74 (.agg #[.int .i64 0, .int .i64 24, .int .i64 0, .int .i64 1, .int .i64 256, .int .i64 24, .int .i64 2, .int .i64 65536, .int .i64 25, .int .i64 4, .int .i64 4294967296, .int .i64 26, .int .i64 8, .int .i64 281474976710656, .int .i64 27]) (.int .i64 (i : Int))).run Tryd.prog w = .ok (.agg #[.int .i64 (roomW i : Int), .int .i64 (roomM i : Int), .int .i64 (roomX i : Int)]) w := by
  match i, h with
  | 0, _ => exact roomsAt0 w
  | 1, _ => exact roomsAt1 w
  | 2, _ => exact roomsAt2 w
  | 3, _ => exact roomsAt3 w
  | 4, _ => exact roomsAt4 w

/-- The rooms that fit, of the first k. -/
def fitsL (n k : Nat) : List Nat := (List.range k).filter fun i => decide (n < roomM i)
theorem fitsL_yes {n k : Nat} (h : n < roomM k) : fitsL n (k + 1) = fitsL n k ++ [k] := by rw [fitsL, List.range_succ, List.filter_append]; simp [h, fitsL]
theorem fitsL_no {n k : Nat} (h : ¬ n < roomM k) : fitsL n (k + 1) = fitsL n k := by rw [fitsL, List.range_succ, List.filter_append]; simp [h, fitsL]

theorem fits_any (n : Int) (w : World) :
    Calls Tryd.prog 31 #[.int .i64 n] w fun e w' =>
      e = .returned (.func (.func 38) #[] #[.pointer (some ⟨w.heap.size, 0, none⟩)]) ∧ w.alloc (.cells #[.int .i64 n] 3) = w' := by
  go_enter Tryd.func31, Tryd.ntmps31
  go_wp2
  go_ret
  exact ⟨rfl, rfl⟩

/-- The table of rooms lies where it lay. -/
def RoomsAt (w : World) : Prop := ∀ k v, [0, 24, 0, 1, 256, 24, 2, 65536, 25, 4, 4294967296, 26, 8, 281474976710656, 27][k]? = some v → w.cell? ⟨4, k, none⟩ = some (.int .i64 v)

set_option maxRecDepth 100000 in
set_option maxHeartbeats 1000000 in
theorem fits_seq (n : Nat) (hn : n ≤ 9223372036854775807) (Bn m : Nat) :
    SeqM Fence.wide m Tryd.prog 38 #[.pointer (some ⟨Bn, 0, none⟩)] (fun i : Nat => #[roomV i])
      (fun A B => B.heap[Bn]? = A.heap[Bn]?) (fun A B => ∃ o, B = A.alloc o) (fun pre i => i < 5 ∧ n < roomM i ∧ pre = fitsL n i) (fun xs => xs = fitsL n 5) (fun _ => True)
      (fun W => Boxed W Bn 3 (.int .i64 (n : Int)) ∧ RoomsAt W) := by
  rintro l J Jx W ⟨hbn, hrm⟩ hJ hJx hY h0
  have r0 := hrm 0 _ rfl
  have r1 := hrm 1 _ rfl
  have r2 := hrm 2 _ rfl
  have r3 := hrm 3 _ rfl
  have r4 := hrm 4 _ rfl
  have r5 := hrm 5 _ rfl
  have r6 := hrm 6 _ rfl
  have r7 := hrm 7 _ rfl
  have r8 := hrm 8 _ rfl
  have r9 := hrm 9 _ rfl
  have r10 := hrm 10 _ rfl
  have r11 := hrm 11 _ rfl
  have r12 := hrm 12 _ rfl
  have r13 := hrm 13 _ rfl
  have r14 := hrm 14 _ rfl
  clear hrm
  refine callsIn_of_wp Tryd.func38 rfl trivial ?_ rfl
  simp only [Tryd.ntmps38, List.size_toArray, List.length_cons, List.length_nil, Nat.reduceAdd, Nat.reduceSub, Array.replicate_succ, Array.replicate_zero, List.push_toArray, List.append_toArray, List.nil_append, List.cons_append]
  refine wpIn_scope (wpIn_seq (wpIn_label ?_))
  gi_wp2
  clear r0 r1 r2 r3 r4 r5 r6 r7 r8 r9 r10 r11 r12 r13 r14
  gi_loopw [6] (fun i wr => ∃ k : Nat, k ≤ 5 ∧ i = .int .i64 (k : Int) ∧ J (fitsL n k) wr ∧ Boxed wr Bn 3 (.int .i64 (n : Int))) (fun i _ => 5 - (intOf i).toNat)
  case atStart => exact ⟨0, Nat.zero_le _, rfl, h0, hbn⟩
  case round =>
    obtain ⟨k, hk, rfl, hJk, hbk⟩ := hrel
    have cn := hbk.cell
    have hbl := hbk.lt
    by_cases hlt : k < 5
    · have hidx := roomsAt k hlt
      have hy0 := fun A hA hfit => hY (fitsL n k) k A hA ⟨hlt, hfit, rfl⟩
      unfold roomV at hy0
      dsimp only at hy0
      have HYes := Lib.hid (@fitsL_yes n k)
      have HNo := Lib.hid (@fitsL_no n k)
      generalize roomW k = rw_ at hidx hy0
      generalize roomX k = rx at hidx hy0
      generalize roomM k = rm at hidx hy0 HYes HNo
      have cn2 : (wr.alloc (.cells #[.int .i64 (rw_ : Int), .int .i64 (rm : Int), .int .i64 (rx : Int)] 64)).cell? ⟨Bn, 0, none⟩ = some (.int .i64 (n : Int)) := (World.cell?_alloc_lt _ _ _ hbl).trans cn
      by_cases hfit : n < rm
      · have hf1 : decide ((n : Int) < (rm : Int)) = true := by simp; exact hfit
        have hy := hy0 _ (hJ _ _ _ hJk ⟨.cells #[.int .i64 (rw_ : Int), .int .i64 (rm : Int), .int .i64 (rx : Int)] 64, rfl⟩) hfit
        obtain ⟨fnn, tmps, assign, body, hy, hR⟩ := hy
        clear hy0
        gi_wp2
        refine ⟨fun hd => (by cases hd), hR.mono ?_⟩
        rintro e W3 (⟨rfl, hJ3, hk3⟩ | ⟨rfl, hJx3⟩)
        · have hb3 := boxed_kept (hbk.alloc _) hk3
          gi_wp2
          go_roundw
          case rel => exact ⟨k + 1, by omega, by go_num, by rw [HYes.out hfit]; exact hJ3, hb3⟩
          case measure => simp [intOf]; omega
        · gi_wp2
          simp only [Exit.noGoto]
          go_end0
          exact ⟨⟨_, rfl⟩, .inr ⟨_, trivial, hJx3⟩⟩
      · have hf1 : decide ((n : Int) < (rm : Int)) = false := by simp; omega
        clear hy0
        gi_wp2
        refine ⟨fun _ h => (by cases h), ?_⟩
        gi_wp2
        go_roundw
        case rel => exact ⟨k + 1, by omega, by go_num, by rw [HNo.out hfit]; exact hJ _ _ _ hJk ⟨_, rfl⟩, hbk.alloc _⟩
        case measure => simp [intOf]; omega
    · gi_wp2
      simp only [Exit.noGoto]
      go_end0
      obtain rfl : k = 5 := by omega
      exact ⟨⟨_, rfl⟩, .inl ⟨_, rfl, hJk⟩⟩

end Go.Proofs.YtfkekdpppcidbaaDoor
