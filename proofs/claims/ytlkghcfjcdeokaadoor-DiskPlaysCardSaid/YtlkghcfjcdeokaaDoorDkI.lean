/-
  Package disk: New. No condition.
-/
import Derived.Test.YtlkghcfjcdeokaaDoorDkH
import Derived.Laws.MakeOwn
namespace Go.Proofs.YtlkghcfjcdeokaaDoor
open Go.RowKit Go.Shelf

theorem New_no (k : Int) (w : World) (h : k < 1 ∨ 256 < k) : Calls Tryd.prog 11 #[.int .i64 k] w (Pure (.tuple #[.pointer none, .int .i64 2]) w) := by
  by_cases h1 : k < 1
  · go_enter Tryd.func11, Tryd.ntmps11
    go_wp2_with fail
    go_ret2
    exact ⟨rfl, rfl⟩
  · have h2 : (256 : Int) < k := by omega
    go_enter Tryd.func11, Tryd.ntmps11
    go_wp2_with fail
    go_ret2
    exact ⟨rfl, rfl⟩

theorem infoSec : (Tryd.prog.info? 70).map (fun i => (i.zero, i.size, i.bytes)) = some (some (.agg (Array.replicate 64 (.int .u8 0))), 64, 64) := by kernel_rfl

theorem made_zero (k : Nat) : madeCells (Value.agg (Array.replicate 64 (.int .u8 0))).cells (k * 64) = (cellsB (DN.new k).L.flatten).toArray := by
  rw [zeros_flat]
  apply Array.ext
  · rw [size_madeCells, List.size_toArray, cellsB_length, List.length_replicate, Nat.mul_comm]
  · intro i h1 h2
    rw [size_madeCells] at h1
    have hz : (Value.agg (Array.replicate 64 (.int .u8 0))).cells = Array.replicate 64 (.int .u8 0) := rfl
    have hi : i % 64 < 64 := Nat.mod_lt _ (by omega)
    simp only [madeCells, hz, Array.getElem_map, Array.getElem_range, Array.size_replicate, cellsB, List.getElem_toArray, List.getElem_map, List.getElem_replicate]
    rw [getElem!_pos _ _ (by rw [Array.size_replicate]; exact hi), Array.getElem_replicate]
    rfl

/-- What New hands back. -/
def NewRes (k : Nat) (w : World) (e : Ending) (w' : World) : Prop := ∃ p g, e = .returned (.tuple #[.pointer (some ⟨p, 0, none⟩), .int .i64 0]) ∧ w.heap.size ≤ p ∧ w.heap.size ≤ g ∧ DAt w' p g (DN.new k) ∧ Below w.heap.size w w'
theorem New_ok (k : Nat) (w : World) (h1 : 1 ≤ k) (h2 : k ≤ 256) : Calls Tryd.prog 11 #[.int .i64 (k : Int)] w (NewRes k w) := by
  obtain ⟨i0, hi0, hz0, hz1, hz2⟩ := info_parts infoSec
  have hmk := run_makeSlice (P := Tryd.prog) w 53 70 i0 _ Tryd.underlying53 hi0 hz0 .i64 .i64 (k : Int) (k : Int) (by omega) (Int.le_refl _) (by rw [hz1]; omega) (by rw [hz2]; omega) (by omega)
  rw [hz1, Int.toNat_natCast, made_zero] at hmk
  have i1 : ¬ (k : Int) < 1 := by omega
  have i2 : ¬ (256 : Int) < (k : Int) := by omega
  have hl : (DN.new k).L.length = k := by show (List.replicate k _).length = k; simp
  have q0 := Blk.new_ w 70 (cellsB (DN.new k).L.flatten).toArray
  have hn := ext_new w (.cells (cellsB (DN.new k).L.flatten).toArray 70)
  have hsz : (w.alloc (.cells (cellsB (DN.new k).L.flatten).toArray 70)).heap.size = w.heap.size + 1 := by simp
  generalize w.alloc (.cells (cellsB (DN.new k).L.flatten).toArray 70) = W at *
  have HQ := Lib.hid q0
  clear q0
  go_enter Tryd.func11, Tryd.ntmps11
  go_wp2_with fail
  go_ret2
  have hb : Blk (W.alloc (.cells #[.slice (some ⟨w.heap.size, 0, none⟩) k k, .int .i64 0, .int .i64 0, .bool false, .int .i64 0] 59)) (w.heap.size + 1) 59 #[.slice (some ⟨w.heap.size, 0, none⟩) k k, .int .i64 0, .int .i64 0, .bool false, .int .i64 0] := Blk.at_ hsz.symm
  refine ⟨w.heap.size + 1, w.heap.size, rfl, by omega, Nat.le_refl _, ⟨?_, HQ.out.alloc _, by omega, DN.new_fit k, by rw [hl]; exact h2, Nat.zero_le _, Nat.zero_le _⟩, ext_alloc hn _⟩
  show Blk _ _ _ #[.slice _ (DN.new k).L.length (DN.new k).L.length, _, _, _, _]
  rw [hl]
  exact hb

end Go.Proofs.YtlkghcfjcdeokaaDoor
