/-
  Package postriderlaw18: a sector of one byte (full). No condition.
-/
import Derived.Test.YtlkghcfjcdeokaaDoorDkI
import Derived.Test.YtlkghcfjcdeokaaDoorBs
import Derived.Test.YtlkghcfjcdeokaaDoorApp
namespace Go.Proofs.YtlkghcfjcdeokaaDoor
open Go.RowKit Go.Shelf

theorem infoB1 : (Tryd.prog.info? 5).map (fun i => (i.zero, i.size, i.bytes)) = some (some (.int .u8 0), 1, 1) := by kernel_rfl
set_option maxRecDepth 100000 in
theorem full_any (b : UInt8) (w : World) : Calls Tryd.prog 23 #[.int .u8 (b.toNat : Int)] w (Ret (.string ⟨(List.replicate 64 b).toArray⟩) w) := by
  obtain ⟨i0, hi0, hz0, hz1, hz2⟩ := info_parts infoB1
  go_enter Tryd.func23, Tryd.ntmps23
  go_wp2_with fail
  go_loopw [3, 4] (fun out i wr => ∃ k : Nat, k ≤ 64 ∧ i = .int .i64 (k : Int) ∧ wr.ownsRow w.heap.size 5 1 out k (Lib.strCells ⟨(List.replicate k b).toArray⟩) ∧ Below w.heap.size w wr) (fun _ i _ => 64 - (intOf i).toNat)
  case atStart => exact ⟨0, by omega, rfl, own_nil, Below.refl _ _⟩
  case round =>
    obtain ⟨k, hk, rfl, hown, hbe⟩ := hrel
    obtain ⟨A0, c0, rfl⟩ := own_form hown
    have hsz := hbe.size
    by_cases hlt : k < 64
    · have i1 : (k : Int) < 64 := by omega
      go_wp2_with (at_builtin; refine wpList_append_own _ rfl _ _ 60 rfl w.heap.size 5 i0 (.int .u8 0) 1 1 Tryd.underlying60 hi0 hz0 hz1 hz2 rfl (by omega) _ _ _ rfl (hown.alloc _) ⟨wr.heap.size, 0, none⟩ 1 1 [.int .u8 (b.toNat : Int)] rfl rfl (new_cells wr _ _) (by intro u hu; rw [List.mem_singleton] at hu; subst hu; rfl) (by unfold maxLen; omega) (by omega) (by simp; omega) ?_; intro v' w3 hown3 hgrow _)
      have hsn : Lib.strCells ⟨(List.replicate (k + 1) b).toArray⟩ = Lib.strCells ⟨(List.replicate k b).toArray⟩ ++ [.int .u8 (b.toNat : Int)] := by
        rw [List.replicate_succ', ← strCells_append]
        rfl
      rw [← hsn] at hown3
      have k2 := below_append (hbe.alloc hsz _) (hown.alloc _) (Nat.le_refl _) (Nat.le_refl _) hgrow
      obtain ⟨A1, c1, rfl⟩ := own_form hown3
      go_roundw
      case rel => exact ⟨k + 1, by omega, by go_num, hown3, k2⟩
      case measure => simp [intOf]; omega
    · obtain rfl : k = 64 := by omega
      obtain ⟨A1, c1, e, hB⟩ := bs_of_own hown
      injection e with e1 e2 e3
      subst e1 e3
      have hcv := conv_bs hB
      generalize (⟨(List.replicate 64 b).toArray⟩ : ByteArray) = F at *
      go_wp2_with fail
      go_ret
      exact ⟨rfl, hbe⟩

end Go.Proofs.YtlkghcfjcdeokaaDoor
