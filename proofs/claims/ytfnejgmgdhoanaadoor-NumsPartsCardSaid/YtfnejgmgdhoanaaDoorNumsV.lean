/-
  What the rows of chapter 01 list, for the walks: the three errors of package nums. Conditions: as the theorems' own hypotheses say.
-/
import Derived.Test.YtfnejgmgdhoanaaDoorSent
import Derived.Test.YtfnejgmgdhoanaaDoorNumsA
import Derived.Test.YtfnejgmgdhoanaaDoorCards
import Derived.Test.YtfnejgmgdhoanaaDoorTie
import Derived.ChangeSame
import Derived.ChangeVars
import Derived.JoinedOf
import Derived.RowKit
import Derived.RowKitTokens
import Derived.LaidLaws
import Derived.LaidSub
import Derived.LaidMore
import Derived.ProofKit
import Derived.OpenShut
import Derived.Carry
import Derived.MakeChecks
import Derived.Stop.Joined
import Derived.Stop.LaidTwo
import Derived.SevenTiedAt
namespace Go.Proofs.YtfnejgmgdhoanaaDoor
open Go.ChangeShapes Go.WideShapes Go.ChangeAt Go.WideMaps Go.WideElems Go.RowKit

theorem own : ownKnob Tryd.prog.godebug = none := by kernel_rfl

/-- WHAT THE CONDITION GIVES THE WALKS: the three errors, each another one. -/
theorem inv_of_laid {W : World} (h : laidMetH Tryd.prog Rows.numsTellsRow.laid W) : ∃ aN aW aS, NInv W aN aW aS := by
  obtain ⟨av, h1, h2, h3⟩ := sent_of_laid (W := W) [("postrider/nums.errWidth", 1, [110, 111, 32, 119, 105, 100, 116, 104]), ("postrider/nums.errNum", 0, [110, 111, 32, 110, 117, 109, 98, 101, 114]), ("postrider/nums.errShort", 2, [116, 111, 111, 32, 115, 104, 111, 114, 116])]
    Rows.numsTellsRow.laid rfl (by kernel_rfl) h
    (List.forall_mem_cons.2 ⟨⟨by kernel_rfl, by kernel_rfl⟩, List.forall_mem_cons.2 ⟨⟨by kernel_rfl, by kernel_rfl⟩, List.forall_mem_cons.2 ⟨⟨by kernel_rfl, by kernel_rfl⟩, fun _ h => by cases h⟩⟩⟩)
  match av, h1, h2, h3 with
  | [aW, aN, aS], _, h2, h3 =>
    have cW := h3 1 aW (by simp)
    have cN := h3 0 aN (by simp)
    have cS := h3 2 aS (by simp)
    simp only [List.nodup_cons, List.mem_cons, List.not_mem_nil, or_false, not_or] at h2
    exact ⟨aN, aW, aS, cN.1, cW.1, cS.1, cN.2, cW.2, cS.2, fun e => h2.1.1 e.symm, h2.2.1, h2.1.2⟩

/-- The door's own heap meets the condition. -/
theorem door_met (os : Os) (args : Array Value) : laidMetH Tryd.prog Rows.numsTellsRow.laid ((World.doorLaid Tryd.prog 400 os).forCall (fun _ _ => 0) ⟨#[], args, []⟩).memory :=
  laidMetH_of_parts3 (fuel := 8) (laidMet_of_run' 8 (by kernel_rfl) (by kernel_rfl)) (by kernel_rfl) (by kernel_rfl)

theorem i64_bounds {n : Int} (h : (Lit.int .i64 n).wf = true) : -9223372036854775808 ≤ n ∧ n ≤ 9223372036854775807 := by
  have h1 : (decide (IntKind.i64.min ≤ n) && decide (n ≤ IntKind.i64.max)) = true := h
  rw [Bool.and_eq_true, decide_eq_true_eq, decide_eq_true_eq, show IntKind.i64.min = -9223372036854775808 by decide, show IntKind.i64.max = 9223372036854775807 by decide] at h1
  exact h1
theorem str_bounds {s : ByteArray} (h : s.size ≤ maxLen) : s.size ≤ 9223372036854775807 := Nat.le_trans h (by decide)

end Go.Proofs.YtfnejgmgdhoanaaDoor
