/-
  What the rows of chapter 13 list, for the walks: the errors of package signs. Conditions: as the theorems' own hypotheses say.
-/
import Derived.Test.YtinflolpcemnhaaDoorSent
import Derived.Test.YtinflolpcemnhaaDoorSignsN
import Derived.Test.YtinflolpcemnhaaDoorCards
import Derived.Test.YtinflolpcemnhaaDoorTie
import Derived.ChangeSame
import Derived.ChangeVars
import Derived.JoinedOf
import Derived.RowKit
import Derived.RowKitTokens
import Derived.LaidLaws
import Derived.LaidSub
import Derived.LaidMore
import Derived.ProofKit
import Derived.OpenShut
import Derived.Carry
import Derived.MakeChecks
import Derived.Stop.Joined
import Derived.Stop.LaidTwo
import Derived.SevenTiedAt
namespace Go.Proofs.YtinflolpcemnhaaDoor
open Go.ChangeShapes Go.WideShapes Go.ChangeAt Go.WideMaps Go.WideElems Go.RowKit

theorem own : ownKnob Tryd.prog.godebug = none := by kernel_rfl
theorem getD_inj (l : List Addr) (d : Addr) (h : l.Nodup) (i j : Nat) (hi : i < l.length) (hj : j < l.length) (e : l.getD i d = l.getD j d) : i = j := by
  have key : ∀ (l : List Addr), l.Nodup → ∀ i j, i < l.length → j < l.length → l.getD i d = l.getD j d → i = j := by
    intro l
    induction l with
    | nil => intro _ i _ hi; simp at hi
    | cons a r ih =>
      intro hn i j hi hj e
      obtain ⟨hna, hnr⟩ := List.nodup_cons.1 hn
      have mem : ∀ k, k < r.length → r.getD k d ∈ r := fun k hk => by
        rw [List.getD, List.getElem?_eq_getElem hk]
        exact List.getElem_mem hk
      cases i with
      | zero =>
        cases j with
        | zero => rfl
        | succ j => exact absurd (show a ∈ r by rw [show a = r.getD j d from e]; exact mem j (by simpa using hj)) hna
      | succ i =>
        cases j with
        | zero => exact absurd (show a ∈ r by rw [show a = r.getD i d from e.symm]; exact mem i (by simpa using hi)) hna
        | succ j => rw [ih hnr i j (by simpa using hi) (by simpa using hj) e]
  exact key l h i j hi hj e

/-- WHAT THE CONDITION GIVES THE WALKS: the errors, each another one. -/
theorem inv_of_laid {W : World} (h : laidMetH Tryd.prog Rows.signsFlagsRow.laid W) : ∃ A, GInv W A := by
  obtain ⟨av, h1, h2, h3⟩ := sent_of_laid (W := W) [("postrider/signs.errArg", 2, [110, 111, 32, 102, 108, 97, 103, 115]), ("postrider/signs.errNum", 4, [110, 111, 32, 110, 117, 109, 98, 101, 114]), ("postrider/signs.errAccepted", 0, [97, 99, 99, 101, 112, 116, 101, 100]), ("postrider/signs.errSingle", 1, [110, 111, 116, 32, 115, 105, 110, 103, 108, 101]), ("postrider/signs.errTimed", 3, [116, 105, 109, 101, 100]), ("postrider/signs.errPassed", 6, [112, 97, 115, 115, 101, 100]), ("postrider/signs.errNamed", 7, [110, 97, 109, 101, 100]), ("postrider/signs.errTime", 5, [110, 111, 116, 32, 119, 104, 111, 108, 101])]
    Rows.signsFlagsRow.laid rfl (by kernel_rfl) h (List.forall_mem_cons.2 ⟨⟨by kernel_rfl, by kernel_rfl⟩, List.forall_mem_cons.2 ⟨⟨by kernel_rfl, by kernel_rfl⟩, List.forall_mem_cons.2 ⟨⟨by kernel_rfl, by kernel_rfl⟩, List.forall_mem_cons.2 ⟨⟨by kernel_rfl, by kernel_rfl⟩, List.forall_mem_cons.2 ⟨⟨by kernel_rfl, by kernel_rfl⟩, List.forall_mem_cons.2 ⟨⟨by kernel_rfl, by kernel_rfl⟩, List.forall_mem_cons.2 ⟨⟨by kernel_rfl, by kernel_rfl⟩, List.forall_mem_cons.2 ⟨⟨by kernel_rfl, by kernel_rfl⟩, fun _ h => by cases h⟩⟩⟩⟩⟩⟩⟩⟩)
  match av, h1, h2, h3 with
  | [a0, a1, a2, a3, a4, a5, a6, a7], _, h2, h3 =>
    have c0 := h3 2 a0 (by simp)
    have c1 := h3 4 a1 (by simp)
    have c2 := h3 0 a2 (by simp)
    have c3 := h3 1 a3 (by simp)
    have c4 := h3 3 a4 (by simp)
    have c5 := h3 6 a5 (by simp)
    have c6 := h3 7 a6 (by simp)
    have c7 := h3 5 a7 (by simp)
    refine ⟨fun k => [a0, a1, a2, a3, a4, a5, a6, a7].getD k a0, c0.1, c1.1, c2.1, c3.1, c4.1, c5.1, c6.1, c7.1, fun k hk => ?_, fun i j hi hj e => getD_inj _ a0 h2 i j hi hj e⟩
    match k, hk with
    | 0, _ => exact c0.2
    | 1, _ => exact c1.2
    | 2, _ => exact c2.2
    | 3, _ => exact c3.2
    | 4, _ => exact c4.2
    | 5, _ => exact c5.2
    | 6, _ => exact c6.2
    | 7, _ => exact c7.2

/-- The door's own heap meets the condition. -/
theorem door_met (os : Os) (args : Array Value) : laidMetH Tryd.prog Rows.signsFlagsRow.laid ((World.doorLaid Tryd.prog 400 os).forCall (fun _ _ => 0) ⟨#[], args, []⟩).memory :=
  laidMetH_of_parts3 (fuel := 8) (laidMet_of_run' 8 (by kernel_rfl) (by kernel_rfl)) (by kernel_rfl) (by kernel_rfl)

theorem i64_bounds {n : Int} (h : (Lit.int .i64 n).wf = true) : -9223372036854775808 ≤ n ∧ n ≤ 9223372036854775807 := by
  have h1 : (decide (IntKind.i64.min ≤ n) && decide (n ≤ IntKind.i64.max)) = true := h
  rw [Bool.and_eq_true, decide_eq_true_eq, decide_eq_true_eq, show IntKind.i64.min = -9223372036854775808 by decide, show IntKind.i64.max = 9223372036854775807 by decide] at h1
  exact h1

end Go.Proofs.YtinflolpcemnhaaDoor
