/-
  What the rows of chapter 18 list, for the walks: the handle of the type error, three errors of nums; calls that came in. Conditions: as the theorems' own hypotheses say.
-/
import Derived.Test.YtlkghcfjcdeokaaDoorDkR
import Derived.Test.YtlkghcfjcdeokaaDoorDkU
import Derived.Test.YtlkghcfjcdeokaaDoorTab
import Derived.ChangeSlices
import Derived.Test.YtlkghcfjcdeokaaDoorCards
import Derived.Test.YtlkghcfjcdeokaaDoorTie
import Derived.ChangeSame
import Derived.ChangeVars
import Derived.JoinedOf
import Derived.RowKit
import Derived.RowKitTokens
import Derived.LaidLaws
import Derived.LaidSub
import Derived.LaidMore
import Derived.ProofKit
import Derived.OpenShut
import Derived.Carry
import Derived.MakeChecks
import Derived.Stop.Joined
import Derived.Stop.LaidTwo
import Derived.SevenTiedAt
namespace Go.Proofs.YtlkghcfjcdeokaaDoor
open Go.ChangeShapes Go.WideShapes Go.ChangeAt Go.WideMaps Go.WideElems Go.RowKit

theorem own : ownKnob Tryd.prog.godebug = none := by kernel_rfl

/-- The errors among the listed variables, beside those that hold a handle. -/
theorem sent_of_laid_h {W : World} (l : List (String × Nat × List UInt8)) (L : List (String × DataW Unit)) (hL : (L.filter fun x => x.2.handleName?.isNone) = l.map fun x => (x.1, .iface "*errors.errorString" (.ptr (.agg [.lit (.string x.2.2)]))))
    (h : laidMetH Tryd.prog L W) (hg : ∀ x ∈ l, Tryd.prog.globalNamed x.1 = some x.2.1 ∧ (Tryd.prog.globals[x.2.1]?).map (·.type) = some 62) :
    ∃ av : List Addr, av.length = l.length ∧ av.Nodup ∧ ∀ g a, (g, a) ∈ (l.map (·.2.1)).zip av → W.cell? ⟨g, 0, none⟩ = some (ErrV a) ∧ Plain W a := by
  have h := (laidMetH_iff.1 h).1
  rw [hL] at h
  obtain ⟨ps, h1, h2, h3⟩ := h
  obtain ⟨av, k1, k2, _, k4⟩ := sent_of_vars l ps h1 h2 h3 hg
  exact ⟨av, k1, k2, k4⟩

theorem errs_of_laid {W : World} (h : laidMetH Tryd.prog Rows.diskPlaysRow.laid W) : ∃ av : List Addr, av.length = 3 ∧ av.Nodup ∧ ∀ g a, (g, a) ∈ [2, 3, 1].zip av → W.cell? ⟨g, 0, none⟩ = some (ErrV a) ∧ Plain W a := by
  obtain ⟨av, h1, h2, h3⟩ := sent_of_laid_h (W := W) [("postrider/nums.errWidth", 2, [110, 111, 32, 119, 105, 100, 116, 104]), ("postrider/nums.errNum", 3, [110, 111, 32, 110, 117, 109, 98, 101, 114]), ("postrider/nums.errShort", 1, [116, 111, 111, 32, 115, 104, 111, 114, 116])]
    Rows.diskPlaysRow.laid (by rfl) h (List.forall_mem_cons.2 ⟨⟨by kernel_rfl, by kernel_rfl⟩, List.forall_mem_cons.2 ⟨⟨by kernel_rfl, by kernel_rfl⟩, List.forall_mem_cons.2 ⟨⟨by kernel_rfl, by kernel_rfl⟩, fun _ h => by cases h⟩⟩⟩)
  exact ⟨av, h1, h2, h3⟩
theorem name_error : (List.range Tryd.prog.types.size).all (fun t => !(Tryd.prog.rowNamed t [101, 114, 114, 111, 114]) || t == 62) = true := by kernel_rfl
theorem handle_of_laid {W : World} (h : laidMetH Tryd.prog Rows.diskPlaysRow.laid W) : SInv W := by
  have h := (laidMetH_iff.1 h).2
  have h1 := h ("errors.errorType", Rows.laid_errors_errorType) (List.mem_filter.2 ⟨by simp [Rows.diskPlaysRow], by kernel_rfl⟩)
  obtain ⟨name, u, ty, h2, h3, h4, h5, h6⟩ := (show ∃ name u ty, (Rows.laid_errors_errorType : DataW Unit).handleName? = some name ∧ (Tryd.prog.cutTypes.find? (·.1 == "internal/reflectlite.rtype")).map (·.2) = some u ∧ ty < Tryd.prog.types.size ∧ Tryd.prog.rowNamed ty name = true ∧
      W.var? Tryd.prog "errors.errorType" = some #[.iface u (.agg #[typeHandle Tryd.prog ty])] from h1)
  have h7 : (Rows.laid_errors_errorType : DataW Unit).handleName? = some [101, 114, 114, 111, 114] := by kernel_rfl
  obtain rfl := Option.some.inj (h7.symm.trans h2)
  have h8 : (Tryd.prog.cutTypes.find? (·.1 == "internal/reflectlite.rtype")).map (·.2) = some 112 := by kernel_rfl
  obtain rfl := Option.some.inj (h8.symm.trans h3)
  have h9 := List.all_eq_true.1 name_error ty (List.mem_range.2 h4)
  rw [h5] at h9
  obtain rfl : ty = 62 := by simpa using h9
  have hg : Tryd.prog.globalNamed "errors.errorType" = some 0 := by kernel_rfl
  have h10 := World.var?_cell hg h6 0
  unfold SInv
  rw [h10]
  rfl
theorem inv_of_laid {W : World} (h : laidMetH Tryd.prog Rows.diskPlaysRow.laid W) : ∃ aN aW aS, DInv W aN aW aS := by
  obtain ⟨av, h1, h2, h3⟩ := errs_of_laid h
  have hS := handle_of_laid h
  match av, h1, h2, h3 with
  | [aW, aN, aS], _, h2, h3 =>
    have cW := h3 2 aW (by simp)
    have cN := h3 3 aN (by simp)
    have cS := h3 1 aS (by simp)
    simp only [List.nodup_cons, List.mem_cons, List.not_mem_nil, or_false, not_or] at h2
    exact ⟨aN, aW, aS, hS, ⟨cN.1, cW.1, cS.1, cN.2, cW.2, cS.2, fun e => h2.1.1 e.symm, h2.2.1, h2.1.2⟩⟩

/-- The door's own heap meets the condition. -/
theorem door_met (os : Os) (args : Array Value) : laidMetH Tryd.prog Rows.diskPlaysRow.laid ((World.doorLaid Tryd.prog 400 os).forCall (fun _ _ => 0) ⟨#[], args, []⟩).memory :=
  laidMetH_of_parts3 (fuel := 8) (laidMet_of_run' 8 (by kernel_rfl) (by kernel_rfl)) (by kernel_rfl) (by kernel_rfl)

theorem ops_at {W : World} {A : Option Addr} {n : Nat} {T : List OI} (h1 : T.length = min n 40) (h2 : RdO W A T) (h3 : ∀ x ∈ T, OkNums x) : OpsAt W A n T :=
  ⟨h1, h2, fun x hx => (h3 x hx).1, fun x hx => ⟨(h3 x hx).2.1, (h3 x hx).2.2.1, (h3 x hx).2.2.2⟩⟩

end Go.Proofs.YtlkghcfjcdeokaaDoor
