/-
  What the rows list, for the walks: the handle of the type error; slices of numbers that came in. Conditions: as the theorems' own hypotheses say.
-/
import Derived.Test.YtcahfdhfdigjaaaDoorSdK
import Derived.Test.YtcahfdhfdigjaaaDoorCards
import Derived.Test.YtcahfdhfdigjaaaDoorTie
import Derived.ChangeSlices
import Derived.ChangeSame
import Derived.ChangeVars
import Derived.JoinedOf
import Derived.RowKit
import Derived.RowKitTokens
import Derived.LaidLaws
import Derived.LaidSub
import Derived.LaidMore
import Derived.ProofKit
import Derived.OpenShut
import Derived.Carry
import Derived.MakeChecks
import Derived.Stop.Joined
import Derived.Stop.LaidTwo
import Derived.SevenTiedAt
namespace Go.Proofs.YtcahfdhfdigjaaaDoor
open Go.ChangeShapes Go.WideShapes Go.ChangeAt Go.WideMaps Go.WideElems Go.RowKit

theorem own : ownKnob Tryd.prog.godebug = none := by kernel_rfl

theorem name_error : (List.range Tryd.prog.types.size).all (fun t => !(Tryd.prog.rowNamed t [101, 114, 114, 111, 114]) || t == 45) = true := by kernel_rfl
theorem inv_of_laid {W : World} (h : laidMetH Tryd.prog Rows.sdnvBackRow.laid W) : ∃ _u : Unit, SInv W := by
  have h := (laidMetH_iff.1 h).2
  have h1 := h ("errors.errorType", Rows.laid_errors_errorType) (List.mem_filter.2 ⟨List.mem_singleton.2 rfl, by kernel_rfl⟩)
  obtain ⟨name, u, ty, h2, h3, h4, h5, h6⟩ := (show ∃ name u ty, (Rows.laid_errors_errorType : DataW Unit).handleName? = some name ∧ (Tryd.prog.cutTypes.find? (·.1 == "internal/reflectlite.rtype")).map (·.2) = some u ∧ ty < Tryd.prog.types.size ∧ Tryd.prog.rowNamed ty name = true ∧
      W.var? Tryd.prog "errors.errorType" = some #[.iface u (.agg #[typeHandle Tryd.prog ty])] from h1)
  have h7 : (Rows.laid_errors_errorType : DataW Unit).handleName? = some [101, 114, 114, 111, 114] := by kernel_rfl
  obtain rfl := Option.some.inj (h7.symm.trans h2)
  have h8 : (Tryd.prog.cutTypes.find? (·.1 == "internal/reflectlite.rtype")).map (·.2) = some 82 := by kernel_rfl
  obtain rfl := Option.some.inj (h8.symm.trans h3)
  have h9 := List.all_eq_true.1 name_error ty (List.mem_range.2 h4)
  rw [h5] at h9
  obtain rfl : ty = 45 := by simpa using h9
  refine ⟨(), ?_⟩
  have hg : Tryd.prog.globalNamed "errors.errorType" = some 0 := by kernel_rfl
  have h10 := World.var?_cell hg h6 0
  unfold SInv
  rw [h10]
  rfl

/-- The door's own heap meets the condition. -/
theorem door_met (os : Os) (args : Array Value) : laidMetH Tryd.prog Rows.sdnvBackRow.laid ((World.doorLaid Tryd.prog 400 os).forCall (fun _ _ => 0) ⟨#[], args, []⟩).memory :=
  laidMetH_of_parts3 (fuel := 8) (laidMet_of_run' 8 (by kernel_rfl) (by kernel_rfl)) (by kernel_rfl) (by kernel_rfl)

theorem i64_bounds {n : Int} (h : (Lit.int .i64 n).wf = true) : -9223372036854775808 ≤ n ∧ n ≤ 9223372036854775807 := by
  have h1 : (decide (IntKind.i64.min ≤ n) && decide (n ≤ IntKind.i64.max)) = true := h
  rw [Bool.and_eq_true, decide_eq_true_eq, decide_eq_true_eq, show IntKind.i64.min = -9223372036854775808 by decide, show IntKind.i64.max = 9223372036854775807 by decide] at h1
  exact h1
theorem str_bounds {s : ByteArray} (h : s.size ≤ maxLen) : s.size ≤ 9223372036854775807 := Nat.le_trans h (by decide)

/-- A slice of numbers that came in. -/
theorem open_i64s {H : Type} {enc : TypeId × Value → H} {W : World} {A : Option Addr} {len cap : Nat} {d : DataW H} {p : List MemPlace} (h : DataW.Trod enc Tryd.prog W 0 (fun _ => true) true 31 (.slice A len cap) d p) (k : Nat) (hk : k ≤ len) :
    ∃ T : List Int, T.length = k ∧ RdI W A T ∧ len ≤ cap ∧ cap ≤ 9223372036854775807 ∧ (A = none → len = 0 ∧ cap = 0) := by
  obtain ⟨fuel, hf⟩ := h
  rcases open_ints Tryd.underlying31 Tryd.underlying3 (by kernel_rfl) hf with ⟨hcs, hx⟩ | ⟨a, len', cap', zs, hcs, _, hl, hm, hz, hx, hcell, hwz⟩
  · simp [Value.cells] at hcs
    obtain ⟨rfl, rfl, rfl⟩ := hcs
    obtain rfl : k = 0 := by omega
    exact ⟨[], rfl, fun hh => absurd hh (by simp), Nat.le_refl _, by omega, fun _ => ⟨rfl, rfl⟩⟩
  · simp [Value.cells] at hcs
    obtain ⟨rfl, rfl, rfl⟩ := hcs
    have hzl : zs.length = cap := by simpa using hz
    have hkl : (zs.take k).length = k := by simp; omega
    refine ⟨zs.take k, hkl, fun hpos => ?_, hl, Nat.le_trans hm (by decide), fun e => by cases e⟩
    have c0 := hcell 0 (by omega)
    have hblk : (a.add 0).block = a.block := by simp [Addr.add]
    refine ⟨a, rfl, by have := World.block_lt_of_cell? W _ c0; rwa [hblk] at this, fun i hi => ?_⟩
    have hi' : i < zs.length := by omega
    have h1 := hcell i hi'
    have hg : zs.getD i 0 = zs[i] := by rw [List.getD, List.getElem?_eq_getElem hi']; rfl
    rw [hg] at h1
    rw [h1]
    simp only [List.getElem_take]

end Go.Proofs.YtcahfdhfdigjaaaDoor
