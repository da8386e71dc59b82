/-
  What the rows list, for the walks: the errors, and what else stands there. Conditions: as the theorems' own hypotheses say.
-/
import Derived.Test.YtdijnffefapcfaaDoorTab
import Derived.Test.YtdijnffefapcfaaDoorCrcD
import Derived.ChangeSlices
import Derived.Test.YtdijnffefapcfaaDoorCards
import Derived.Test.YtdijnffefapcfaaDoorTie
import Derived.ChangeSame
import Derived.ChangeVars
import Derived.JoinedOf
import Derived.RowKit
import Derived.RowKitTokens
import Derived.LaidLaws
import Derived.LaidSub
import Derived.LaidMore
import Derived.ProofKit
import Derived.OpenShut
import Derived.Carry
import Derived.MakeChecks
import Derived.Stop.Joined
import Derived.Stop.LaidTwo
import Derived.SevenTiedAt
namespace Go.Proofs.YtdijnffefapcfaaDoor
open Go.ChangeShapes Go.WideShapes Go.ChangeAt Go.WideMaps Go.WideElems Go.RowKit

theorem own : ownKnob Tryd.prog.godebug = none := by kernel_rfl

theorem errs_of_laid {W : World} (h : laidMetH Tryd.prog Rows.crcSumsRow.laid W) : ∃ av : List Addr, av.length = 5 ∧ av.Nodup ∧ ∀ g a, (g, a) ∈ [4, 3, 5, 1, 2].zip av → W.cell? ⟨g, 0, none⟩ = some (ErrV a) ∧ Plain W a := by
  obtain ⟨av, h1, h2, h3⟩ := sent_of_laid_among (W := W) (fun x => x.1 != "postrider/crc.kinds") [("postrider/nums.errWidth", 4, [110, 111, 32, 119, 105, 100, 116, 104]), ("postrider/nums.errNum", 3, [110, 111, 32, 110, 117, 109, 98, 101, 114]), ("postrider/nums.errShort", 5, [116, 111, 111, 32, 115, 104, 111, 114, 116]), ("postrider/crc.errArg", 1, [110, 111, 32, 107, 105, 110, 100]), ("postrider/crc.errTable", 2, [110, 111, 32, 116, 97, 98, 108, 101])]
    Rows.crcSumsRow.laid rfl (by kernel_rfl) h (List.forall_mem_cons.2 ⟨⟨by kernel_rfl, by kernel_rfl⟩, List.forall_mem_cons.2 ⟨⟨by kernel_rfl, by kernel_rfl⟩, List.forall_mem_cons.2 ⟨⟨by kernel_rfl, by kernel_rfl⟩, List.forall_mem_cons.2 ⟨⟨by kernel_rfl, by kernel_rfl⟩, List.forall_mem_cons.2 ⟨⟨by kernel_rfl, by kernel_rfl⟩, fun _ h => by cases h⟩⟩⟩⟩⟩)
  exact ⟨av, h1, h2, h3⟩

/-- The door's own heap meets the condition. -/
theorem door_met (os : Os) (args : Array Value) : laidMetH Tryd.prog Rows.crcSumsRow.laid ((World.doorLaid Tryd.prog 400 os).forCall (fun _ _ => 0) ⟨#[], args, []⟩).memory :=
  laidMetH_of_parts3 (fuel := 8) (laidMet_of_run' 8 (by kernel_rfl) (by kernel_rfl)) (by kernel_rfl) (by kernel_rfl)

theorem i64_bounds {n : Int} (h : (Lit.int .i64 n).wf = true) : -9223372036854775808 ≤ n ∧ n ≤ 9223372036854775807 := by
  have h1 : (decide (IntKind.i64.min ≤ n) && decide (n ≤ IntKind.i64.max)) = true := h
  rw [Bool.and_eq_true, decide_eq_true_eq, decide_eq_true_eq, show IntKind.i64.min = -9223372036854775808 by decide, show IntKind.i64.max = 9223372036854775807 by decide] at h1
  exact h1
theorem str_bounds {s : ByteArray} (h : s.size ≤ maxLen) : s.size ≤ 9223372036854775807 := Nat.le_trans h (by decide)

theorem inv_of_laid {W : World} (h : laidMetH Tryd.prog Rows.crcSumsRow.laid W) : ∃ aA aT aN aW aS, CInv W aA aT aN aW aS := by
  obtain ⟨av, h1, h2, h3⟩ := errs_of_laid h
  have hk := rows_of_laid (P := Tryd.prog) (name := "postrider/crc.kinds") (rows := [[0, 0], [1, 2], [2, 4]]) (g := 0) rfl (by kernel_rfl) h (by kernel_rfl) (by kernel_rfl) Tryd.underlying59 Tryd.underlying58 (by kernel_rfl) (by kernel_rfl)
  have hc : Tryd.prog.cellsOf 58 = 2 := by kernel_rfl
  rw [hc] at hk
  match av, h1, h2, h3 with
  | [aW, aN, aS, aA, aT], _, h2, h3 =>
    have cW := h3 4 aW (by simp)
    have cN := h3 3 aN (by simp)
    have cS := h3 5 aS (by simp)
    have cA := h3 1 aA (by simp)
    have cT := h3 2 aT (by simp)
    simp only [List.nodup_cons, List.mem_cons, List.not_mem_nil, or_false, not_or] at h2
    exact ⟨aA, aT, aN, aW, aS, cA.1, cT.1, hk 0 0 _ _ rfl rfl (by decide), hk 0 1 _ _ rfl rfl (by decide), hk 1 0 _ _ rfl rfl (by decide), hk 1 1 _ _ rfl rfl (by decide), hk 2 0 _ _ rfl rfl (by decide), hk 2 1 _ _ rfl rfl (by decide),
      cA.2, cT.2, h2.2.2.2.1, ⟨cN.1, cW.1, cS.1, cN.2, cW.2, cS.2, fun e => h2.1.1 e.symm, h2.2.1.1, h2.1.2.1⟩⟩

theorem u32_bounds {n : Int} (h : (Lit.int .u32 n).wf = true) : 0 ≤ n ∧ n ≤ 4294967295 := by
  have h1 : (decide (IntKind.u32.min ≤ n) && decide (n ≤ IntKind.u32.max)) = true := h
  rw [Bool.and_eq_true, decide_eq_true_eq, decide_eq_true_eq, show IntKind.u32.min = 0 by decide, show IntKind.u32.max = 4294967295 by decide] at h1
  exact h1
/-- A slice of numbers that came in. -/
theorem open_u32s {H : Type} {enc : TypeId × Value → H} {W : World} {A : Option Addr} {len cap : Nat} {d : DataW H} {p : List MemPlace} (h : DataW.Trod enc Tryd.prog W 0 (fun _ => true) true 22 (.slice A len cap) d p) (k : Nat) (hk : k ≤ len) :
    ∃ T : List Nat, T.length = k ∧ RdU W A T ∧ (∀ x ∈ T, x < 4294967296) ∧ len ≤ cap ∧ cap ≤ 9223372036854775807 ∧ (A = none → len = 0 ∧ cap = 0) := by
  obtain ⟨fuel, hf⟩ := h
  rcases open_ints Tryd.underlying22 Tryd.underlying29 (by kernel_rfl) hf with ⟨hcs, hx⟩ | ⟨a, len', cap', zs, hcs, _, hl, hm, hz, hx, hcell, hwz⟩
  · simp [Value.cells] at hcs
    obtain ⟨rfl, rfl, rfl⟩ := hcs
    obtain rfl : k = 0 := by omega
    exact ⟨[], rfl, fun hh => absurd hh (by simp), fun x hx => by simp at hx, Nat.le_refl _, by omega, fun _ => ⟨rfl, rfl⟩⟩
  · simp [Value.cells] at hcs
    obtain ⟨rfl, rfl, rfl⟩ := hcs
    have hzl : zs.length = cap := by simpa using hz
    refine ⟨(zs.take k).map Int.toNat, by simp; omega, fun hpos => ?_, fun x hx => ?_, hl, Nat.le_trans hm (by decide), fun e => by cases e⟩
    · have hkl : ((zs.take k).map Int.toNat).length = k := by simp; omega
      have c0 := hcell 0 (by omega)
      have hblk : (a.add 0).block = a.block := by simp [Addr.add]
      refine ⟨a, rfl, by have := World.block_lt_of_cell? W _ c0; rwa [hblk] at this, fun i hi => ?_⟩
      have hi' : i < zs.length := by omega
      have h1 := hcell i hi'
      have hg : zs.getD i 0 = zs[i] := by rw [List.getD, List.getElem?_eq_getElem hi']; rfl
      rw [hg] at h1
      rw [h1]
      have hw := (u32_bounds (hwz zs[i] (List.getElem_mem hi'))).1
      simp only [List.getElem_map, List.getElem_take]
      rw [Int.toNat_of_nonneg hw]
    · obtain ⟨z, hz', rfl⟩ := List.mem_map.1 hx
      have hw := u32_bounds (hwz z (List.mem_of_mem_take hz'))
      omega

end Go.Proofs.YtdijnffefapcfaaDoor
