/-
  Package postriderlaw17: what all its laws begin with (shown, Cut, cut), and more of the kind. Conditions: as the theorems' own hypotheses say.
-/
import Derived.Test.YtmebjdbkngehiaaGreatDoorQgI
import Derived.Deep.AppendLies
import Derived.Deep.DeepMust
namespace Go.Proofs.YtmebjdbkngehiaaGreatDoor
open Go.RowKit
theorem rec_ok {r : RecN} (h : okRec r) : r.i.ok = true ∧ r.i.n = r := by
 obtain ⟨op, id, d⟩ := r
 obtain ⟨h1, h2, h3, h4⟩ := h
 have hs : (⟨d.toArray⟩ : ByteArray).size = d.length := size_of d
 dsimp only at h1 h2 h3 h4
 refine ⟨rightV_iff.2 ⟨?_, ?_, okNum_iff.2 ⟨?_, ?_⟩, ?_⟩, ?_⟩
 ·show (1 : Int) ≤ (op : Int); omega
 ·show (op : Int) ≤ 9; omega
 ·show (0 : Int) ≤ (id : Int); omega
 ·show (id : Int) ≤ _; omega
 ·show (⟨d.toArray⟩ : ByteArray).size ≤ _; omega
 ·show RecN.mk ((op : Int).toNat) ((id : Int).toNat) d.toArray.toList = _
  rw [Int.toNat_natCast, Int.toNat_natCast]
end Go.Proofs.YtmebjdbkngehiaaGreatDoor
