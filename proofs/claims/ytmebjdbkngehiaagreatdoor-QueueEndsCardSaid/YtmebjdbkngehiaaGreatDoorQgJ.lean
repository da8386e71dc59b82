/-
  Package postriderlaw17: what all its laws begin with (shown, Cut, cut). Conditions: the listed variables hold what 'CInv' says. Package postriderlaw17: plain facts for its laws, and the step that all laws over one record begin with. Conditions: the listed variables hold what 'CInv' says.
-/
import Derived.Test.YtmebjdbkngehiaaGreatDoorQgI
import Derived.Deep.AppendLies
import Derived.Deep.DeepMust
namespace Go.Proofs.YtmebjdbkngehiaaGreatDoor
open Go.RowKit

/-- A record with its data's first two thousand and one bytes. -/
def RI.cut (r : RI) : RI := ⟨r.op, r.id, r.d.extract 0 (min r.d.size 2001)⟩

end Go.Proofs.YtmebjdbkngehiaaGreatDoor

namespace Go.Proofs.YtmebjdbkngehiaaGreatDoor
open Go.RowKit

theorem of_list (s : ByteArray) : (⟨s.data.toList.toArray⟩ : ByteArray) = s := ba_eq (by simp)
theorem ok_rec {r : RI} (h : r.ok = true) : okRec r.n ∧ r.n.i = r := by
  obtain ⟨op, id, d⟩ := r
  obtain ⟨h1, h2, h3, h4⟩ := rightV_iff.1 (show rightV op id d = true from h)
  obtain ⟨h5, h6⟩ := okNum_iff.1 h3
  refine ⟨⟨?_, ?_, ?_, ?_⟩, ?_⟩
  · show 1 ≤ op.toNat; omega
  · show op.toNat ≤ 9; omega
  · show id.toNat ≤ _; omega
  · show d.data.toList.length ≤ 2000; rw [list_size]; exact h4
  · show RI.mk ((op.toNat : Nat) : Int) ((id.toNat : Nat) : Int) ⟨d.data.toList.toArray⟩ = _
    rw [Int.toNat_of_nonneg (by omega), Int.toNat_of_nonneg (by omega), of_list]
theorem rec_ok {r : RecN} (h : okRec r) : r.i.ok = true ∧ r.i.n = r := by
  obtain ⟨op, id, d⟩ := r
  obtain ⟨h1, h2, h3, h4⟩ := h
  have hs : (⟨d.toArray⟩ : ByteArray).size = d.length := size_of d
  dsimp only at h1 h2 h3 h4
  refine ⟨rightV_iff.2 ⟨?_, ?_, okNum_iff.2 ⟨?_, ?_⟩, ?_⟩, ?_⟩
  · show (1 : Int) ≤ (op : Int); omega
  · show (op : Int) ≤ 9; omega
  · show (0 : Int) ≤ (id : Int); omega
  · show (id : Int) ≤ _; omega
  · show (⟨d.toArray⟩ : ByteArray).size ≤ _; omega
  · show RecN.mk ((op : Int).toNat) ((id : Int).toNat) d.toArray.toList = _
    rw [Int.toNat_natCast, Int.toNat_natCast]
theorem all_ok {ys : List RI} (h : ∀ x ∈ ys, x.ok = true) : ∀ r ∈ ys.map RI.n, okRec r := by
  intro r hr
  obtain ⟨x, hx, rfl⟩ := List.mem_map.1 hr
  exact (ok_rec (h x hx)).1
end Go.Proofs.YtmebjdbkngehiaaGreatDoor
