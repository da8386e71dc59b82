/-
  Package nums: the walk of Take. Conditions: the listed variables hold three different errors of errors.New's make ('NInv').
-/
import Derived.Test.YtlkghcfjcdeokaaDoorNumsB
import Derived.Test.YtlkghcfjcdeokaaDoorNumsM
namespace Go.Proofs.YtlkghcfjcdeokaaDoor
open Go.RowKit

theorem okWidth_iff {n : Int} : okWidth n = true ↔ 1 ≤ n ∧ n ≤ 8 := by simp [okWidth]

theorem take_succ_at (s : ByteArray) (p m k : Nat) (h : p + k < s.size) (hk : k < m) :
    ((s.data.toList.drop p).take m).take (k + 1) = ((s.data.toList.drop p).take m).take k ++ [s[p + k]] := by
  rw [List.take_take, List.take_take, Nat.min_eq_left (by omega), Nat.min_eq_left (by omega), List.take_succ_eq_append_getElem (by simp; omega)]
  simp
  rfl

theorem take_wrap (s : ByteArray) (p m k : Nat) (L : List UInt8) (hL : (s.data.toList.drop ((p : Int)).toNat).take ((m : Int)).toNat = L) (h : p + k < s.size) (hk : k < m) (hv : val (L.take k) ≤ 281474976710655) :
    wrap64 ((val (L.take k) : Int) * 256 + wrap64 (s[p + k].toNat : Int)) = ((val (L.take (k + 1)) : Nat) : Int) := by
  have h1 := take_succ_at s p m k h hk
  simp only [Int.toNat_natCast] at hL
  rw [hL] at h1
  rw [h1, val_snoc]
  have hb := s[p + k].toNat_lt
  rw [IntWalk.wrap64_in (s[p + k].toNat : Int) ⟨by omega, by omega⟩, IntWalk.wrap64_in _ ⟨by omega, by omega⟩]
  omega

/-- The number that stands there, and what is told. -/
def takeN (l : List UInt8) : Int := if val l ≤ 281474976710655 then (val l : Int) else 0
def takeE (l : List UInt8) : Int := if val l ≤ 281474976710655 then 0 else 10

end Go.Proofs.YtlkghcfjcdeokaaDoor
