/-
  Made as the laws see it, and a call of a desk of one's own. Conditions: as the theorems' own hypotheses say.
-/
import Derived.Test.YtmebjdbkngehiaaGreatDoorQhM
namespace Go.Proofs.YtmebjdbkngehiaaGreatDoor
open Go.RowKit Go.Shelf
structure ArgL (w : World) (A : Option Addr) (n : Nat) (xs : List QO) : Prop where
 len : xs.length = min n 30
 row : RdC w A xs
 in_ : ∀ x ∈ xs,x.In
end Go.Proofs.YtmebjdbkngehiaaGreatDoor
