/-
  What the other seats' text of this name brings, for a seat whose code makes no errors by errors.New: imports, and two words that the common texts use. No condition.
-/
import Derived.WalkKit
import Derived.WalkSpells
import Derived.WalkLawsBesides
import Derived.Lib.Hide
import Derived.Test.YtcahfdhfdigjaaaDoorChecked
import Derived.LaidEql
import Derived.Stop.Asserts
import Derived.RowKitTokens
namespace Go.Proofs.YtcahfdhfdigjaaaDoor
open Go.RowKit Go.Extern.Stop Go.Stop Go.Extern

/-- A place as a value: no code of this seat makes such errors. -/
def ErrV (a : Addr) : Value := .pointer (some a)
/-- A place whose block holds cells without a mark. -/
def Plain (w : World) (b : Addr) : Prop := ∃ (c : Array Value) (t : TypeId), w.heap[b.block]? = some (.cells c t (0, 0))

end Go.Proofs.YtcahfdhfdigjaaaDoor
