/-
  A scope out of which the run jumps to one label, once. No condition.
-/
import Derived.Test.YtlabmomehjfjdaaDoorBase
import Derived.ScopeJumps
import Derived.WalkMore
namespace Go.Proofs.YtlabmomehjfjdaaDoor
open Go.RowKit

theorem wp_scope_once {P : Program} {a : Act} {w : World} {Q : Exit → Act → World → Prop} {c rest : Code} (l : Nat) (hf : findLabel c l = some rest)
    (first : c.wp P (Exit.jump l (fun a w => rest.wp P (Exit.noGoto Q) a w) Q) a w) : (Code.scope c).wp P Q a w :=
  wp_scope_jumps l (fun a w => rest.wp P (Exit.noGoto Q) a w) (fun _ _ => 0) hf first (fun _ _ h => Code.wp_mono (fun e a w hq => by
    cases e with
    | goto l => exact (hq : False).elim
    | _ => exact hq) h)

end Go.Proofs.YtlabmomehjfjdaaDoor
