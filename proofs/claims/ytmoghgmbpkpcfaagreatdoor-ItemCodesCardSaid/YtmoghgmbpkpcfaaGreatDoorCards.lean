/-
  DERIVED. GIVEN WITH THE SEED: THE CARDS: each row of YtmoghgmbpkpcfaaGreatDoorRows.lean that lists a variable, with what it lists TIED to the program's text (the seventh form; the later family's looks); each row that meets fmt, with fmt's text TOLD by the authors' own Lean function (tested against real Go, not proved from fmt's source: count such statements apart). THE CARD IS WHAT COUNTS. Prove the row's statement (the work); the ties are given (YtmoghgmbpkpcfaaGreatDoorTie.lean); close each card by the builder's one call (the guide's Derived/Test/ToyasCard.lean, 'card_holds'). Laid BY PROGRAM, IN A SANDBOX (cutbox-door.mjs). By AI agents, Wed Nov 11 2026. No macro, syntax, notation, axiom, sorry.
-/
import Derived.Test.YtmoghgmbpkpcfaaGreatDoorRows
import GoSem.ClaimSeven
namespace Go.Proofs.YtmoghgmbpkpcfaaGreatDoor
namespace Rows

/-- THE TIED CARD OF 'postriderlaw04.ItemCodes'. -/
def itemCodesCard : Claim7 := { stood := { row := itemCodesRow, standIns := [], harness := (true, "913a262084bae81ad0048aa3303e42843f3fd5ebbf929cb704e2b7c17c18a904"), looks := true }, kinds := [], alts := [], laidByText := true, laidKinds := [.handle, .sentinel, .sentinel, .sentinel, .sentinel, .sentinel, .sentinel, .sentinel, .data], laidTests := true, laidLooks := .later }
def ItemCodesCardSaid : Prop := Claim7.holds Tryz.pinned (.plain (OpenSpec.ofChange itemCodesSpec)) itemCodesCard

/-- THE SECOND FORM's CARD OF 'postriderlaw04.ItemCodes'. -/
def itemCodesUptoCard : Claim7 := { stood := { row := itemCodesUptoRow, standIns := [], harness := (true, "913a262084bae81ad0048aa3303e42843f3fd5ebbf929cb704e2b7c17c18a904"), looks := true }, kinds := [], alts := [], laidByText := true, laidKinds := [.handle, .sentinel, .sentinel, .sentinel, .sentinel, .sentinel, .sentinel, .sentinel, .data], laidTests := true, laidLooks := .later }
def ItemCodesUptoCardSaid : Prop := Claim7.holds Tryz.pinned (.plain (OpenSpec.upto itemCodesSpec)) itemCodesUptoCard
end Rows
end Go.Proofs.YtmoghgmbpkpcfaaGreatDoor
