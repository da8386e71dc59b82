/-
  DERIVED. GIVEN WITH THE SEED: THE CARDS: each row of YtmoghgmbpkpcfaaDoorRows.lean that lists a variable, with what it lists TIED to the program's text (the seventh form; the later family's looks); each row that meets fmt, with fmt's text TOLD by the authors' own Lean function (tested against real Go, not proved from fmt's source: count such statements apart). THE CARD IS WHAT COUNTS. Prove the row's statement (the work); the ties are given (YtmoghgmbpkpcfaaDoorTie.lean); close each card by the builder's one call (the guide's Derived/Test/ToyasCard.lean, 'card_holds'). Laid BY PROGRAM, IN A SANDBOX (cutbox-door.mjs). By AI agents, Wed Nov 11 2026. No macro, syntax, notation, axiom, sorry.
-/
import Derived.Test.YtmoghgmbpkpcfaaDoorRows
import GoSem.ClaimSeven
namespace Go.Proofs.YtmoghgmbpkpcfaaDoor
namespace Rows

/-- THE TIED CARD OF 'postriderlaw04.ItemLists'. -/
def itemListsCard : Claim7 := { stood := { row := itemListsRow, standIns := [], harness := (true, "c7c0932ce73c609c9d513311e10cdd2027fda01074dc0c074a37ded407245df9"), looks := true }, kinds := [], alts := [], laidByText := true, laidKinds := [.handle, .sentinel, .sentinel, .sentinel, .sentinel, .sentinel, .sentinel, .sentinel, .data], laidTests := true, laidLooks := .later }
def ItemListsCardSaid : Prop := Claim7.holds Tryd.pinned (.plain (OpenSpec.ofChange itemListsSpec)) itemListsCard

/-- THE TIED CARD OF 'postriderlaw04.ItemCuts'. -/
def itemCutsCard : Claim7 := { stood := { row := itemCutsRow, standIns := [], harness := (true, "c7c0932ce73c609c9d513311e10cdd2027fda01074dc0c074a37ded407245df9"), looks := true }, kinds := [], alts := [], laidByText := true, laidKinds := [.handle, .sentinel, .sentinel, .sentinel, .sentinel, .sentinel, .sentinel, .sentinel, .data], laidTests := true, laidLooks := .later }
def ItemCutsCardSaid : Prop := Claim7.holds Tryd.pinned (.plain (OpenSpec.ofChange itemCutsSpec)) itemCutsCard

/-- THE TIED CARD OF 'postriderlaw04.ItemParts'. -/
def itemPartsCard : Claim7 := { stood := { row := itemPartsRow, standIns := [], harness := (true, "c7c0932ce73c609c9d513311e10cdd2027fda01074dc0c074a37ded407245df9"), looks := true }, kinds := [], alts := [], laidByText := true, laidKinds := [.handle, .sentinel, .sentinel, .sentinel, .sentinel, .sentinel, .sentinel, .sentinel, .data], laidTests := true, laidLooks := .later }
def ItemPartsCardSaid : Prop := Claim7.holds Tryd.pinned (.plain (OpenSpec.ofChange itemPartsSpec)) itemPartsCard

/-- THE TIED CARD OF 'postriderlaw04.ItemBack'. -/
def itemBackCard : Claim7 := { stood := { row := itemBackRow, standIns := [], harness := (true, "c7c0932ce73c609c9d513311e10cdd2027fda01074dc0c074a37ded407245df9"), looks := true }, kinds := [], alts := [], laidByText := true, laidKinds := [.handle, .sentinel, .sentinel, .sentinel, .sentinel, .sentinel, .sentinel, .sentinel, .data], laidTests := true, laidLooks := .later }
def ItemBackCardSaid : Prop := Claim7.holds Tryd.pinned (.plain (OpenSpec.ofChange itemBackSpec)) itemBackCard

/-- THE TIED CARD OF 'postriderlaw04.ItemApart'. -/
def itemApartCard : Claim7 := { stood := { row := itemApartRow, standIns := [], harness := (true, "c7c0932ce73c609c9d513311e10cdd2027fda01074dc0c074a37ded407245df9"), looks := true }, kinds := [], alts := [], laidByText := true, laidKinds := [.handle, .sentinel, .sentinel, .sentinel, .sentinel, .sentinel, .sentinel, .sentinel, .data], laidTests := true, laidLooks := .later }
def ItemApartCardSaid : Prop := Claim7.holds Tryd.pinned (.plain (OpenSpec.ofChange itemApartSpec)) itemApartCard

/-- THE TIED CARD OF 'postriderlaw04.ItemWhole'. -/
def itemWholeCard : Claim7 := { stood := { row := itemWholeRow, standIns := [], harness := (true, "c7c0932ce73c609c9d513311e10cdd2027fda01074dc0c074a37ded407245df9"), looks := true }, kinds := [], alts := [], laidByText := true, laidKinds := [.handle, .sentinel, .sentinel, .sentinel, .sentinel, .sentinel, .sentinel, .sentinel, .data], laidTests := true, laidLooks := .later }
def ItemWholeCardSaid : Prop := Claim7.holds Tryd.pinned (.plain (OpenSpec.ofChange itemWholeSpec)) itemWholeCard

/-- THE SECOND FORM's CARD OF 'postriderlaw04.ItemLists'. -/
def itemListsUptoCard : Claim7 := { stood := { row := itemListsUptoRow, standIns := [], harness := (true, "c7c0932ce73c609c9d513311e10cdd2027fda01074dc0c074a37ded407245df9"), looks := true }, kinds := [], alts := [], laidByText := true, laidKinds := [.handle, .sentinel, .sentinel, .sentinel, .sentinel, .sentinel, .sentinel, .sentinel, .data], laidTests := true, laidLooks := .later }
def ItemListsUptoCardSaid : Prop := Claim7.holds Tryd.pinned (.plain (OpenSpec.upto itemListsSpec)) itemListsUptoCard

/-- THE SECOND FORM's CARD OF 'postriderlaw04.ItemCuts'. -/
def itemCutsUptoCard : Claim7 := { stood := { row := itemCutsUptoRow, standIns := [], harness := (true, "c7c0932ce73c609c9d513311e10cdd2027fda01074dc0c074a37ded407245df9"), looks := true }, kinds := [], alts := [], laidByText := true, laidKinds := [.handle, .sentinel, .sentinel, .sentinel, .sentinel, .sentinel, .sentinel, .sentinel, .data], laidTests := true, laidLooks := .later }
def ItemCutsUptoCardSaid : Prop := Claim7.holds Tryd.pinned (.plain (OpenSpec.upto itemCutsSpec)) itemCutsUptoCard

/-- THE SECOND FORM's CARD OF 'postriderlaw04.ItemParts'. -/
def itemPartsUptoCard : Claim7 := { stood := { row := itemPartsUptoRow, standIns := [], harness := (true, "c7c0932ce73c609c9d513311e10cdd2027fda01074dc0c074a37ded407245df9"), looks := true }, kinds := [], alts := [], laidByText := true, laidKinds := [.handle, .sentinel, .sentinel, .sentinel, .sentinel, .sentinel, .sentinel, .sentinel, .data], laidTests := true, laidLooks := .later }
def ItemPartsUptoCardSaid : Prop := Claim7.holds Tryd.pinned (.plain (OpenSpec.upto itemPartsSpec)) itemPartsUptoCard

/-- THE SECOND FORM's CARD OF 'postriderlaw04.ItemBack'. -/
def itemBackUptoCard : Claim7 := { stood := { row := itemBackUptoRow, standIns := [], harness := (true, "c7c0932ce73c609c9d513311e10cdd2027fda01074dc0c074a37ded407245df9"), looks := true }, kinds := [], alts := [], laidByText := true, laidKinds := [.handle, .sentinel, .sentinel, .sentinel, .sentinel, .sentinel, .sentinel, .sentinel, .data], laidTests := true, laidLooks := .later }
def ItemBackUptoCardSaid : Prop := Claim7.holds Tryd.pinned (.plain (OpenSpec.upto itemBackSpec)) itemBackUptoCard

/-- THE SECOND FORM's CARD OF 'postriderlaw04.ItemApart'. -/
def itemApartUptoCard : Claim7 := { stood := { row := itemApartUptoRow, standIns := [], harness := (true, "c7c0932ce73c609c9d513311e10cdd2027fda01074dc0c074a37ded407245df9"), looks := true }, kinds := [], alts := [], laidByText := true, laidKinds := [.handle, .sentinel, .sentinel, .sentinel, .sentinel, .sentinel, .sentinel, .sentinel, .data], laidTests := true, laidLooks := .later }
def ItemApartUptoCardSaid : Prop := Claim7.holds Tryd.pinned (.plain (OpenSpec.upto itemApartSpec)) itemApartUptoCard

/-- THE SECOND FORM's CARD OF 'postriderlaw04.ItemWhole'. -/
def itemWholeUptoCard : Claim7 := { stood := { row := itemWholeUptoRow, standIns := [], harness := (true, "c7c0932ce73c609c9d513311e10cdd2027fda01074dc0c074a37ded407245df9"), looks := true }, kinds := [], alts := [], laidByText := true, laidKinds := [.handle, .sentinel, .sentinel, .sentinel, .sentinel, .sentinel, .sentinel, .sentinel, .data], laidTests := true, laidLooks := .later }
def ItemWholeUptoCardSaid : Prop := Claim7.holds Tryd.pinned (.plain (OpenSpec.upto itemWholeSpec)) itemWholeUptoCard
end Rows
end Go.Proofs.YtmoghgmbpkpcfaaDoor
