/-
  DERIVED. GIVEN WITH THE SEED: THE CARDS: each row of YtfkekdpppcidbaaDoorRows.lean that lists a variable, with what it lists TIED to the program's text (the seventh form; the later family's looks); each row that meets fmt, with fmt's text TOLD by the authors' own Lean function (tested against real Go, not proved from fmt's source: count such statements apart). THE CARD IS WHAT COUNTS. Prove the row's statement (the work); the ties are given (YtfkekdpppcidbaaDoorTie.lean); close each card by the builder's one call (the guide's Derived/Test/ToyasCard.lean, 'card_holds'). Laid BY PROGRAM, IN A SANDBOX (cutbox-door.mjs). By AI agents, Wed Nov 11 2026. No macro, syntax, notation, axiom, sorry.
-/
import Derived.Test.YtfkekdpppcidbaaDoorRows
import GoSem.ClaimSeven
namespace Go.Proofs.YtfkekdpppcidbaaDoor
namespace Rows

/-- THE TIED CARD OF 'postriderlaw03.HeadBack'. -/
def headBackCard : Claim7 := { stood := { row := headBackRow, standIns := [], harness := (true, "94de520dd9b68e23fca4d136de4b9f79dcb348ade4eb02a182dea7a279a992ca"), looks := true }, kinds := [], alts := [], laidByText := true, laidKinds := [.sentinel, .sentinel, .sentinel, .sentinel, .sentinel, .sentinel, .sentinel, .data], laidTests := true, laidLooks := .later }
def HeadBackCardSaid : Prop := Claim7.holds Tryd.pinned (.plain (OpenSpec.ofChange headBackSpec)) headBackCard

/-- THE TIED CARD OF 'postriderlaw03.HeadApart'. -/
def headApartCard : Claim7 := { stood := { row := headApartRow, standIns := [], harness := (true, "94de520dd9b68e23fca4d136de4b9f79dcb348ade4eb02a182dea7a279a992ca"), looks := true }, kinds := [], alts := [], laidByText := true, laidKinds := [.sentinel, .sentinel, .sentinel, .sentinel, .sentinel, .sentinel, .sentinel, .data], laidTests := true, laidLooks := .later }
def HeadApartCardSaid : Prop := Claim7.holds Tryd.pinned (.plain (OpenSpec.ofChange headApartSpec)) headApartCard

/-- THE TIED CARD OF 'postriderlaw03.HeadOrder'. -/
def headOrderCard : Claim7 := { stood := { row := headOrderRow, standIns := [], harness := (true, "94de520dd9b68e23fca4d136de4b9f79dcb348ade4eb02a182dea7a279a992ca"), looks := true }, kinds := [], alts := [], laidByText := true, laidKinds := [.sentinel, .sentinel, .sentinel, .sentinel, .sentinel, .sentinel, .sentinel, .data], laidTests := true, laidLooks := .later }
def HeadOrderCardSaid : Prop := Claim7.holds Tryd.pinned (.plain (OpenSpec.ofChange headOrderSpec)) headOrderCard

/-- THE TIED CARD OF 'postriderlaw03.HeadShort'. -/
def headShortCard : Claim7 := { stood := { row := headShortRow, standIns := [], harness := (true, "94de520dd9b68e23fca4d136de4b9f79dcb348ade4eb02a182dea7a279a992ca"), looks := true }, kinds := [], alts := [], laidByText := true, laidKinds := [.sentinel, .sentinel, .sentinel, .sentinel, .sentinel, .sentinel, .sentinel, .data], laidTests := true, laidLooks := .later }
def HeadShortCardSaid : Prop := Claim7.holds Tryd.pinned (.plain (OpenSpec.ofChange headShortSpec)) headShortCard

/-- THE TIED CARD OF 'postriderlaw03.HeadCodes'. -/
def headCodesCard : Claim7 := { stood := { row := headCodesRow, standIns := [], harness := (true, "94de520dd9b68e23fca4d136de4b9f79dcb348ade4eb02a182dea7a279a992ca"), looks := true }, kinds := [], alts := [], laidByText := true, laidKinds := [.sentinel, .sentinel, .sentinel, .sentinel, .sentinel, .sentinel, .sentinel, .data], laidTests := true, laidLooks := .later }
def HeadCodesCardSaid : Prop := Claim7.holds Tryd.pinned (.plain (OpenSpec.ofChange headCodesSpec)) headCodesCard

/-- THE TIED CARD OF 'postriderlaw03.HeadSizes'. -/
def headSizesCard : Claim7 := { stood := { row := headSizesRow, standIns := [], harness := (true, "94de520dd9b68e23fca4d136de4b9f79dcb348ade4eb02a182dea7a279a992ca"), looks := true }, kinds := [], alts := [], laidByText := true, laidKinds := [.sentinel, .sentinel, .sentinel, .sentinel, .sentinel, .sentinel, .sentinel, .data], laidTests := true, laidLooks := .later }
def HeadSizesCardSaid : Prop := Claim7.holds Tryd.pinned (.plain (OpenSpec.ofChange headSizesSpec)) headSizesCard

/-- THE TIED CARD OF 'postriderlaw03.HeadReads'. -/
def headReadsCard : Claim7 := { stood := { row := headReadsRow, standIns := [], harness := (true, "94de520dd9b68e23fca4d136de4b9f79dcb348ade4eb02a182dea7a279a992ca"), looks := true }, kinds := [], alts := [], laidByText := true, laidKinds := [.sentinel, .sentinel, .sentinel, .sentinel, .sentinel, .sentinel, .sentinel, .data], laidTests := true, laidLooks := .later }
def HeadReadsCardSaid : Prop := Claim7.holds Tryd.pinned (.plain (OpenSpec.ofChange headReadsSpec)) headReadsCard

/-- THE SECOND FORM's CARD OF 'postriderlaw03.HeadBack'. -/
def headBackUptoCard : Claim7 := { stood := { row := headBackUptoRow, standIns := [], harness := (true, "94de520dd9b68e23fca4d136de4b9f79dcb348ade4eb02a182dea7a279a992ca"), looks := true }, kinds := [], alts := [], laidByText := true, laidKinds := [.sentinel, .sentinel, .sentinel, .sentinel, .sentinel, .sentinel, .sentinel, .data], laidTests := true, laidLooks := .later }
def HeadBackUptoCardSaid : Prop := Claim7.holds Tryd.pinned (.plain (OpenSpec.upto headBackSpec)) headBackUptoCard

/-- THE SECOND FORM's CARD OF 'postriderlaw03.HeadApart'. -/
def headApartUptoCard : Claim7 := { stood := { row := headApartUptoRow, standIns := [], harness := (true, "94de520dd9b68e23fca4d136de4b9f79dcb348ade4eb02a182dea7a279a992ca"), looks := true }, kinds := [], alts := [], laidByText := true, laidKinds := [.sentinel, .sentinel, .sentinel, .sentinel, .sentinel, .sentinel, .sentinel, .data], laidTests := true, laidLooks := .later }
def HeadApartUptoCardSaid : Prop := Claim7.holds Tryd.pinned (.plain (OpenSpec.upto headApartSpec)) headApartUptoCard

/-- THE SECOND FORM's CARD OF 'postriderlaw03.HeadOrder'. -/
def headOrderUptoCard : Claim7 := { stood := { row := headOrderUptoRow, standIns := [], harness := (true, "94de520dd9b68e23fca4d136de4b9f79dcb348ade4eb02a182dea7a279a992ca"), looks := true }, kinds := [], alts := [], laidByText := true, laidKinds := [.sentinel, .sentinel, .sentinel, .sentinel, .sentinel, .sentinel, .sentinel, .data], laidTests := true, laidLooks := .later }
def HeadOrderUptoCardSaid : Prop := Claim7.holds Tryd.pinned (.plain (OpenSpec.upto headOrderSpec)) headOrderUptoCard

/-- THE SECOND FORM's CARD OF 'postriderlaw03.HeadShort'. -/
def headShortUptoCard : Claim7 := { stood := { row := headShortUptoRow, standIns := [], harness := (true, "94de520dd9b68e23fca4d136de4b9f79dcb348ade4eb02a182dea7a279a992ca"), looks := true }, kinds := [], alts := [], laidByText := true, laidKinds := [.sentinel, .sentinel, .sentinel, .sentinel, .sentinel, .sentinel, .sentinel, .data], laidTests := true, laidLooks := .later }
def HeadShortUptoCardSaid : Prop := Claim7.holds Tryd.pinned (.plain (OpenSpec.upto headShortSpec)) headShortUptoCard

/-- THE SECOND FORM's CARD OF 'postriderlaw03.HeadCodes'. -/
def headCodesUptoCard : Claim7 := { stood := { row := headCodesUptoRow, standIns := [], harness := (true, "94de520dd9b68e23fca4d136de4b9f79dcb348ade4eb02a182dea7a279a992ca"), looks := true }, kinds := [], alts := [], laidByText := true, laidKinds := [.sentinel, .sentinel, .sentinel, .sentinel, .sentinel, .sentinel, .sentinel, .data], laidTests := true, laidLooks := .later }
def HeadCodesUptoCardSaid : Prop := Claim7.holds Tryd.pinned (.plain (OpenSpec.upto headCodesSpec)) headCodesUptoCard

/-- THE SECOND FORM's CARD OF 'postriderlaw03.HeadSizes'. -/
def headSizesUptoCard : Claim7 := { stood := { row := headSizesUptoRow, standIns := [], harness := (true, "94de520dd9b68e23fca4d136de4b9f79dcb348ade4eb02a182dea7a279a992ca"), looks := true }, kinds := [], alts := [], laidByText := true, laidKinds := [.sentinel, .sentinel, .sentinel, .sentinel, .sentinel, .sentinel, .sentinel, .data], laidTests := true, laidLooks := .later }
def HeadSizesUptoCardSaid : Prop := Claim7.holds Tryd.pinned (.plain (OpenSpec.upto headSizesSpec)) headSizesUptoCard

/-- THE SECOND FORM's CARD OF 'postriderlaw03.HeadReads'. -/
def headReadsUptoCard : Claim7 := { stood := { row := headReadsUptoRow, standIns := [], harness := (true, "94de520dd9b68e23fca4d136de4b9f79dcb348ade4eb02a182dea7a279a992ca"), looks := true }, kinds := [], alts := [], laidByText := true, laidKinds := [.sentinel, .sentinel, .sentinel, .sentinel, .sentinel, .sentinel, .sentinel, .data], laidTests := true, laidLooks := .later }
def HeadReadsUptoCardSaid : Prop := Claim7.holds Tryd.pinned (.plain (OpenSpec.upto headReadsSpec)) headReadsUptoCard
end Rows
end Go.Proofs.YtfkekdpppcidbaaDoor
