/-
  DERIVED. GIVEN WITH THE SEED: THE CARDS: each row of YtcahfdhfdigjaaaDoorRows.lean that lists a variable, with what it lists TIED to the program's text (the seventh form; the later family's looks); each row that meets fmt, with fmt's text TOLD by the authors' own Lean function (tested against real Go, not proved from fmt's source: count such statements apart). THE CARD IS WHAT COUNTS. Prove the row's statement (the work); the ties are given (YtcahfdhfdigjaaaDoorTie.lean); close each card by the builder's one call (the guide's Derived/Test/ToyasCard.lean, 'card_holds'). Laid BY PROGRAM, IN A SANDBOX (cutbox-door.mjs). By AI agents, Wed Nov 11 2026. No macro, syntax, notation, axiom, sorry.
-/
import Derived.Test.YtcahfdhfdigjaaaDoorRows
import GoSem.ClaimSeven
namespace Go.Proofs.YtcahfdhfdigjaaaDoor
namespace Rows

/-- THE TIED CARD OF 'postriderlaw02.SdnvBack'. -/
def sdnvBackCard : Claim7 := { stood := { row := sdnvBackRow, standIns := [], harness := (true, "7cd60fe2fa4c5670c0b290e8dbba46963e1b8f0c741429c7af656d17bc282e14"), looks := true }, kinds := [], alts := [], laidByText := true, laidKinds := [.handle], laidTests := true, laidLooks := .later }
def SdnvBackCardSaid : Prop := Claim7.holds Tryd.pinned (.plain (OpenSpec.ofChange sdnvBackSpec)) sdnvBackCard

/-- THE TIED CARD OF 'postriderlaw02.SdnvApart'. -/
def sdnvApartCard : Claim7 := { stood := { row := sdnvApartRow, standIns := [], harness := (true, "7cd60fe2fa4c5670c0b290e8dbba46963e1b8f0c741429c7af656d17bc282e14"), looks := true }, kinds := [], alts := [], laidByText := true, laidKinds := [.handle], laidTests := true, laidLooks := .later }
def SdnvApartCardSaid : Prop := Claim7.holds Tryd.pinned (.plain (OpenSpec.ofChange sdnvApartSpec)) sdnvApartCard

/-- THE TIED CARD OF 'postriderlaw02.SdnvJoins'. -/
def sdnvJoinsCard : Claim7 := { stood := { row := sdnvJoinsRow, standIns := [], harness := (true, "7cd60fe2fa4c5670c0b290e8dbba46963e1b8f0c741429c7af656d17bc282e14"), looks := true }, kinds := [], alts := [], laidByText := true, laidKinds := [.handle], laidTests := true, laidLooks := .later }
def SdnvJoinsCardSaid : Prop := Claim7.holds Tryd.pinned (.plain (OpenSpec.ofChange sdnvJoinsSpec)) sdnvJoinsCard

/-- THE TIED CARD OF 'postriderlaw02.SdnvShort'. -/
def sdnvShortCard : Claim7 := { stood := { row := sdnvShortRow, standIns := [], harness := (true, "7cd60fe2fa4c5670c0b290e8dbba46963e1b8f0c741429c7af656d17bc282e14"), looks := true }, kinds := [], alts := [], laidByText := true, laidKinds := [.handle], laidTests := true, laidLooks := .later }
def SdnvShortCardSaid : Prop := Claim7.holds Tryd.pinned (.plain (OpenSpec.ofChange sdnvShortSpec)) sdnvShortCard

/-- THE TIED CARD OF 'postriderlaw02.SdnvOne'. -/
def sdnvOneCard : Claim7 := { stood := { row := sdnvOneRow, standIns := [], harness := (true, "7cd60fe2fa4c5670c0b290e8dbba46963e1b8f0c741429c7af656d17bc282e14"), looks := true }, kinds := [], alts := [], laidByText := true, laidKinds := [.handle], laidTests := true, laidLooks := .later }
def SdnvOneCardSaid : Prop := Claim7.holds Tryd.pinned (.plain (OpenSpec.ofChange sdnvOneSpec)) sdnvOneCard

/-- THE TIED CARD OF 'postriderlaw02.SdnvLists'. -/
def sdnvListsCard : Claim7 := { stood := { row := sdnvListsRow, standIns := [], harness := (true, "7cd60fe2fa4c5670c0b290e8dbba46963e1b8f0c741429c7af656d17bc282e14"), looks := true }, kinds := [], alts := [], laidByText := true, laidKinds := [.handle], laidTests := true, laidLooks := .later }
def SdnvListsCardSaid : Prop := Claim7.holds Tryd.pinned (.plain (OpenSpec.ofChange sdnvListsSpec)) sdnvListsCard

/-- THE TIED CARD OF 'postriderlaw02.SdnvAll'. -/
def sdnvAllCard : Claim7 := { stood := { row := sdnvAllRow, standIns := [], harness := (true, "7cd60fe2fa4c5670c0b290e8dbba46963e1b8f0c741429c7af656d17bc282e14"), looks := true }, kinds := [], alts := [], laidByText := true, laidKinds := [.handle], laidTests := true, laidLooks := .later }
def SdnvAllCardSaid : Prop := Claim7.holds Tryd.pinned (.plain (OpenSpec.ofChange sdnvAllSpec)) sdnvAllCard

/-- THE TIED CARD OF 'postriderlaw02.SdnvCodes'. -/
def sdnvCodesCard : Claim7 := { stood := { row := sdnvCodesRow, standIns := [], harness := (true, "7cd60fe2fa4c5670c0b290e8dbba46963e1b8f0c741429c7af656d17bc282e14"), looks := true }, kinds := [], alts := [], laidByText := true, laidKinds := [.handle], laidTests := true, laidLooks := .later }
def SdnvCodesCardSaid : Prop := Claim7.holds Tryd.pinned (.plain (OpenSpec.ofChange sdnvCodesSpec)) sdnvCodesCard

/-- THE SECOND FORM's CARD OF 'postriderlaw02.SdnvBack'. -/
def sdnvBackUptoCard : Claim7 := { stood := { row := sdnvBackUptoRow, standIns := [], harness := (true, "7cd60fe2fa4c5670c0b290e8dbba46963e1b8f0c741429c7af656d17bc282e14"), looks := true }, kinds := [], alts := [], laidByText := true, laidKinds := [.handle], laidTests := true, laidLooks := .later }
def SdnvBackUptoCardSaid : Prop := Claim7.holds Tryd.pinned (.plain (OpenSpec.upto sdnvBackSpec)) sdnvBackUptoCard

/-- THE SECOND FORM's CARD OF 'postriderlaw02.SdnvApart'. -/
def sdnvApartUptoCard : Claim7 := { stood := { row := sdnvApartUptoRow, standIns := [], harness := (true, "7cd60fe2fa4c5670c0b290e8dbba46963e1b8f0c741429c7af656d17bc282e14"), looks := true }, kinds := [], alts := [], laidByText := true, laidKinds := [.handle], laidTests := true, laidLooks := .later }
def SdnvApartUptoCardSaid : Prop := Claim7.holds Tryd.pinned (.plain (OpenSpec.upto sdnvApartSpec)) sdnvApartUptoCard

/-- THE SECOND FORM's CARD OF 'postriderlaw02.SdnvJoins'. -/
def sdnvJoinsUptoCard : Claim7 := { stood := { row := sdnvJoinsUptoRow, standIns := [], harness := (true, "7cd60fe2fa4c5670c0b290e8dbba46963e1b8f0c741429c7af656d17bc282e14"), looks := true }, kinds := [], alts := [], laidByText := true, laidKinds := [.handle], laidTests := true, laidLooks := .later }
def SdnvJoinsUptoCardSaid : Prop := Claim7.holds Tryd.pinned (.plain (OpenSpec.upto sdnvJoinsSpec)) sdnvJoinsUptoCard

/-- THE SECOND FORM's CARD OF 'postriderlaw02.SdnvShort'. -/
def sdnvShortUptoCard : Claim7 := { stood := { row := sdnvShortUptoRow, standIns := [], harness := (true, "7cd60fe2fa4c5670c0b290e8dbba46963e1b8f0c741429c7af656d17bc282e14"), looks := true }, kinds := [], alts := [], laidByText := true, laidKinds := [.handle], laidTests := true, laidLooks := .later }
def SdnvShortUptoCardSaid : Prop := Claim7.holds Tryd.pinned (.plain (OpenSpec.upto sdnvShortSpec)) sdnvShortUptoCard

/-- THE SECOND FORM's CARD OF 'postriderlaw02.SdnvOne'. -/
def sdnvOneUptoCard : Claim7 := { stood := { row := sdnvOneUptoRow, standIns := [], harness := (true, "7cd60fe2fa4c5670c0b290e8dbba46963e1b8f0c741429c7af656d17bc282e14"), looks := true }, kinds := [], alts := [], laidByText := true, laidKinds := [.handle], laidTests := true, laidLooks := .later }
def SdnvOneUptoCardSaid : Prop := Claim7.holds Tryd.pinned (.plain (OpenSpec.upto sdnvOneSpec)) sdnvOneUptoCard

/-- THE SECOND FORM's CARD OF 'postriderlaw02.SdnvLists'. -/
def sdnvListsUptoCard : Claim7 := { stood := { row := sdnvListsUptoRow, standIns := [], harness := (true, "7cd60fe2fa4c5670c0b290e8dbba46963e1b8f0c741429c7af656d17bc282e14"), looks := true }, kinds := [], alts := [], laidByText := true, laidKinds := [.handle], laidTests := true, laidLooks := .later }
def SdnvListsUptoCardSaid : Prop := Claim7.holds Tryd.pinned (.plain (OpenSpec.upto sdnvListsSpec)) sdnvListsUptoCard

/-- THE SECOND FORM's CARD OF 'postriderlaw02.SdnvAll'. -/
def sdnvAllUptoCard : Claim7 := { stood := { row := sdnvAllUptoRow, standIns := [], harness := (true, "7cd60fe2fa4c5670c0b290e8dbba46963e1b8f0c741429c7af656d17bc282e14"), looks := true }, kinds := [], alts := [], laidByText := true, laidKinds := [.handle], laidTests := true, laidLooks := .later }
def SdnvAllUptoCardSaid : Prop := Claim7.holds Tryd.pinned (.plain (OpenSpec.upto sdnvAllSpec)) sdnvAllUptoCard

/-- THE SECOND FORM's CARD OF 'postriderlaw02.SdnvCodes'. -/
def sdnvCodesUptoCard : Claim7 := { stood := { row := sdnvCodesUptoRow, standIns := [], harness := (true, "7cd60fe2fa4c5670c0b290e8dbba46963e1b8f0c741429c7af656d17bc282e14"), looks := true }, kinds := [], alts := [], laidByText := true, laidKinds := [.handle], laidTests := true, laidLooks := .later }
def SdnvCodesUptoCardSaid : Prop := Claim7.holds Tryd.pinned (.plain (OpenSpec.upto sdnvCodesSpec)) sdnvCodesUptoCard
end Rows
end Go.Proofs.YtcahfdhfdigjaaaDoor
