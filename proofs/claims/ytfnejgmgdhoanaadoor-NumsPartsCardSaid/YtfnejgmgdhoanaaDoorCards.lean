/-
  DERIVED. GIVEN WITH THE SEED: THE CARDS: each row of YtfnejgmgdhoanaaDoorRows.lean that lists a variable, with what it lists TIED to the program's text (the seventh form; the later family's looks); each row that meets fmt, with fmt's text TOLD by the authors' own Lean function (tested against real Go, not proved from fmt's source: count such statements apart). THE CARD IS WHAT COUNTS. Prove the row's statement (the work); the ties are given (YtfnejgmgdhoanaaDoorTie.lean); close each card by the builder's one call (the guide's Derived/Test/ToyasCard.lean, 'card_holds'). Laid BY PROGRAM, IN A SANDBOX (cutbox-door.mjs). By AI agents, Wed Nov 11 2026. No macro, syntax, notation, axiom, sorry.
-/
import Derived.Test.YtfnejgmgdhoanaaDoorRows
import GoSem.ClaimSeven
namespace Go.Proofs.YtfnejgmgdhoanaaDoor
namespace Rows

/-- THE TIED CARD OF 'postriderlaw01.NumsTells'. -/
def numsTellsCard : Claim7 := { stood := { row := numsTellsRow, standIns := [], harness := (true, "5f1fd35c599e2332ed48dd08a04129ac57ce9226ad7538728a5c9a9c0ef1e684"), looks := true }, kinds := [], alts := [], laidByText := true, laidKinds := [.sentinel, .sentinel, .sentinel], laidTests := true, laidLooks := .later }
def NumsTellsCardSaid : Prop := Claim7.holds Tryd.pinned (.plain (OpenSpec.ofChange numsTellsSpec)) numsTellsCard

/-- THE TIED CARD OF 'postriderlaw01.NumsBack'. -/
def numsBackCard : Claim7 := { stood := { row := numsBackRow, standIns := [], harness := (true, "5f1fd35c599e2332ed48dd08a04129ac57ce9226ad7538728a5c9a9c0ef1e684"), looks := true }, kinds := [], alts := [], laidByText := true, laidKinds := [.sentinel, .sentinel, .sentinel], laidTests := true, laidLooks := .later }
def NumsBackCardSaid : Prop := Claim7.holds Tryd.pinned (.plain (OpenSpec.ofChange numsBackSpec)) numsBackCard

/-- THE TIED CARD OF 'postriderlaw01.NumsOrder'. -/
def numsOrderCard : Claim7 := { stood := { row := numsOrderRow, standIns := [], harness := (true, "5f1fd35c599e2332ed48dd08a04129ac57ce9226ad7538728a5c9a9c0ef1e684"), looks := true }, kinds := [], alts := [], laidByText := true, laidKinds := [.sentinel, .sentinel, .sentinel], laidTests := true, laidLooks := .later }
def NumsOrderCardSaid : Prop := Claim7.holds Tryd.pinned (.plain (OpenSpec.ofChange numsOrderSpec)) numsOrderCard

/-- THE TIED CARD OF 'postriderlaw01.NumsWider'. -/
def numsWiderCard : Claim7 := { stood := { row := numsWiderRow, standIns := [], harness := (true, "5f1fd35c599e2332ed48dd08a04129ac57ce9226ad7538728a5c9a9c0ef1e684"), looks := true }, kinds := [], alts := [], laidByText := true, laidKinds := [.sentinel, .sentinel, .sentinel], laidTests := true, laidLooks := .later }
def NumsWiderCardSaid : Prop := Claim7.holds Tryd.pinned (.plain (OpenSpec.ofChange numsWiderSpec)) numsWiderCard

/-- THE TIED CARD OF 'postriderlaw01.NumsHalves'. -/
def numsHalvesCard : Claim7 := { stood := { row := numsHalvesRow, standIns := [], harness := (true, "5f1fd35c599e2332ed48dd08a04129ac57ce9226ad7538728a5c9a9c0ef1e684"), looks := true }, kinds := [], alts := [], laidByText := true, laidKinds := [.sentinel, .sentinel, .sentinel], laidTests := true, laidLooks := .later }
def NumsHalvesCardSaid : Prop := Claim7.holds Tryd.pinned (.plain (OpenSpec.ofChange numsHalvesSpec)) numsHalvesCard

/-- THE TIED CARD OF 'postriderlaw01.NumsFits'. -/
def numsFitsCard : Claim7 := { stood := { row := numsFitsRow, standIns := [], harness := (true, "5f1fd35c599e2332ed48dd08a04129ac57ce9226ad7538728a5c9a9c0ef1e684"), looks := true }, kinds := [], alts := [], laidByText := true, laidKinds := [.sentinel, .sentinel, .sentinel], laidTests := true, laidLooks := .later }
def NumsFitsCardSaid : Prop := Claim7.holds Tryd.pinned (.plain (OpenSpec.ofChange numsFitsSpec)) numsFitsCard

/-- THE TIED CARD OF 'postriderlaw01.NumsCuts'. -/
def numsCutsCard : Claim7 := { stood := { row := numsCutsRow, standIns := [], harness := (true, "5f1fd35c599e2332ed48dd08a04129ac57ce9226ad7538728a5c9a9c0ef1e684"), looks := true }, kinds := [], alts := [], laidByText := true, laidKinds := [.sentinel, .sentinel, .sentinel], laidTests := true, laidLooks := .later }
def NumsCutsCardSaid : Prop := Claim7.holds Tryd.pinned (.plain (OpenSpec.ofChange numsCutsSpec)) numsCutsCard

/-- THE TIED CARD OF 'postriderlaw01.NumsParts'. -/
def numsPartsCard : Claim7 := { stood := { row := numsPartsRow, standIns := [], harness := (true, "5f1fd35c599e2332ed48dd08a04129ac57ce9226ad7538728a5c9a9c0ef1e684"), looks := true }, kinds := [], alts := [], laidByText := true, laidKinds := [.sentinel, .sentinel, .sentinel], laidTests := true, laidLooks := .later }
def NumsPartsCardSaid : Prop := Claim7.holds Tryd.pinned (.plain (OpenSpec.ofChange numsPartsSpec)) numsPartsCard

/-- THE SECOND FORM's CARD OF 'postriderlaw01.NumsTells'. -/
def numsTellsUptoCard : Claim7 := { stood := { row := numsTellsUptoRow, standIns := [], harness := (true, "5f1fd35c599e2332ed48dd08a04129ac57ce9226ad7538728a5c9a9c0ef1e684"), looks := true }, kinds := [], alts := [], laidByText := true, laidKinds := [.sentinel, .sentinel, .sentinel], laidTests := true, laidLooks := .later }
def NumsTellsUptoCardSaid : Prop := Claim7.holds Tryd.pinned (.plain (OpenSpec.upto numsTellsSpec)) numsTellsUptoCard

/-- THE SECOND FORM's CARD OF 'postriderlaw01.NumsBack'. -/
def numsBackUptoCard : Claim7 := { stood := { row := numsBackUptoRow, standIns := [], harness := (true, "5f1fd35c599e2332ed48dd08a04129ac57ce9226ad7538728a5c9a9c0ef1e684"), looks := true }, kinds := [], alts := [], laidByText := true, laidKinds := [.sentinel, .sentinel, .sentinel], laidTests := true, laidLooks := .later }
def NumsBackUptoCardSaid : Prop := Claim7.holds Tryd.pinned (.plain (OpenSpec.upto numsBackSpec)) numsBackUptoCard

/-- THE SECOND FORM's CARD OF 'postriderlaw01.NumsOrder'. -/
def numsOrderUptoCard : Claim7 := { stood := { row := numsOrderUptoRow, standIns := [], harness := (true, "5f1fd35c599e2332ed48dd08a04129ac57ce9226ad7538728a5c9a9c0ef1e684"), looks := true }, kinds := [], alts := [], laidByText := true, laidKinds := [.sentinel, .sentinel, .sentinel], laidTests := true, laidLooks := .later }
def NumsOrderUptoCardSaid : Prop := Claim7.holds Tryd.pinned (.plain (OpenSpec.upto numsOrderSpec)) numsOrderUptoCard

/-- THE SECOND FORM's CARD OF 'postriderlaw01.NumsWider'. -/
def numsWiderUptoCard : Claim7 := { stood := { row := numsWiderUptoRow, standIns := [], harness := (true, "5f1fd35c599e2332ed48dd08a04129ac57ce9226ad7538728a5c9a9c0ef1e684"), looks := true }, kinds := [], alts := [], laidByText := true, laidKinds := [.sentinel, .sentinel, .sentinel], laidTests := true, laidLooks := .later }
def NumsWiderUptoCardSaid : Prop := Claim7.holds Tryd.pinned (.plain (OpenSpec.upto numsWiderSpec)) numsWiderUptoCard

/-- THE SECOND FORM's CARD OF 'postriderlaw01.NumsHalves'. -/
def numsHalvesUptoCard : Claim7 := { stood := { row := numsHalvesUptoRow, standIns := [], harness := (true, "5f1fd35c599e2332ed48dd08a04129ac57ce9226ad7538728a5c9a9c0ef1e684"), looks := true }, kinds := [], alts := [], laidByText := true, laidKinds := [.sentinel, .sentinel, .sentinel], laidTests := true, laidLooks := .later }
def NumsHalvesUptoCardSaid : Prop := Claim7.holds Tryd.pinned (.plain (OpenSpec.upto numsHalvesSpec)) numsHalvesUptoCard

/-- THE SECOND FORM's CARD OF 'postriderlaw01.NumsFits'. -/
def numsFitsUptoCard : Claim7 := { stood := { row := numsFitsUptoRow, standIns := [], harness := (true, "5f1fd35c599e2332ed48dd08a04129ac57ce9226ad7538728a5c9a9c0ef1e684"), looks := true }, kinds := [], alts := [], laidByText := true, laidKinds := [.sentinel, .sentinel, .sentinel], laidTests := true, laidLooks := .later }
def NumsFitsUptoCardSaid : Prop := Claim7.holds Tryd.pinned (.plain (OpenSpec.upto numsFitsSpec)) numsFitsUptoCard

/-- THE SECOND FORM's CARD OF 'postriderlaw01.NumsCuts'. -/
def numsCutsUptoCard : Claim7 := { stood := { row := numsCutsUptoRow, standIns := [], harness := (true, "5f1fd35c599e2332ed48dd08a04129ac57ce9226ad7538728a5c9a9c0ef1e684"), looks := true }, kinds := [], alts := [], laidByText := true, laidKinds := [.sentinel, .sentinel, .sentinel], laidTests := true, laidLooks := .later }
def NumsCutsUptoCardSaid : Prop := Claim7.holds Tryd.pinned (.plain (OpenSpec.upto numsCutsSpec)) numsCutsUptoCard

/-- THE SECOND FORM's CARD OF 'postriderlaw01.NumsParts'. -/
def numsPartsUptoCard : Claim7 := { stood := { row := numsPartsUptoRow, standIns := [], harness := (true, "5f1fd35c599e2332ed48dd08a04129ac57ce9226ad7538728a5c9a9c0ef1e684"), looks := true }, kinds := [], alts := [], laidByText := true, laidKinds := [.sentinel, .sentinel, .sentinel], laidTests := true, laidLooks := .later }
def NumsPartsUptoCardSaid : Prop := Claim7.holds Tryd.pinned (.plain (OpenSpec.upto numsPartsSpec)) numsPartsUptoCard
end Rows
end Go.Proofs.YtfnejgmgdhoanaaDoor
