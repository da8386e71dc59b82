/-
  DERIVED. GIVEN WITH THE SEED: THE CARDS: each row of YtmebjdbkngehiaaGreatDoorRows.lean that lists a variable, with what it lists TIED to the program's text (the seventh form; the later family's looks); each row that meets fmt, with fmt's text TOLD by the authors' own Lean function (tested against real Go, not proved from fmt's source: count such statements apart). THE CARD IS WHAT COUNTS. Prove the row's statement (the work); the ties are given (YtmebjdbkngehiaaGreatDoorTie.lean); close each card by the builder's one call (the guide's Derived/Test/ToyasCard.lean, 'card_holds'). Laid BY PROGRAM, IN A SANDBOX (cutbox-door.mjs). By AI agents, Wed Nov 11 2026. No macro, syntax, notation, axiom, sorry.
-/
import Derived.Test.YtmebjdbkngehiaaGreatDoorRows
import GoSem.ClaimSeven
namespace Go.Proofs.YtmebjdbkngehiaaGreatDoor
namespace Rows

/-- THE TIED CARD OF 'postriderlaw19.QueueOpens'. -/
def queueOpensCard : Claim7 := { stood := { row := queueOpensRow, standIns := [], harness := (true, "44eaa9d49f126ceb00f013d3bff1940128bd92d4630ec90ed063e98664f8bd12"), looks := true }, kinds := [], alts := [], laidByText := true, laidKinds := [.handle, .sentinel, .sentinel, .sentinel, .sentinel, .sentinel, .data], laidTests := true, laidLooks := .later }
def QueueOpensCardSaid : Prop := Claim7.holds Tryz.pinned (.plain (OpenSpec.ofChange queueOpensSpec)) queueOpensCard

/-- THE TIED CARD OF 'postriderlaw19.QueueFinds'. -/
def queueFindsCard : Claim7 := { stood := { row := queueFindsRow, standIns := [], harness := (true, "44eaa9d49f126ceb00f013d3bff1940128bd92d4630ec90ed063e98664f8bd12"), looks := true }, kinds := [], alts := [], laidByText := true, laidKinds := [.handle, .sentinel, .sentinel, .sentinel, .sentinel, .sentinel, .data], laidTests := true, laidLooks := .later }
def QueueFindsCardSaid : Prop := Claim7.holds Tryz.pinned (.plain (OpenSpec.ofChange queueFindsSpec)) queueFindsCard

/-- THE TIED CARD OF 'postriderlaw19.QueueNew'. -/
def queueNewCard : Claim7 := { stood := { row := queueNewRow, standIns := [], harness := (true, "44eaa9d49f126ceb00f013d3bff1940128bd92d4630ec90ed063e98664f8bd12"), looks := true }, kinds := [], alts := [], laidByText := true, laidKinds := [.handle, .sentinel, .sentinel, .sentinel, .sentinel, .sentinel, .data], laidTests := true, laidLooks := .later }
def QueueNewCardSaid : Prop := Claim7.holds Tryz.pinned (.plain (OpenSpec.ofChange queueNewSpec)) queueNewCard

/-- THE TIED CARD OF 'postriderlaw19.QueueEnds'. -/
def queueEndsCard : Claim7 := { stood := { row := queueEndsRow, standIns := [], harness := (true, "44eaa9d49f126ceb00f013d3bff1940128bd92d4630ec90ed063e98664f8bd12"), looks := true }, kinds := [], alts := [], laidByText := true, laidKinds := [.handle, .sentinel, .sentinel, .sentinel, .sentinel, .sentinel, .data], laidTests := true, laidLooks := .later }
def QueueEndsCardSaid : Prop := Claim7.holds Tryz.pinned (.plain (OpenSpec.ofChange queueEndsSpec)) queueEndsCard

/-- THE TIED CARD OF 'postriderlaw19.QueueSafe'. -/
def queueSafeCard : Claim7 := { stood := { row := queueSafeRow, standIns := [], harness := (true, "44eaa9d49f126ceb00f013d3bff1940128bd92d4630ec90ed063e98664f8bd12"), looks := true }, kinds := [], alts := [], laidByText := true, laidKinds := [.handle, .sentinel, .sentinel, .sentinel, .sentinel, .sentinel, .data], laidTests := true, laidLooks := .later }
def QueueSafeCardSaid : Prop := Claim7.holds Tryz.pinned (.plain (OpenSpec.ofChange queueSafeSpec)) queueSafeCard

/-- THE TIED CARD OF 'postriderlaw19.QueueAgain'. -/
def queueAgainCard : Claim7 := { stood := { row := queueAgainRow, standIns := [], harness := (true, "44eaa9d49f126ceb00f013d3bff1940128bd92d4630ec90ed063e98664f8bd12"), looks := true }, kinds := [], alts := [], laidByText := true, laidKinds := [.handle, .sentinel, .sentinel, .sentinel, .sentinel, .sentinel, .data], laidTests := true, laidLooks := .later }
def QueueAgainCardSaid : Prop := Claim7.holds Tryz.pinned (.plain (OpenSpec.ofChange queueAgainSpec)) queueAgainCard

/-- THE TIED CARD OF 'postriderlaw19.QueueMends'. -/
def queueMendsCard : Claim7 := { stood := { row := queueMendsRow, standIns := [], harness := (true, "44eaa9d49f126ceb00f013d3bff1940128bd92d4630ec90ed063e98664f8bd12"), looks := true }, kinds := [], alts := [], laidByText := true, laidKinds := [.handle, .sentinel, .sentinel, .sentinel, .sentinel, .sentinel, .data], laidTests := true, laidLooks := .later }
def QueueMendsCardSaid : Prop := Claim7.holds Tryz.pinned (.plain (OpenSpec.ofChange queueMendsSpec)) queueMendsCard

/-- THE TIED CARD OF 'postriderlaw19.QueueRoom'. -/
def queueRoomCard : Claim7 := { stood := { row := queueRoomRow, standIns := [], harness := (true, "44eaa9d49f126ceb00f013d3bff1940128bd92d4630ec90ed063e98664f8bd12"), looks := true }, kinds := [], alts := [], laidByText := true, laidKinds := [.handle, .sentinel, .sentinel, .sentinel, .sentinel, .sentinel, .data], laidTests := true, laidLooks := .later }
def QueueRoomCardSaid : Prop := Claim7.holds Tryz.pinned (.plain (OpenSpec.ofChange queueRoomSpec)) queueRoomCard

/-- THE TIED CARD OF 'postriderlaw19.QueueOnce'. -/
def queueOnceCard : Claim7 := { stood := { row := queueOnceRow, standIns := [], harness := (true, "44eaa9d49f126ceb00f013d3bff1940128bd92d4630ec90ed063e98664f8bd12"), looks := true }, kinds := [], alts := [], laidByText := true, laidKinds := [.handle, .sentinel, .sentinel, .sentinel, .sentinel, .sentinel, .data], laidTests := true, laidLooks := .later }
def QueueOnceCardSaid : Prop := Claim7.holds Tryz.pinned (.plain (OpenSpec.ofChange queueOnceSpec)) queueOnceCard

/-- THE TIED CARD OF 'postriderlaw19.QueuePlays'. -/
def queuePlaysCard : Claim7 := { stood := { row := queuePlaysRow, standIns := [], harness := (true, "44eaa9d49f126ceb00f013d3bff1940128bd92d4630ec90ed063e98664f8bd12"), looks := true }, kinds := [], alts := [], laidByText := true, laidKinds := [.handle, .sentinel, .sentinel, .sentinel, .sentinel, .sentinel, .data], laidTests := true, laidLooks := .later }
def QueuePlaysCardSaid : Prop := Claim7.holds Tryz.pinned (.plain (OpenSpec.ofChange queuePlaysSpec)) queuePlaysCard

/-- THE SECOND FORM's CARD OF 'postriderlaw19.QueueOpens'. -/
def queueOpensUptoCard : Claim7 := { stood := { row := queueOpensUptoRow, standIns := [], harness := (true, "44eaa9d49f126ceb00f013d3bff1940128bd92d4630ec90ed063e98664f8bd12"), looks := true }, kinds := [], alts := [], laidByText := true, laidKinds := [.handle, .sentinel, .sentinel, .sentinel, .sentinel, .sentinel, .data], laidTests := true, laidLooks := .later }
def QueueOpensUptoCardSaid : Prop := Claim7.holds Tryz.pinned (.plain (OpenSpec.upto queueOpensSpec)) queueOpensUptoCard

/-- THE SECOND FORM's CARD OF 'postriderlaw19.QueueFinds'. -/
def queueFindsUptoCard : Claim7 := { stood := { row := queueFindsUptoRow, standIns := [], harness := (true, "44eaa9d49f126ceb00f013d3bff1940128bd92d4630ec90ed063e98664f8bd12"), looks := true }, kinds := [], alts := [], laidByText := true, laidKinds := [.handle, .sentinel, .sentinel, .sentinel, .sentinel, .sentinel, .data], laidTests := true, laidLooks := .later }
def QueueFindsUptoCardSaid : Prop := Claim7.holds Tryz.pinned (.plain (OpenSpec.upto queueFindsSpec)) queueFindsUptoCard

/-- THE SECOND FORM's CARD OF 'postriderlaw19.QueueNew'. -/
def queueNewUptoCard : Claim7 := { stood := { row := queueNewUptoRow, standIns := [], harness := (true, "44eaa9d49f126ceb00f013d3bff1940128bd92d4630ec90ed063e98664f8bd12"), looks := true }, kinds := [], alts := [], laidByText := true, laidKinds := [.handle, .sentinel, .sentinel, .sentinel, .sentinel, .sentinel, .data], laidTests := true, laidLooks := .later }
def QueueNewUptoCardSaid : Prop := Claim7.holds Tryz.pinned (.plain (OpenSpec.upto queueNewSpec)) queueNewUptoCard

/-- THE SECOND FORM's CARD OF 'postriderlaw19.QueueEnds'. -/
def queueEndsUptoCard : Claim7 := { stood := { row := queueEndsUptoRow, standIns := [], harness := (true, "44eaa9d49f126ceb00f013d3bff1940128bd92d4630ec90ed063e98664f8bd12"), looks := true }, kinds := [], alts := [], laidByText := true, laidKinds := [.handle, .sentinel, .sentinel, .sentinel, .sentinel, .sentinel, .data], laidTests := true, laidLooks := .later }
def QueueEndsUptoCardSaid : Prop := Claim7.holds Tryz.pinned (.plain (OpenSpec.upto queueEndsSpec)) queueEndsUptoCard

/-- THE SECOND FORM's CARD OF 'postriderlaw19.QueueSafe'. -/
def queueSafeUptoCard : Claim7 := { stood := { row := queueSafeUptoRow, standIns := [], harness := (true, "44eaa9d49f126ceb00f013d3bff1940128bd92d4630ec90ed063e98664f8bd12"), looks := true }, kinds := [], alts := [], laidByText := true, laidKinds := [.handle, .sentinel, .sentinel, .sentinel, .sentinel, .sentinel, .data], laidTests := true, laidLooks := .later }
def QueueSafeUptoCardSaid : Prop := Claim7.holds Tryz.pinned (.plain (OpenSpec.upto queueSafeSpec)) queueSafeUptoCard

/-- THE SECOND FORM's CARD OF 'postriderlaw19.QueueAgain'. -/
def queueAgainUptoCard : Claim7 := { stood := { row := queueAgainUptoRow, standIns := [], harness := (true, "44eaa9d49f126ceb00f013d3bff1940128bd92d4630ec90ed063e98664f8bd12"), looks := true }, kinds := [], alts := [], laidByText := true, laidKinds := [.handle, .sentinel, .sentinel, .sentinel, .sentinel, .sentinel, .data], laidTests := true, laidLooks := .later }
def QueueAgainUptoCardSaid : Prop := Claim7.holds Tryz.pinned (.plain (OpenSpec.upto queueAgainSpec)) queueAgainUptoCard

/-- THE SECOND FORM's CARD OF 'postriderlaw19.QueueMends'. -/
def queueMendsUptoCard : Claim7 := { stood := { row := queueMendsUptoRow, standIns := [], harness := (true, "44eaa9d49f126ceb00f013d3bff1940128bd92d4630ec90ed063e98664f8bd12"), looks := true }, kinds := [], alts := [], laidByText := true, laidKinds := [.handle, .sentinel, .sentinel, .sentinel, .sentinel, .sentinel, .data], laidTests := true, laidLooks := .later }
def QueueMendsUptoCardSaid : Prop := Claim7.holds Tryz.pinned (.plain (OpenSpec.upto queueMendsSpec)) queueMendsUptoCard

/-- THE SECOND FORM's CARD OF 'postriderlaw19.QueueRoom'. -/
def queueRoomUptoCard : Claim7 := { stood := { row := queueRoomUptoRow, standIns := [], harness := (true, "44eaa9d49f126ceb00f013d3bff1940128bd92d4630ec90ed063e98664f8bd12"), looks := true }, kinds := [], alts := [], laidByText := true, laidKinds := [.handle, .sentinel, .sentinel, .sentinel, .sentinel, .sentinel, .data], laidTests := true, laidLooks := .later }
def QueueRoomUptoCardSaid : Prop := Claim7.holds Tryz.pinned (.plain (OpenSpec.upto queueRoomSpec)) queueRoomUptoCard

/-- THE SECOND FORM's CARD OF 'postriderlaw19.QueueOnce'. -/
def queueOnceUptoCard : Claim7 := { stood := { row := queueOnceUptoRow, standIns := [], harness := (true, "44eaa9d49f126ceb00f013d3bff1940128bd92d4630ec90ed063e98664f8bd12"), looks := true }, kinds := [], alts := [], laidByText := true, laidKinds := [.handle, .sentinel, .sentinel, .sentinel, .sentinel, .sentinel, .data], laidTests := true, laidLooks := .later }
def QueueOnceUptoCardSaid : Prop := Claim7.holds Tryz.pinned (.plain (OpenSpec.upto queueOnceSpec)) queueOnceUptoCard

/-- THE SECOND FORM's CARD OF 'postriderlaw19.QueuePlays'. -/
def queuePlaysUptoCard : Claim7 := { stood := { row := queuePlaysUptoRow, standIns := [], harness := (true, "44eaa9d49f126ceb00f013d3bff1940128bd92d4630ec90ed063e98664f8bd12"), looks := true }, kinds := [], alts := [], laidByText := true, laidKinds := [.handle, .sentinel, .sentinel, .sentinel, .sentinel, .sentinel, .data], laidTests := true, laidLooks := .later }
def QueuePlaysUptoCardSaid : Prop := Claim7.holds Tryz.pinned (.plain (OpenSpec.upto queuePlaysSpec)) queuePlaysUptoCard
end Rows
end Go.Proofs.YtmebjdbkngehiaaGreatDoor
