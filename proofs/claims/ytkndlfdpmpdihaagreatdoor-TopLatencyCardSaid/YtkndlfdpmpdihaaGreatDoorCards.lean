/-
  DERIVED. GIVEN WITH THE SEED: THE CARDS: each row of YtkndlfdpmpdihaaGreatDoorRows.lean that lists a variable, with what it lists TIED to the program's text (the seventh form; the later family's looks); each row that meets fmt, with fmt's text TOLD by the authors' own Lean function (tested against real Go, not proved from fmt's source: count such statements apart). THE CARD IS WHAT COUNTS. Prove the row's statement (the work); the ties are given (YtkndlfdpmpdihaaGreatDoorTie.lean); close each card by the builder's one call (the guide's Derived/Test/ToyasCard.lean, 'card_holds'). Laid BY PROGRAM, IN A SANDBOX (cutbox-door.mjs). By AI agents, Wed Nov 11 2026. No macro, syntax, notation, axiom, sorry.
-/
import Derived.Test.YtkndlfdpmpdihaaGreatDoorRows
import GoSem.ClaimSeven
namespace Go.Proofs.YtkndlfdpmpdihaaGreatDoor
namespace Rows

/-- THE TIED CARD OF 'minuterietop.TopDog'. -/
def topDogCard : Claim7 := { stood := { row := topDogRow, standIns := [], harness := (true, "b9ecf976b6306105840aac86f1774f67dc77425e2d1e1ab0908ad696b99d1a92"), looks := true }, kinds := [], alts := [], laidByText := true, laidKinds := [.data, .data, .data, .data, .sentinel, .sentinel, .pinned], laidTests := true, laidLooks := .later }
def TopDogCardSaid : Prop := Claim7.holds Tryz.pinned (.plain (OpenSpec.ofChange topDogSpec)) topDogCard

/-- THE TIED CARD OF 'minuterietop.TopLatency'. -/
def topLatencyCard : Claim7 := { stood := { row := topLatencyRow, standIns := [], harness := (true, "b9ecf976b6306105840aac86f1774f67dc77425e2d1e1ab0908ad696b99d1a92"), looks := true }, kinds := [], alts := [], laidByText := true, laidKinds := [.data, .data, .data, .data, .sentinel, .sentinel, .pinned], laidTests := true, laidLooks := .later }
def TopLatencyCardSaid : Prop := Claim7.holds Tryz.pinned (.plain (OpenSpec.ofChange topLatencySpec)) topLatencyCard

/-- THE TIED CARD OF 'minuterietop.TopGaps'. -/
def topGapsCard : Claim7 := { stood := { row := topGapsRow, standIns := [], harness := (true, "b9ecf976b6306105840aac86f1774f67dc77425e2d1e1ab0908ad696b99d1a92"), looks := true }, kinds := [], alts := [], laidByText := true, laidKinds := [.data, .data, .data, .data, .sentinel, .sentinel, .pinned], laidTests := true, laidLooks := .later }
def TopGapsCardSaid : Prop := Claim7.holds Tryz.pinned (.plain (OpenSpec.ofChange topGapsSpec)) topGapsCard

/-- THE TIED CARD OF 'minuterietop.TopFull'. -/
def topFullCard : Claim7 := { stood := { row := topFullRow, standIns := [], harness := (true, "b9ecf976b6306105840aac86f1774f67dc77425e2d1e1ab0908ad696b99d1a92"), looks := true }, kinds := [], alts := [], laidByText := true, laidKinds := [.data, .data, .data, .data, .sentinel, .sentinel, .pinned], laidTests := true, laidLooks := .later }
def TopFullCardSaid : Prop := Claim7.holds Tryz.pinned (.plain (OpenSpec.ofChange topFullSpec)) topFullCard

/-- THE SECOND FORM's CARD OF 'minuterietop.TopDog'. -/
def topDogUptoCard : Claim7 := { stood := { row := topDogUptoRow, standIns := [], harness := (true, "b9ecf976b6306105840aac86f1774f67dc77425e2d1e1ab0908ad696b99d1a92"), looks := true }, kinds := [], alts := [], laidByText := true, laidKinds := [.data, .data, .data, .data, .sentinel, .sentinel, .pinned], laidTests := true, laidLooks := .later }
def TopDogUptoCardSaid : Prop := Claim7.holds Tryz.pinned (.plain (OpenSpec.upto topDogSpec)) topDogUptoCard

/-- THE SECOND FORM's CARD OF 'minuterietop.TopLatency'. -/
def topLatencyUptoCard : Claim7 := { stood := { row := topLatencyUptoRow, standIns := [], harness := (true, "b9ecf976b6306105840aac86f1774f67dc77425e2d1e1ab0908ad696b99d1a92"), looks := true }, kinds := [], alts := [], laidByText := true, laidKinds := [.data, .data, .data, .data, .sentinel, .sentinel, .pinned], laidTests := true, laidLooks := .later }
def TopLatencyUptoCardSaid : Prop := Claim7.holds Tryz.pinned (.plain (OpenSpec.upto topLatencySpec)) topLatencyUptoCard

/-- THE SECOND FORM's CARD OF 'minuterietop.TopGaps'. -/
def topGapsUptoCard : Claim7 := { stood := { row := topGapsUptoRow, standIns := [], harness := (true, "b9ecf976b6306105840aac86f1774f67dc77425e2d1e1ab0908ad696b99d1a92"), looks := true }, kinds := [], alts := [], laidByText := true, laidKinds := [.data, .data, .data, .data, .sentinel, .sentinel, .pinned], laidTests := true, laidLooks := .later }
def TopGapsUptoCardSaid : Prop := Claim7.holds Tryz.pinned (.plain (OpenSpec.upto topGapsSpec)) topGapsUptoCard

/-- THE SECOND FORM's CARD OF 'minuterietop.TopFull'. -/
def topFullUptoCard : Claim7 := { stood := { row := topFullUptoRow, standIns := [], harness := (true, "b9ecf976b6306105840aac86f1774f67dc77425e2d1e1ab0908ad696b99d1a92"), looks := true }, kinds := [], alts := [], laidByText := true, laidKinds := [.data, .data, .data, .data, .sentinel, .sentinel, .pinned], laidTests := true, laidLooks := .later }
def TopFullUptoCardSaid : Prop := Claim7.holds Tryz.pinned (.plain (OpenSpec.upto topFullSpec)) topFullUptoCard
end Rows
end Go.Proofs.YtkndlfdpmpdihaaGreatDoor
