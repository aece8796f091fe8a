/-
  DERIVED. GIVEN WITH THE SEED: THE CARDS: each row of YtkkjppeaaicgaaaGreatDoorRows.lean that lists a variable, with what it lists TIED to the program's text (the seventh form; the later family's looks); each row that meets fmt, with fmt's text TOLD by the authors' own Lean function (tested against real Go, not proved from fmt's source: count such statements apart). THE CARD IS WHAT COUNTS. Prove the row's statement (the work); the ties are given (YtkkjppeaaicgaaaGreatDoorTie.lean); close each card by the builder's one call (the guide's Derived/Test/ToyasCard.lean, 'card_holds'). Laid BY PROGRAM, IN A SANDBOX (cutbox-door.mjs). By AI agents, Wed Nov 11 2026. No macro, syntax, notation, axiom, sorry.
-/
import Derived.Test.YtkkjppeaaicgaaaGreatDoorRows
import GoSem.ClaimSeven
namespace Go.Proofs.YtkkjppeaaicgaaaGreatDoor
namespace Rows

/-- THE TIED CARD OF 'casketlaw15.SiblingChecks'. -/
def siblingChecksCard : Claim7 := { stood := { row := siblingChecksRow, standIns := [], harness := (true, "2a5163d0a5fd22ff7e92408deef2f776072b4cb5d178ededc7d75030ffa51a55"), looks := false }, kinds := [], alts := [], laidByText := true, laidKinds := [.data, .data], laidTests := true, laidLooks := .later }
def SiblingChecksCardSaid : Prop := Claim7.holds Tryz.pinned (.plain (OpenSpec.ofChange siblingChecksSpec)) siblingChecksCard

/-- THE SECOND FORM's CARD OF 'casketlaw15.SiblingChecks'. -/
def siblingChecksUptoCard : Claim7 := { stood := { row := siblingChecksUptoRow, standIns := [], harness := (true, "2a5163d0a5fd22ff7e92408deef2f776072b4cb5d178ededc7d75030ffa51a55"), looks := false }, kinds := [], alts := [], laidByText := true, laidKinds := [.data, .data], laidTests := true, laidLooks := .later }
def SiblingChecksUptoCardSaid : Prop := Claim7.holds Tryz.pinned (.plain (OpenSpec.upto siblingChecksSpec)) siblingChecksUptoCard
end Rows
end Go.Proofs.YtkkjppeaaicgaaaGreatDoor
