/-
  DERIVED. GIVEN WITH THE SEED: THE CARDS: each row of YtaofgcahmfailaaGreatDoorRows.lean that lists a variable, with what it lists TIED to the program's text (the seventh form; the later family's looks); each row that meets fmt, with fmt's text TOLD by the authors' own Lean function (tested against real Go, not proved from fmt's source: count such statements apart). THE CARD IS WHAT COUNTS. Prove the row's statement (the work); the ties are given (YtaofgcahmfailaaGreatDoorTie.lean); close each card by the builder's one call (the guide's Derived/Test/ToyasCard.lean, 'card_holds'). Laid BY PROGRAM, IN A SANDBOX (cutbox-door.mjs). By AI agents, Wed Nov 11 2026. No macro, syntax, notation, axiom, sorry.
-/
import Derived.Test.YtaofgcahmfailaaGreatDoorRows
import GoSem.ClaimSeven
namespace Go.Proofs.YtaofgcahmfailaaGreatDoor
namespace Rows

/-- THE TIED CARD OF 'casketlaw27.ClientNumbers'. -/
def clientNumbersCard : Claim7 := { stood := { row := clientNumbersRow, standIns := [], harness := (true, "295e1c3be6f823d212642f1a93f157a01962b1a91a14be63c9283c6f967d0aa9"), looks := false }, kinds := [], alts := [], laidByText := true, laidKinds := [.data, .data], laidTests := true, laidLooks := .later }
def ClientNumbersCardSaid : Prop := Claim7.holds Tryz.pinned (.plain (OpenSpec.ofChange clientNumbersSpec)) clientNumbersCard

/-- THE TIED CARD OF 'casketlaw27.ClientBack'. -/
def clientBackCard : Claim7 := { stood := { row := clientBackRow, standIns := [], harness := (true, "295e1c3be6f823d212642f1a93f157a01962b1a91a14be63c9283c6f967d0aa9"), looks := false }, kinds := [], alts := [], laidByText := true, laidKinds := [.data, .data], laidTests := true, laidLooks := .later }
def ClientBackCardSaid : Prop := Claim7.holds Tryz.pinned (.plain (OpenSpec.ofChange clientBackSpec)) clientBackCard

/-- THE TIED CARD OF 'casketlaw27.ClientTrusts'. -/
def clientTrustsCard : Claim7 := { stood := { row := clientTrustsRow, standIns := [], harness := (true, "295e1c3be6f823d212642f1a93f157a01962b1a91a14be63c9283c6f967d0aa9"), looks := false }, kinds := [], alts := [], laidByText := true, laidKinds := [.data, .data], laidTests := true, laidLooks := .later }
def ClientTrustsCardSaid : Prop := Claim7.holds Tryz.pinned (.plain (OpenSpec.ofChange clientTrustsSpec)) clientTrustsCard

/-- THE SECOND FORM's CARD OF 'casketlaw27.ClientNumbers'. -/
def clientNumbersUptoCard : Claim7 := { stood := { row := clientNumbersUptoRow, standIns := [], harness := (true, "295e1c3be6f823d212642f1a93f157a01962b1a91a14be63c9283c6f967d0aa9"), looks := false }, kinds := [], alts := [], laidByText := true, laidKinds := [.data, .data], laidTests := true, laidLooks := .later }
def ClientNumbersUptoCardSaid : Prop := Claim7.holds Tryz.pinned (.plain (OpenSpec.upto clientNumbersSpec)) clientNumbersUptoCard

/-- THE SECOND FORM's CARD OF 'casketlaw27.ClientBack'. -/
def clientBackUptoCard : Claim7 := { stood := { row := clientBackUptoRow, standIns := [], harness := (true, "295e1c3be6f823d212642f1a93f157a01962b1a91a14be63c9283c6f967d0aa9"), looks := false }, kinds := [], alts := [], laidByText := true, laidKinds := [.data, .data], laidTests := true, laidLooks := .later }
def ClientBackUptoCardSaid : Prop := Claim7.holds Tryz.pinned (.plain (OpenSpec.upto clientBackSpec)) clientBackUptoCard

/-- THE SECOND FORM's CARD OF 'casketlaw27.ClientTrusts'. -/
def clientTrustsUptoCard : Claim7 := { stood := { row := clientTrustsUptoRow, standIns := [], harness := (true, "295e1c3be6f823d212642f1a93f157a01962b1a91a14be63c9283c6f967d0aa9"), looks := false }, kinds := [], alts := [], laidByText := true, laidKinds := [.data, .data], laidTests := true, laidLooks := .later }
def ClientTrustsUptoCardSaid : Prop := Claim7.holds Tryz.pinned (.plain (OpenSpec.upto clientTrustsSpec)) clientTrustsUptoCard
end Rows
end Go.Proofs.YtaofgcahmfailaaGreatDoor
