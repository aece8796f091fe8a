/-
  DERIVED. GIVEN WITH THE SEED: THE CARDS: each row of YtgeepceieckooaaGreatDoorRows.lean that lists a variable, with what it lists TIED to the program's text (the seventh form; the later family's looks); each row that meets fmt, with fmt's text TOLD by the authors' own Lean function (tested against real Go, not proved from fmt's source: count such statements apart). THE CARD IS WHAT COUNTS. Prove the row's statement (the work); the ties are given (YtgeepceieckooaaGreatDoorTie.lean); close each card by the builder's one call (the guide's Derived/Test/ToyasCard.lean, 'card_holds'). Laid BY PROGRAM, IN A SANDBOX (cutbox-door.mjs). By AI agents, Wed Nov 11 2026. No macro, syntax, notation, axiom, sorry.
-/
import Derived.Test.YtgeepceieckooaaGreatDoorRows
import GoSem.ClaimSeven
namespace Go.Proofs.YtgeepceieckooaaGreatDoor
namespace Rows

/-- THE TIED CARD OF 'casketlaw13.EnvelopeOpens'. -/
def envelopeOpensCard : Claim7 := { stood := { row := envelopeOpensRow, standIns := [], harness := (true, "e460a52b07c05c9f10de3709abc8f15b0838e0f29720fe6df3b4cd820e0a7df6"), looks := false }, kinds := [], alts := [], laidByText := true, laidKinds := [.data, .data], laidTests := true, laidLooks := .later }
def EnvelopeOpensCardSaid : Prop := Claim7.holds Tryz.pinned (.plain (OpenSpec.ofChange envelopeOpensSpec)) envelopeOpensCard

/-- THE TIED CARD OF 'casketlaw13.EnvelopeReads'. -/
def envelopeReadsCard : Claim7 := { stood := { row := envelopeReadsRow, standIns := [], harness := (true, "e460a52b07c05c9f10de3709abc8f15b0838e0f29720fe6df3b4cd820e0a7df6"), looks := false }, kinds := [], alts := [], laidByText := true, laidKinds := [.data, .data], laidTests := true, laidLooks := .later }
def EnvelopeReadsCardSaid : Prop := Claim7.holds Tryz.pinned (.plain (OpenSpec.ofChange envelopeReadsSpec)) envelopeReadsCard

/-- THE TIED CARD OF 'casketlaw13.EnvelopeSeals'. -/
def envelopeSealsCard : Claim7 := { stood := { row := envelopeSealsRow, standIns := [], harness := (true, "e460a52b07c05c9f10de3709abc8f15b0838e0f29720fe6df3b4cd820e0a7df6"), looks := false }, kinds := [], alts := [], laidByText := true, laidKinds := [.data, .data], laidTests := true, laidLooks := .later }
def EnvelopeSealsCardSaid : Prop := Claim7.holds Tryz.pinned (.plain (OpenSpec.ofChange envelopeSealsSpec)) envelopeSealsCard

/-- THE SECOND FORM's CARD OF 'casketlaw13.EnvelopeOpens'. -/
def envelopeOpensUptoCard : Claim7 := { stood := { row := envelopeOpensUptoRow, standIns := [], harness := (true, "e460a52b07c05c9f10de3709abc8f15b0838e0f29720fe6df3b4cd820e0a7df6"), looks := false }, kinds := [], alts := [], laidByText := true, laidKinds := [.data, .data], laidTests := true, laidLooks := .later }
def EnvelopeOpensUptoCardSaid : Prop := Claim7.holds Tryz.pinned (.plain (OpenSpec.upto envelopeOpensSpec)) envelopeOpensUptoCard

/-- THE SECOND FORM's CARD OF 'casketlaw13.EnvelopeReads'. -/
def envelopeReadsUptoCard : Claim7 := { stood := { row := envelopeReadsUptoRow, standIns := [], harness := (true, "e460a52b07c05c9f10de3709abc8f15b0838e0f29720fe6df3b4cd820e0a7df6"), looks := false }, kinds := [], alts := [], laidByText := true, laidKinds := [.data, .data], laidTests := true, laidLooks := .later }
def EnvelopeReadsUptoCardSaid : Prop := Claim7.holds Tryz.pinned (.plain (OpenSpec.upto envelopeReadsSpec)) envelopeReadsUptoCard

/-- THE SECOND FORM's CARD OF 'casketlaw13.EnvelopeSeals'. -/
def envelopeSealsUptoCard : Claim7 := { stood := { row := envelopeSealsUptoRow, standIns := [], harness := (true, "e460a52b07c05c9f10de3709abc8f15b0838e0f29720fe6df3b4cd820e0a7df6"), looks := false }, kinds := [], alts := [], laidByText := true, laidKinds := [.data, .data], laidTests := true, laidLooks := .later }
def EnvelopeSealsUptoCardSaid : Prop := Claim7.holds Tryz.pinned (.plain (OpenSpec.upto envelopeSealsSpec)) envelopeSealsUptoCard
end Rows
end Go.Proofs.YtgeepceieckooaaGreatDoor
