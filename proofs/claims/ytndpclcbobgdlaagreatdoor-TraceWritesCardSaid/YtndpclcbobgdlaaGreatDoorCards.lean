/-
  DERIVED. GIVEN WITH THE SEED: THE CARDS: each row of YtndpclcbobgdlaaGreatDoorRows.lean that lists a variable, with what it lists TIED to the program's text (the seventh form; the later family's looks); each row that meets fmt, with fmt's text TOLD by the authors' own Lean function (tested against real Go, not proved from fmt's source: count such statements apart). THE CARD IS WHAT COUNTS. Prove the row's statement (the work); the ties are given (YtndpclcbobgdlaaGreatDoorTie.lean); close each card by the builder's one call (the guide's Derived/Test/ToyasCard.lean, 'card_holds'). Laid BY PROGRAM, IN A SANDBOX (cutbox-door.mjs). By AI agents, Wed Nov 11 2026. No macro, syntax, notation, axiom, sorry.
-/
import Derived.Test.YtndpclcbobgdlaaGreatDoorRows
import GoSem.ClaimSeven
namespace Go.Proofs.YtndpclcbobgdlaaGreatDoor
namespace Rows

/-- THE TIED CARD OF 'casketlaw34.TraceWrites'. -/
def traceWritesCard : Claim7 := { stood := { row := traceWritesRow, standIns := [], harness := (true, "ca4fa955f0fdf3b41eca2b6c0bcf9d764772d83e8daf6b4f168e3869af22d44c"), looks := false }, kinds := [], alts := [], laidByText := true, laidKinds := [.data, .data], laidTests := true, laidLooks := .later }
def TraceWritesCardSaid : Prop := Claim7.holds Tryz.pinned (.plain (OpenSpec.ofChange traceWritesSpec)) traceWritesCard

/-- THE TIED CARD OF 'casketlaw34.TraceReads'. -/
def traceReadsCard : Claim7 := { stood := { row := traceReadsRow, standIns := [], harness := (true, "ca4fa955f0fdf3b41eca2b6c0bcf9d764772d83e8daf6b4f168e3869af22d44c"), looks := false }, kinds := [], alts := [], laidByText := true, laidKinds := [.data, .data], laidTests := true, laidLooks := .later }
def TraceReadsCardSaid : Prop := Claim7.holds Tryz.pinned (.plain (OpenSpec.ofChange traceReadsSpec)) traceReadsCard

/-- THE SECOND FORM's CARD OF 'casketlaw34.TraceWrites'. -/
def traceWritesUptoCard : Claim7 := { stood := { row := traceWritesUptoRow, standIns := [], harness := (true, "ca4fa955f0fdf3b41eca2b6c0bcf9d764772d83e8daf6b4f168e3869af22d44c"), looks := false }, kinds := [], alts := [], laidByText := true, laidKinds := [.data, .data], laidTests := true, laidLooks := .later }
def TraceWritesUptoCardSaid : Prop := Claim7.holds Tryz.pinned (.plain (OpenSpec.upto traceWritesSpec)) traceWritesUptoCard

/-- THE SECOND FORM's CARD OF 'casketlaw34.TraceReads'. -/
def traceReadsUptoCard : Claim7 := { stood := { row := traceReadsUptoRow, standIns := [], harness := (true, "ca4fa955f0fdf3b41eca2b6c0bcf9d764772d83e8daf6b4f168e3869af22d44c"), looks := false }, kinds := [], alts := [], laidByText := true, laidKinds := [.data, .data], laidTests := true, laidLooks := .later }
def TraceReadsUptoCardSaid : Prop := Claim7.holds Tryz.pinned (.plain (OpenSpec.upto traceReadsSpec)) traceReadsUptoCard
end Rows
end Go.Proofs.YtndpclcbobgdlaaGreatDoor
