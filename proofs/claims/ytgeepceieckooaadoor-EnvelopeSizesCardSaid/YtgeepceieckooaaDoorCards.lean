/-
  DERIVED. GIVEN WITH THE SEED: THE CARDS: each row of YtgeepceieckooaaDoorRows.lean that lists a variable, with what it lists TIED to the program's text (the seventh form; the later family's looks); each row that meets fmt, with fmt's text TOLD by the authors' own Lean function (tested against real Go, not proved from fmt's source: count such statements apart). THE CARD IS WHAT COUNTS. Prove the row's statement (the work); the ties are given (YtgeepceieckooaaDoorTie.lean); close each card by the builder's one call (the guide's Derived/Test/ToyasCard.lean, 'card_holds'). Laid BY PROGRAM, IN A SANDBOX (cutbox-door.mjs). By AI agents, Wed Nov 11 2026. No macro, syntax, notation, axiom, sorry.
-/
import Derived.Test.YtgeepceieckooaaDoorRows
import GoSem.ClaimSeven
namespace Go.Proofs.YtgeepceieckooaaDoor
namespace Rows

/-- THE TIED CARD OF 'casketlaw13.EnvelopeForged'. -/
def envelopeForgedCard : Claim7 := { stood := { row := envelopeForgedRow, standIns := [], harness := (true, "c3e3c9af9286cf59d951cbefbced9dccc18d9562c9faf93a24800c82dfc3d4a8"), looks := false }, kinds := [], alts := [], laidByText := true, laidKinds := [.data, .data], laidTests := true, laidLooks := .later }
def EnvelopeForgedCardSaid : Prop := Claim7.holds Tryd.pinned (.plain (OpenSpec.ofChange envelopeForgedSpec)) envelopeForgedCard

/-- THE TIED CARD OF 'casketlaw13.EnvelopeSizes'. -/
def envelopeSizesCard : Claim7 := { stood := { row := envelopeSizesRow, standIns := [], harness := (true, "c3e3c9af9286cf59d951cbefbced9dccc18d9562c9faf93a24800c82dfc3d4a8"), looks := false }, kinds := [], alts := [], laidByText := true, laidKinds := [.data, .data], laidTests := true, laidLooks := .later }
def EnvelopeSizesCardSaid : Prop := Claim7.holds Tryd.pinned (.plain (OpenSpec.ofChange envelopeSizesSpec)) envelopeSizesCard

/-- THE SECOND FORM's CARD OF 'casketlaw13.EnvelopeForged'. -/
def envelopeForgedUptoCard : Claim7 := { stood := { row := envelopeForgedUptoRow, standIns := [], harness := (true, "c3e3c9af9286cf59d951cbefbced9dccc18d9562c9faf93a24800c82dfc3d4a8"), looks := false }, kinds := [], alts := [], laidByText := true, laidKinds := [.data, .data], laidTests := true, laidLooks := .later }
def EnvelopeForgedUptoCardSaid : Prop := Claim7.holds Tryd.pinned (.plain (OpenSpec.upto envelopeForgedSpec)) envelopeForgedUptoCard

/-- THE SECOND FORM's CARD OF 'casketlaw13.EnvelopeSizes'. -/
def envelopeSizesUptoCard : Claim7 := { stood := { row := envelopeSizesUptoRow, standIns := [], harness := (true, "c3e3c9af9286cf59d951cbefbced9dccc18d9562c9faf93a24800c82dfc3d4a8"), looks := false }, kinds := [], alts := [], laidByText := true, laidKinds := [.data, .data], laidTests := true, laidLooks := .later }
def EnvelopeSizesUptoCardSaid : Prop := Claim7.holds Tryd.pinned (.plain (OpenSpec.upto envelopeSizesSpec)) envelopeSizesUptoCard
end Rows
end Go.Proofs.YtgeepceieckooaaDoor
