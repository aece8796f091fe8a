/-
  No cell of these rows narrows 'for every input' (looked for: loops, veiled, ifaces, maps, wideKeys, modest, calm, conditions, laid).
  DERIVED. THE GIVEN ROWS OF THIS SEAT. 6 by the template 'for every input the law returns true; each argument reads behind the call as it read before'; 0 by the template 'total and deterministic' (their statements: YtkkjppeaaicgaaaTotals.lean).
  GIVEN WITH THE SEED: the statements are not yours to turn. If you find one false, say at which input.
  Laid BY PROGRAM, IN A SANDBOX (cutbox-rows.mjs): the forced cells as the released guide's own fill.sh prints them over the translation 2cfd1609f087e529… (all of the seat's roots in one cut). By AI agents, Wed Nov 11 2026. No macro, syntax, notation, axiom, sorry.
-/
import Derived.Test.YtkkjppeaaicgaaaChecked
import GoSem.Claim
import GoSem.ClaimJoined
import GoSem.ClaimMapViews
import Derived.JoinedTies
import Derived.KernelRfl
namespace Go.Proofs.Ytkkjppeaaicgaaa
/- THE CELL 'sum', in the pinned program and in every row, IS THE sha256 OF THE DUMP (.gsa) THAT YtkkjppeaaicgaaaProg.lean LOADS. Nothing in Lean hashes anything: it is a label: what it is worth is what the hold of that sum in a sandbox is worth. -/
noncomputable def Try.pinned : Pinned := { name := "ytkkjppeaaicgaaa", sum := "2cfd1609f087e52922227c29a370fe3ccecdddaa8cf46c434bb9a591ef793051", checked := Try.checked }
namespace Rows
def none {H : Type} : Left H := { results := [], args := [] }

/-- 'casketlaw15.SiblingAlone': WHATEVER THE INPUT: true; the input reads as it did. -/
def siblingAloneSpec : ChangeSpec := { name := "siblingAlone", fn := fun _ => fun
  | [d1, d2] => { results := [.lit (.bool true)], args := [d1, d2] }
  | _ => none }
def siblingAloneRow : OpenClaim := { program := "ytkkjppeaaicgaaa", sum := "2cfd1609f087e52922227c29a370fe3ccecdddaa8cf46c434bb9a591ef793051", func := "casket/casketlaw15.SiblingAlone", spec := "siblingAlone", unfollowed := true, recurses := true, apart := false }
def SiblingAloneSaid : Prop := siblingAloneRow.holds Try.pinned (OpenSpec.ofChange siblingAloneSpec)

/-- ITS FALSE NEIGHBOUR: 'it returns false'. Refute it at one input. -/
def siblingAloneWrong : ChangeSpec := { name := "siblingAlone", fn := fun _ => fun
  | [d1, d2] => { results := [.lit (.bool false)], args := [d1, d2] }
  | _ => none }
def SiblingAloneWrongFalsely : Prop := siblingAloneRow.holds Try.pinned (OpenSpec.ofChange siblingAloneWrong)

/-- 'casketlaw25.RepairTells': WHATEVER THE INPUT: true; the input reads as it did. -/
def repairTellsSpec : ChangeSpec := { name := "repairTells", fn := fun _ => fun
  | [d] => { results := [.lit (.bool true)], args := [d] }
  | _ => none }
def repairTellsRow : OpenClaim := { program := "ytkkjppeaaicgaaa", sum := "2cfd1609f087e52922227c29a370fe3ccecdddaa8cf46c434bb9a591ef793051", func := "casket/casketlaw25.RepairTells", spec := "repairTells", unfollowed := true, recurses := true, apart := false }
def RepairTellsSaid : Prop := repairTellsRow.holds Try.pinned (OpenSpec.ofChange repairTellsSpec)

/-- ITS FALSE NEIGHBOUR: 'it returns false'. Refute it at one input. -/
def repairTellsWrong : ChangeSpec := { name := "repairTells", fn := fun _ => fun
  | [d] => { results := [.lit (.bool false)], args := [d] }
  | _ => none }
def RepairTellsWrongFalsely : Prop := repairTellsRow.holds Try.pinned (OpenSpec.ofChange repairTellsWrong)

/-- 'casketlaw25.RepairDone': WHATEVER THE INPUT: true; the input reads as it did. -/
def repairDoneSpec : ChangeSpec := { name := "repairDone", fn := fun _ => fun
  | [d] => { results := [.lit (.bool true)], args := [d] }
  | _ => none }
def repairDoneRow : OpenClaim := { program := "ytkkjppeaaicgaaa", sum := "2cfd1609f087e52922227c29a370fe3ccecdddaa8cf46c434bb9a591ef793051", func := "casket/casketlaw25.RepairDone", spec := "repairDone", unfollowed := true, recurses := true, apart := false }
def RepairDoneSaid : Prop := repairDoneRow.holds Try.pinned (OpenSpec.ofChange repairDoneSpec)

/-- ITS FALSE NEIGHBOUR: 'it returns false'. Refute it at one input. -/
def repairDoneWrong : ChangeSpec := { name := "repairDone", fn := fun _ => fun
  | [d] => { results := [.lit (.bool false)], args := [d] }
  | _ => none }
def RepairDoneWrongFalsely : Prop := repairDoneRow.holds Try.pinned (OpenSpec.ofChange repairDoneWrong)

/-- 'casketlaw15.SiblingMerges': WHATEVER THE INPUT: true; the input reads as it did. -/
def siblingMergesSpec : ChangeSpec := { name := "siblingMerges", fn := fun _ => fun
  | [d1, d2] => { results := [.lit (.bool true)], args := [d1, d2] }
  | _ => none }
def siblingMergesRow : OpenClaim := { program := "ytkkjppeaaicgaaa", sum := "2cfd1609f087e52922227c29a370fe3ccecdddaa8cf46c434bb9a591ef793051", func := "casket/casketlaw15.SiblingMerges", spec := "siblingMerges", unfollowed := true, recurses := true, apart := false }
def SiblingMergesSaid : Prop := siblingMergesRow.holds Try.pinned (OpenSpec.ofChange siblingMergesSpec)

/-- ITS FALSE NEIGHBOUR: 'it returns false'. Refute it at one input. -/
def siblingMergesWrong : ChangeSpec := { name := "siblingMerges", fn := fun _ => fun
  | [d1, d2] => { results := [.lit (.bool false)], args := [d1, d2] }
  | _ => none }
def SiblingMergesWrongFalsely : Prop := siblingMergesRow.holds Try.pinned (OpenSpec.ofChange siblingMergesWrong)

/-- 'casketlaw15.SiblingOrders': WHATEVER THE INPUT: true; the input reads as it did. -/
def siblingOrdersSpec : ChangeSpec := { name := "siblingOrders", fn := fun _ => fun
  | [d1, d2] => { results := [.lit (.bool true)], args := [d1, d2] }
  | _ => none }
def siblingOrdersRow : OpenClaim := { program := "ytkkjppeaaicgaaa", sum := "2cfd1609f087e52922227c29a370fe3ccecdddaa8cf46c434bb9a591ef793051", func := "casket/casketlaw15.SiblingOrders", spec := "siblingOrders", unfollowed := true, recurses := true, apart := false }
def SiblingOrdersSaid : Prop := siblingOrdersRow.holds Try.pinned (OpenSpec.ofChange siblingOrdersSpec)

/-- ITS FALSE NEIGHBOUR: 'it returns false'. Refute it at one input. -/
def siblingOrdersWrong : ChangeSpec := { name := "siblingOrders", fn := fun _ => fun
  | [d1, d2] => { results := [.lit (.bool false)], args := [d1, d2] }
  | _ => none }
def SiblingOrdersWrongFalsely : Prop := siblingOrdersRow.holds Try.pinned (OpenSpec.ofChange siblingOrdersWrong)

/-- 'casketlaw25.RepairOrder': WHATEVER THE INPUT: true; the input reads as it did. -/
def repairOrderSpec : ChangeSpec := { name := "repairOrder", fn := fun _ => fun
  | [d1, d2, d3] => { results := [.lit (.bool true)], args := [d1, d2, d3] }
  | _ => none }
def repairOrderRow : OpenClaim := { program := "ytkkjppeaaicgaaa", sum := "2cfd1609f087e52922227c29a370fe3ccecdddaa8cf46c434bb9a591ef793051", func := "casket/casketlaw25.RepairOrder", spec := "repairOrder", unfollowed := true, recurses := true, apart := false }
def RepairOrderSaid : Prop := repairOrderRow.holds Try.pinned (OpenSpec.ofChange repairOrderSpec)

/-- ITS FALSE NEIGHBOUR: 'it returns false'. Refute it at one input. -/
def repairOrderWrong : ChangeSpec := { name := "repairOrder", fn := fun _ => fun
  | [d1, d2, d3] => { results := [.lit (.bool false)], args := [d1, d2, d3] }
  | _ => none }
def RepairOrderWrongFalsely : Prop := repairOrderRow.holds Try.pinned (OpenSpec.ofChange repairOrderWrong)

/- THE SECOND FORM. 'bulk': how many values and letters a reading holds, each counted each time it is reached (what is shared counts as often as it is met; a slice's spare places count too). A statement '..UptoSaid' is the law's where the arguments, and the package variables that the reading takes, are together of bulk at most 1048576: NARROWER than '..Said'. Prove '..Said' where nothing that the law and all that it calls make is longer than what came in: it says more and counts as full. Else prove '..UptoSaid'. A law counts once. -/
mutual
def uptoBulk {H : Type} : DataW H → Nat
  | .lit (.string bytes) => bytes.length + 1
  | .lit _ => 1
  | .nil => 1
  | .ptr d => uptoBulk d + 1
  | .slice elems spare => uptoBulkAll elems + uptoBulkAll spare + 1
  | .agg parts => uptoBulkAll parts + 1
  | .iface _ d => uptoBulk d + 1
  | .map entries => uptoBulkEntries entries + 1
  | .held _ => 1
def uptoBulkAll {H : Type} : List (DataW H) → Nat
  | [] => 0
  | d :: r => uptoBulk d + uptoBulkAll r
def uptoBulkEntries {H : Type} : List (Lit × DataW H) → Nat
  | [] => 0
  | x :: r => uptoBulkEntry x + uptoBulkEntries r
def uptoBulkEntry {H : Type} : Lit × DataW H → Nat
  | (.string bytes, d) => bytes.length + uptoBulk d + 1
  | (_, d) => uptoBulk d + 1
 end
def uptoSmall : (H : Type) → List (DataW H) → Bool := fun _ ds => decide (uptoBulkAll ds ≤ 1048576)
def OpenSpec.upto (s : _root_.Go.ChangeSpec) : _root_.Go.OpenSpec := { _root_.Go.OpenSpec.ofChange s with cond := some uptoSmall }

/-- 'casketlaw15.SiblingAlone', WHERE WHAT IT READS IS OF BULK AT MOST 1048576: true; the input reads as it did. -/
def siblingAloneUptoRow : OpenClaim := { program := "ytkkjppeaaicgaaa", sum := "2cfd1609f087e52922227c29a370fe3ccecdddaa8cf46c434bb9a591ef793051", func := "casket/casketlaw15.SiblingAlone", spec := "siblingAlone", unfollowed := true, recurses := true, apart := false, narrowed := true }
def SiblingAloneUptoSaid : Prop := siblingAloneUptoRow.holds Try.pinned (OpenSpec.upto siblingAloneSpec)

/-- 'casketlaw25.RepairTells', WHERE WHAT IT READS IS OF BULK AT MOST 1048576: true; the input reads as it did. -/
def repairTellsUptoRow : OpenClaim := { program := "ytkkjppeaaicgaaa", sum := "2cfd1609f087e52922227c29a370fe3ccecdddaa8cf46c434bb9a591ef793051", func := "casket/casketlaw25.RepairTells", spec := "repairTells", unfollowed := true, recurses := true, apart := false, narrowed := true }
def RepairTellsUptoSaid : Prop := repairTellsUptoRow.holds Try.pinned (OpenSpec.upto repairTellsSpec)

/-- 'casketlaw25.RepairDone', WHERE WHAT IT READS IS OF BULK AT MOST 1048576: true; the input reads as it did. -/
def repairDoneUptoRow : OpenClaim := { program := "ytkkjppeaaicgaaa", sum := "2cfd1609f087e52922227c29a370fe3ccecdddaa8cf46c434bb9a591ef793051", func := "casket/casketlaw25.RepairDone", spec := "repairDone", unfollowed := true, recurses := true, apart := false, narrowed := true }
def RepairDoneUptoSaid : Prop := repairDoneUptoRow.holds Try.pinned (OpenSpec.upto repairDoneSpec)

/-- 'casketlaw15.SiblingMerges', WHERE WHAT IT READS IS OF BULK AT MOST 1048576: true; the input reads as it did. -/
def siblingMergesUptoRow : OpenClaim := { program := "ytkkjppeaaicgaaa", sum := "2cfd1609f087e52922227c29a370fe3ccecdddaa8cf46c434bb9a591ef793051", func := "casket/casketlaw15.SiblingMerges", spec := "siblingMerges", unfollowed := true, recurses := true, apart := false, narrowed := true }
def SiblingMergesUptoSaid : Prop := siblingMergesUptoRow.holds Try.pinned (OpenSpec.upto siblingMergesSpec)

/-- 'casketlaw15.SiblingOrders', WHERE WHAT IT READS IS OF BULK AT MOST 1048576: true; the input reads as it did. -/
def siblingOrdersUptoRow : OpenClaim := { program := "ytkkjppeaaicgaaa", sum := "2cfd1609f087e52922227c29a370fe3ccecdddaa8cf46c434bb9a591ef793051", func := "casket/casketlaw15.SiblingOrders", spec := "siblingOrders", unfollowed := true, recurses := true, apart := false, narrowed := true }
def SiblingOrdersUptoSaid : Prop := siblingOrdersUptoRow.holds Try.pinned (OpenSpec.upto siblingOrdersSpec)

/-- 'casketlaw25.RepairOrder', WHERE WHAT IT READS IS OF BULK AT MOST 1048576: true; the input reads as it did. -/
def repairOrderUptoRow : OpenClaim := { program := "ytkkjppeaaicgaaa", sum := "2cfd1609f087e52922227c29a370fe3ccecdddaa8cf46c434bb9a591ef793051", func := "casket/casketlaw25.RepairOrder", spec := "repairOrder", unfollowed := true, recurses := true, apart := false, narrowed := true }
def RepairOrderUptoSaid : Prop := repairOrderUptoRow.holds Try.pinned (OpenSpec.upto repairOrderSpec)

end Rows
end Go.Proofs.Ytkkjppeaaicgaaa
