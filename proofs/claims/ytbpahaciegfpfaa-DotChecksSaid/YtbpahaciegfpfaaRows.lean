/-
  No cell of these rows narrows 'for every input' (looked for: loops, veiled, ifaces, maps, wideKeys, modest, calm, conditions, laid).
  DERIVED. THE GIVEN ROWS OF THIS SEAT. 6 by the template 'for every input the law returns true; each argument reads behind the call as it read before'; 0 by the template 'total and deterministic' (their statements: YtbpahaciegfpfaaTotals.lean).
  GIVEN WITH THE SEED: the statements are not yours to turn. If you find one false, say at which input.
  Laid BY PROGRAM, IN A SANDBOX (cutbox-rows.mjs): the forced cells as the released guide's own fill.sh prints them over the translation 2393aec3329c4288… (all of the seat's roots in one cut). By AI agents, Wed Nov 11 2026. No macro, syntax, notation, axiom, sorry.
-/
import Derived.Test.YtbpahaciegfpfaaChecked
import GoSem.Claim
import GoSem.ClaimJoined
import GoSem.ClaimMapViews
import Derived.JoinedTies
import Derived.KernelRfl
namespace Go.Proofs.Ytbpahaciegfpfaa
/- THE CELL 'sum', in the pinned program and in every row, IS THE sha256 OF THE DUMP (.gsa) THAT YtbpahaciegfpfaaProg.lean LOADS. Nothing in Lean hashes anything: it is a label: what it is worth is what the hold of that sum in a sandbox is worth. -/
noncomputable def Try.pinned : Pinned := { name := "ytbpahaciegfpfaa", sum := "2393aec3329c42887042084e292127dec520bc7827af11b5dd6db7aeb9e3fe2d", checked := Try.checked }
namespace Rows
def none {H : Type} : Left H := { results := [], args := [] }

/-- 'casketlaw14.DotGrows': WHATEVER THE INPUT: true; the input reads as it did. -/
def dotGrowsSpec : ChangeSpec := { name := "dotGrows", fn := fun _ => fun
  | [d1, d2] => { results := [.lit (.bool true)], args := [d1, d2] }
  | _ => none }
def dotGrowsRow : OpenClaim := { program := "ytbpahaciegfpfaa", sum := "2393aec3329c42887042084e292127dec520bc7827af11b5dd6db7aeb9e3fe2d", func := "casket/casketlaw14.DotGrows", spec := "dotGrows", unfollowed := true, recurses := true, apart := false }
def DotGrowsSaid : Prop := dotGrowsRow.holds Try.pinned (OpenSpec.ofChange dotGrowsSpec)

/-- ITS FALSE NEIGHBOUR: 'it returns false'. Refute it at one input. -/
def dotGrowsWrong : ChangeSpec := { name := "dotGrows", fn := fun _ => fun
  | [d1, d2] => { results := [.lit (.bool false)], args := [d1, d2] }
  | _ => none }
def DotGrowsWrongFalsely : Prop := dotGrowsRow.holds Try.pinned (OpenSpec.ofChange dotGrowsWrong)

/-- 'casketlaw14.DotNext': WHATEVER THE INPUT: true; the input reads as it did. -/
def dotNextSpec : ChangeSpec := { name := "dotNext", fn := fun _ => fun
  | [d1, d2, d3] => { results := [.lit (.bool true)], args := [d1, d2, d3] }
  | _ => none }
def dotNextRow : OpenClaim := { program := "ytbpahaciegfpfaa", sum := "2393aec3329c42887042084e292127dec520bc7827af11b5dd6db7aeb9e3fe2d", func := "casket/casketlaw14.DotNext", spec := "dotNext", unfollowed := true, recurses := true, apart := false }
def DotNextSaid : Prop := dotNextRow.holds Try.pinned (OpenSpec.ofChange dotNextSpec)

/-- ITS FALSE NEIGHBOUR: 'it returns false'. Refute it at one input. -/
def dotNextWrong : ChangeSpec := { name := "dotNext", fn := fun _ => fun
  | [d1, d2, d3] => { results := [.lit (.bool false)], args := [d1, d2, d3] }
  | _ => none }
def DotNextWrongFalsely : Prop := dotNextRow.holds Try.pinned (OpenSpec.ofChange dotNextWrong)

/-- 'casketlaw14.DotJoins': WHATEVER THE INPUT: true; the input reads as it did. -/
def dotJoinsSpec : ChangeSpec := { name := "dotJoins", fn := fun _ => fun
  | [d1, d2, d3] => { results := [.lit (.bool true)], args := [d1, d2, d3] }
  | _ => none }
def dotJoinsRow : OpenClaim := { program := "ytbpahaciegfpfaa", sum := "2393aec3329c42887042084e292127dec520bc7827af11b5dd6db7aeb9e3fe2d", func := "casket/casketlaw14.DotJoins", spec := "dotJoins", unfollowed := true, recurses := true, apart := false }
def DotJoinsSaid : Prop := dotJoinsRow.holds Try.pinned (OpenSpec.ofChange dotJoinsSpec)

/-- ITS FALSE NEIGHBOUR: 'it returns false'. Refute it at one input. -/
def dotJoinsWrong : ChangeSpec := { name := "dotJoins", fn := fun _ => fun
  | [d1, d2, d3] => { results := [.lit (.bool false)], args := [d1, d2, d3] }
  | _ => none }
def DotJoinsWrongFalsely : Prop := dotJoinsRow.holds Try.pinned (OpenSpec.ofChange dotJoinsWrong)

/-- 'casketlaw14.DotUnion': WHATEVER THE INPUT: true; the input reads as it did. -/
def dotUnionSpec : ChangeSpec := { name := "dotUnion", fn := fun _ => fun
  | [d1, d2, d3] => { results := [.lit (.bool true)], args := [d1, d2, d3] }
  | _ => none }
def dotUnionRow : OpenClaim := { program := "ytbpahaciegfpfaa", sum := "2393aec3329c42887042084e292127dec520bc7827af11b5dd6db7aeb9e3fe2d", func := "casket/casketlaw14.DotUnion", spec := "dotUnion", unfollowed := true, recurses := true, apart := false }
def DotUnionSaid : Prop := dotUnionRow.holds Try.pinned (OpenSpec.ofChange dotUnionSpec)

/-- ITS FALSE NEIGHBOUR: 'it returns false'. Refute it at one input. -/
def dotUnionWrong : ChangeSpec := { name := "dotUnion", fn := fun _ => fun
  | [d1, d2, d3] => { results := [.lit (.bool false)], args := [d1, d2, d3] }
  | _ => none }
def DotUnionWrongFalsely : Prop := dotUnionRow.holds Try.pinned (OpenSpec.ofChange dotUnionWrong)

/-- 'casketlaw14.DotReads': WHATEVER THE INPUT: true; the input reads as it did. -/
def dotReadsSpec : ChangeSpec := { name := "dotReads", fn := fun _ => fun
  | [d] => { results := [.lit (.bool true)], args := [d] }
  | _ => none }
def dotReadsRow : OpenClaim := { program := "ytbpahaciegfpfaa", sum := "2393aec3329c42887042084e292127dec520bc7827af11b5dd6db7aeb9e3fe2d", func := "casket/casketlaw14.DotReads", spec := "dotReads", unfollowed := true, recurses := true, apart := false }
def DotReadsSaid : Prop := dotReadsRow.holds Try.pinned (OpenSpec.ofChange dotReadsSpec)

/-- ITS FALSE NEIGHBOUR: 'it returns false'. Refute it at one input. -/
def dotReadsWrong : ChangeSpec := { name := "dotReads", fn := fun _ => fun
  | [d] => { results := [.lit (.bool false)], args := [d] }
  | _ => none }
def DotReadsWrongFalsely : Prop := dotReadsRow.holds Try.pinned (OpenSpec.ofChange dotReadsWrong)

/-- 'casketlaw14.DotChecks': WHATEVER THE INPUT: true; the input reads as it did. -/
def dotChecksSpec : ChangeSpec := { name := "dotChecks", fn := fun _ => fun
  | [d1, d2, d3] => { results := [.lit (.bool true)], args := [d1, d2, d3] }
  | _ => none }
def dotChecksRow : OpenClaim := { program := "ytbpahaciegfpfaa", sum := "2393aec3329c42887042084e292127dec520bc7827af11b5dd6db7aeb9e3fe2d", func := "casket/casketlaw14.DotChecks", spec := "dotChecks", unfollowed := true, recurses := true, apart := false }
def DotChecksSaid : Prop := dotChecksRow.holds Try.pinned (OpenSpec.ofChange dotChecksSpec)

/-- ITS FALSE NEIGHBOUR: 'it returns false'. Refute it at one input. -/
def dotChecksWrong : ChangeSpec := { name := "dotChecks", fn := fun _ => fun
  | [d1, d2, d3] => { results := [.lit (.bool false)], args := [d1, d2, d3] }
  | _ => none }
def DotChecksWrongFalsely : Prop := dotChecksRow.holds Try.pinned (OpenSpec.ofChange dotChecksWrong)

/- THE SECOND FORM. 'bulk': how many values and letters a reading holds, each counted each time it is reached (what is shared counts as often as it is met; a slice's spare places count too). A statement '..UptoSaid' is the law's where the arguments, and the package variables that the reading takes, are together of bulk at most 1048576: NARROWER than '..Said'. Prove '..Said' where nothing that the law and all that it calls make is longer than what came in: it says more and counts as full. Else prove '..UptoSaid'. A law counts once. -/
mutual
def uptoBulk {H : Type} : DataW H → Nat
  | .lit (.string bytes) => bytes.length + 1
  | .lit _ => 1
  | .nil => 1
  | .ptr d => uptoBulk d + 1
  | .slice elems spare => uptoBulkAll elems + uptoBulkAll spare + 1
  | .agg parts => uptoBulkAll parts + 1
  | .iface _ d => uptoBulk d + 1
  | .map entries => uptoBulkEntries entries + 1
  | .held _ => 1
def uptoBulkAll {H : Type} : List (DataW H) → Nat
  | [] => 0
  | d :: r => uptoBulk d + uptoBulkAll r
def uptoBulkEntries {H : Type} : List (Lit × DataW H) → Nat
  | [] => 0
  | x :: r => uptoBulkEntry x + uptoBulkEntries r
def uptoBulkEntry {H : Type} : Lit × DataW H → Nat
  | (.string bytes, d) => bytes.length + uptoBulk d + 1
  | (_, d) => uptoBulk d + 1
 end
def uptoSmall : (H : Type) → List (DataW H) → Bool := fun _ ds => decide (uptoBulkAll ds ≤ 1048576)
def OpenSpec.upto (s : _root_.Go.ChangeSpec) : _root_.Go.OpenSpec := { _root_.Go.OpenSpec.ofChange s with cond := some uptoSmall }

/-- 'casketlaw14.DotGrows', WHERE WHAT IT READS IS OF BULK AT MOST 1048576: true; the input reads as it did. -/
def dotGrowsUptoRow : OpenClaim := { program := "ytbpahaciegfpfaa", sum := "2393aec3329c42887042084e292127dec520bc7827af11b5dd6db7aeb9e3fe2d", func := "casket/casketlaw14.DotGrows", spec := "dotGrows", unfollowed := true, recurses := true, apart := false, narrowed := true }
def DotGrowsUptoSaid : Prop := dotGrowsUptoRow.holds Try.pinned (OpenSpec.upto dotGrowsSpec)

/-- 'casketlaw14.DotNext', WHERE WHAT IT READS IS OF BULK AT MOST 1048576: true; the input reads as it did. -/
def dotNextUptoRow : OpenClaim := { program := "ytbpahaciegfpfaa", sum := "2393aec3329c42887042084e292127dec520bc7827af11b5dd6db7aeb9e3fe2d", func := "casket/casketlaw14.DotNext", spec := "dotNext", unfollowed := true, recurses := true, apart := false, narrowed := true }
def DotNextUptoSaid : Prop := dotNextUptoRow.holds Try.pinned (OpenSpec.upto dotNextSpec)

/-- 'casketlaw14.DotJoins', WHERE WHAT IT READS IS OF BULK AT MOST 1048576: true; the input reads as it did. -/
def dotJoinsUptoRow : OpenClaim := { program := "ytbpahaciegfpfaa", sum := "2393aec3329c42887042084e292127dec520bc7827af11b5dd6db7aeb9e3fe2d", func := "casket/casketlaw14.DotJoins", spec := "dotJoins", unfollowed := true, recurses := true, apart := false, narrowed := true }
def DotJoinsUptoSaid : Prop := dotJoinsUptoRow.holds Try.pinned (OpenSpec.upto dotJoinsSpec)

/-- 'casketlaw14.DotUnion', WHERE WHAT IT READS IS OF BULK AT MOST 1048576: true; the input reads as it did. -/
def dotUnionUptoRow : OpenClaim := { program := "ytbpahaciegfpfaa", sum := "2393aec3329c42887042084e292127dec520bc7827af11b5dd6db7aeb9e3fe2d", func := "casket/casketlaw14.DotUnion", spec := "dotUnion", unfollowed := true, recurses := true, apart := false, narrowed := true }
def DotUnionUptoSaid : Prop := dotUnionUptoRow.holds Try.pinned (OpenSpec.upto dotUnionSpec)

/-- 'casketlaw14.DotReads', WHERE WHAT IT READS IS OF BULK AT MOST 1048576: true; the input reads as it did. -/
def dotReadsUptoRow : OpenClaim := { program := "ytbpahaciegfpfaa", sum := "2393aec3329c42887042084e292127dec520bc7827af11b5dd6db7aeb9e3fe2d", func := "casket/casketlaw14.DotReads", spec := "dotReads", unfollowed := true, recurses := true, apart := false, narrowed := true }
def DotReadsUptoSaid : Prop := dotReadsUptoRow.holds Try.pinned (OpenSpec.upto dotReadsSpec)

/-- 'casketlaw14.DotChecks', WHERE WHAT IT READS IS OF BULK AT MOST 1048576: true; the input reads as it did. -/
def dotChecksUptoRow : OpenClaim := { program := "ytbpahaciegfpfaa", sum := "2393aec3329c42887042084e292127dec520bc7827af11b5dd6db7aeb9e3fe2d", func := "casket/casketlaw14.DotChecks", spec := "dotChecks", unfollowed := true, recurses := true, apart := false, narrowed := true }
def DotChecksUptoSaid : Prop := dotChecksUptoRow.holds Try.pinned (OpenSpec.upto dotChecksSpec)

end Rows
end Go.Proofs.Ytbpahaciegfpfaa
