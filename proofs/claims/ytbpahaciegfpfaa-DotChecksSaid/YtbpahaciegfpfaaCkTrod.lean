/-
  CkTrod: what a reading of an argument says of its cells: structs, arrays.
  Conditions: none.
-/
import Derived.Deep.Slices
import Derived.Carry
import Derived.DataReads
import Derived.Test.YtbpahaciegfpfaaCkSl
namespace Go.Ck
open Go Go.ChangeShapes
set_option linter.unusedVariables false
section
variable {H : Type} {enc : TypeId × Value → H} {P : Program} {w : World} {base : Nat} {spare : Nat → Bool} {held : Bool}

theorem trod_fields {t : TypeId} {fs : Array Field} {fuel : Nat} {cs : List Value} {x : DataW H × List MemPlace} (ht : P.underlying t = some (.struct fs)) (h : DataW.trod enc P w base spare held fuel t cs = some x) :
    cs.length = P.cellsOf t ∧ ∀ f ∈ fs.toList, ∃ m y, DataW.trod enc P w base spare held m f.type ((cs.drop f.offset).take (P.cellsOf f.type)) = some y := by
  cases fuel with
  | zero => simp [DataW.trod] at h
  | succ n =>
    unfold DataW.trod at h
    simp only [ht] at h
    split at h
    · rename_i hl
      obtain ⟨xs, hxs, _⟩ := Option.map_eq_some_iff.1 h
      refine ⟨hl, fun f hf => ?_⟩
      obtain ⟨i, hi, rfl⟩ := List.getElem_of_mem hf
      have := mapM_some_get hxs i _ (List.getElem?_eq_getElem hi)
      have hlen := mapM_some_length hxs
      rw [List.getElem?_eq_getElem (by omega)] at this
      exact ⟨n, _, this⟩
    · cases h

theorem trod_elems {t e : TypeId} {k fuel : Nat} {cs : List Value} {x : DataW H × List MemPlace} (ht : P.underlying t = some (.array k e)) (h : DataW.trod enc P w base spare held fuel t cs = some x) :
    cs.length = P.cellsOf t ∧ ∀ i, i < k → ∃ m y, DataW.trod enc P w base spare held m e ((cs.drop (i * P.cellsOf e)).take (P.cellsOf e)) = some y := by
  cases fuel with
  | zero => simp [DataW.trod] at h
  | succ n =>
    unfold DataW.trod at h
    simp only [ht] at h
    split at h
    · rename_i hl
      obtain ⟨xs, hxs, _⟩ := Option.map_eq_some_iff.1 h
      refine ⟨hl, fun i hi => ?_⟩
      have := mapM_some_get hxs i i (by simp [hi])
      have hlen := mapM_some_length hxs
      rw [List.getElem?_eq_getElem (by simp at hlen; omega)] at this
      exact ⟨n, _, this⟩
    · cases h
end
end Go.Ck
