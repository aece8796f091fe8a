/-
  DotW: what a join of two contexts comes to, told by sets; when one covers the other.
  Conditions: each theorem states its own.
-/
import Derived.Test.YtbpahaciegfpfaaDotQ
import Derived.Test.YtbpahaciegfpfaaDotU
namespace Go.Proofs.Ytbpahaciegfpfaa
open Go Go.Ck Go.Shelf
set_option maxRecDepth 100000
set_option maxHeartbeats 1000000
set_option linter.unusedVariables false

theorem uD_max {u v : List Int} (hu : u.length = 16) (hv : v.length = 16) (x : Dt) : uD (maxU u v) x = maxI (uD u x) (uD v x) := maxU_at hu hv _

theorem join_inv {u v : List Int} {l m srt : List Dt} (h1 : Inv u l) (h2 : Inv v m) (hp : srt.Perm (l ++ m)) (hs : SortedD srt) :
    Inv (tfold (maxU u v) srt).1 (tfold (maxU u v) srt).2 ∧ ∀ x, rightB x = true → hasC (tfold (maxU u v) srt).1 (tfold (maxU u v) srt).2 x = (hasC u l x || hasC v m x) := by
  have hr : ∀ x ∈ srt, rightB x = true := fun x hx => by
    rcases List.mem_append.1 (hp.mem_iff.1 hx) with hx | hx
    · exact (h1.mor x hx).1
    · exact (h2.mor x hx).1
  obtain ⟨g1, g2⟩ := fold_inv srt (maxU u v) [] ⟨maxU_len h1.len h2.len, max_bd h1.len h2.len h1.bd h2.bd, by simp, by simp⟩ (by simp) hs hr
  refine ⟨g1, fun x hx => ?_⟩
  show hasC (srt.foldl tstep (maxU u v, [])).1 (srt.foldl tstep (maxU u v, [])).2 x = _
  rw [g2 x hx]
  unfold hasC
  rw [uD_max h1.len h2.len]
  have e1 : decide (x ∈ srt) = (decide (x ∈ l) || decide (x ∈ m)) := by
    rw [← Bool.decide_or, decide_eq_decide, hp.mem_iff, List.mem_append]
  have e2 : decide (x.2 ≤ maxI (uD u x) (uD v x)) = (decide (x.2 ≤ uD u x) || decide (x.2 ≤ uD v x)) := by
    rw [← Bool.decide_or, decide_eq_decide]
    unfold maxI
    split <;> omega
  rw [e1, e2, decide_eq_false (List.not_mem_nil (a := x)), Bool.or_false]
  cases decide (x.2 ≤ uD u x) <;> cases decide (x.2 ≤ uD v x) <;> cases decide (x ∈ l) <;> cases decide (x ∈ m) <;> rfl

theorem covers_iff {u v : List Int} {l m : List Dt} (h1 : Inv u l) (h2 : Inv v m) (k1 : checkC u l = 0) (k2 : checkC v m = 0) :
    coversC u l v m = true ↔ ∀ x, rightB x = true → hasC v m x = true → hasC u l x = true := by
  unfold coversC
  rw [decide_eq_true k1, decide_eq_true k2]
  simp only [Bool.true_and, Bool.and_eq_true, Bool.not_eq_true', List.any_eq_false, Bool.not_eq_false']
  constructor
  · rintro ⟨hU, hM⟩ x hx hv
    unfold hasC at hv
    rw [Bool.or_eq_true, decide_eq_true_iff, decide_eq_true_iff] at hv
    rcases hv with hv | hv
    · have hr := right_of hx
      have hi : (x.1 - 1).toNat < 16 := by omega
      have := List.all_eq_true.1 hU _ (List.mem_range.2 hi)
      have := of_decide_eq_true this
      unfold hasC
      rw [decide_eq_true (by unfold uD at hv ⊢; omega)]; rfl
    · simpa using hM x hv
  · intro hs
    refine ⟨List.all_eq_true.2 fun i hi => decide_eq_true (up_le h1 h2 hs i (List.mem_range.1 hi)), fun d hd => ?_⟩
    have hm := (h2.mor d hd).1
    have : hasC v m d = true := by unfold hasC; rw [decide_eq_true hd, Bool.or_true]
    simpa using hs d hm this
end Go.Proofs.Ytbpahaciegfpfaa
