/-
  DotA: cmp.Compare, cmp.Or, dot.order, dot.right: what they return.
  Conditions: none.
-/
import Derived.Test.YtbpahaciegfpfaaCkTy
import Derived.Test.YtbpahaciegfpfaaCkTac
namespace Go.Proofs.Ytbpahaciegfpfaa
open Go Go.Ck
set_option maxRecDepth 100000
set_option linter.unusedVariables false

abbrev Dt := Int × Int
def dcs (d : Dt) : List Value := [.int .i64 d.1, .int .i64 d.2]
def dv (d : Dt) : Value := .agg (dcs d).toArray
def rightB (d : Dt) : Bool := decide (1 ≤ d.1) && decide (d.1 ≤ 16) && decide (1 ≤ d.2) && decide (d.2 ≤ 1099511627776)
def cmpI (x y : Int) : Int := if x < y then -1 else if y < x then 1 else 0
def ordD (a b : Dt) : Int := if cmpI a.1 b.1 ≠ 0 then cmpI a.1 b.1 else cmpI a.2 b.2

theorem right_sp (d : Dt) (h : View) (w : World) (s : St ⟨w, h, []⟩ h [] w) :
    Calls Try.prog 32 [dv d].toArray w fun e w' => e = .returned (.bool (rightB d)) ∧ St ⟨w, h, []⟩ h [] w' := by
  refine calls_enter Try.func32 rfl Try.ntmps32 rfl s ?_
  repeat' (first | refine tw_ ?_ | (refine ta_ ?_; intro _) | ((fail_if_success (refine ybi rfl ?_)); refine ybj rfl ?_ ?_ <;> (intro ht; rw [ht]; first | replace ht := of_decide_eq_true ht | replace ht := of_decide_eq_false ht | skip)) | (refine ych ?_; first | (refine ybw rfl ?_ ?_ <;> intro ht) | (refine ybx rfl ?_ ?_ <;> intro ht)))
  all_goals (refine nx_ret1 rfl (rv_tmp rfl) (fun w' s' => ⟨?_, s'.nil⟩))
  all_goals (congr 2; simp [rightB, *])

theorem isNaN_sp (x : Int) (h : View) (w : World) (s : St ⟨w, h, []⟩ h [] w) :
    Calls Try.prog 81 [Value.int .i64 x].toArray w fun e w' => e = .returned (.bool false) ∧ St ⟨w, h, []⟩ h [] w' := by
  refine calls_enter Try.func81 rfl Try.ntmps81 rfl s ?_
  repeat' (first | refine tw_ ?_ | (refine ta_ ?_; intro _) | ((fail_if_success (refine ybi rfl ?_)); refine ybj rfl ?_ ?_ <;> (intro ht; rw [ht]; first | replace ht := of_decide_eq_true ht | replace ht := of_decide_eq_false ht | skip)) | (refine ych ?_; first | (refine ybw rfl ?_ ?_ <;> intro ht) | (refine ybx rfl ?_ ?_ <;> intro ht)))
  all_goals (refine nx_ret1 rfl (rv_tmp rfl) (fun w' s' => ⟨?_, s'.nil⟩))
  all_goals (congr 2; simp)

theorem compare_sp (x y : Int) (h : View) (w : World) (s : St ⟨w, h, []⟩ h [] w) :
    Calls Try.prog 71 [Value.int .i64 x, .int .i64 y].toArray w fun e w' => e = .returned (.int .i64 (cmpI x y)) ∧ St ⟨w, h, []⟩ h [] w' := by
  refine calls_enter Try.func71 rfl Try.ntmps71 rfl s ?_
  repeat' (first | (first | refine t1_ ?_ | (refine ta_ ?_; intro _) | ((fail_if_success (refine ybi rfl ?_)); refine ybj rfl ?_ ?_ <;> (intro ht; rw [ht]; first | replace ht := of_decide_eq_true ht | replace ht := of_decide_eq_false ht | skip)) | (refine ych ?_; first | (refine ybw rfl ?_ ?_ <;> intro ht) | (refine ybx rfl ?_ ?_ <;> intro ht))) | refine ycn (ycp Try.func81 rfl (by kernel_rfl) rfl) (isNaN_sp _ h) rfl rfl rfl ybf ?_)
  all_goals (refine nx_ret1 rfl (rv_tmp rfl) (fun w' s' => ⟨?_, s'.nil⟩))
  all_goals (congr 2; unfold cmpI; first | rw [if_pos (by assumption)] | rw [if_neg (by omega), if_pos (by omega)] | rw [if_neg (by omega), if_neg (by omega)])
end Go.Proofs.Ytbpahaciegfpfaa
