/-
  DotB: cmp.Or at two values, dot.order.
  Conditions: none.
-/
import Derived.Test.YtbpahaciegfpfaaDotA
namespace Go.Proofs.Ytbpahaciegfpfaa
open Go Go.Ck
set_option maxRecDepth 100000
set_option linter.unusedVariables false

theorem or2_sp (x y : Int) (b T : Nat) (h : View) (w : World) (s : St ⟨w, h, doms [Res.blk b (.cells #[.int .i64 x, .int .i64 y] T)]⟩ h [Res.blk b (.cells #[.int .i64 x, .int .i64 y] T)] w) :
    Calls Try.prog 70 [Value.slice (some ⟨b, 0, none⟩) 2 2].toArray w fun e w' => ∃ u : Unit, e = .returned (.int .i64 (if x ≠ 0 then x else y)) ∧ St ⟨w, h, doms [Res.blk b (.cells #[.int .i64 x, .int .i64 y] T)]⟩ h [Res.blk b (.cells #[.int .i64 x, .int .i64 y] T)] w' ∧ True := by
  refine calls_enter Try.func70 rfl Try.ntmps70 rfl s ?_
  repeat' (first | refine tw_ ?_ | (refine ta_ ?_; intro _) | ((fail_if_success (refine ybi rfl ?_)); refine ybj rfl ?_ ?_ <;> (intro ht; rw [ht]; first | replace ht := of_decide_eq_true ht | replace ht := of_decide_eq_false ht | skip)) | (refine ych ?_; first | (refine ybw rfl ?_ ?_ <;> intro ht) | (refine ybx rfl ?_ ?_ <;> intro ht)))
  refine cx_loop (X := Nat) (fun k => [(3, .int .i64 0), (6, .slice (some ⟨b, 0, none⟩) 2 2), (7, .int .i64 2), (8, .int .i64 k)]) (fun _ => h) (fun _ => _) (fun k => k ≤ 2 ∧ (0 < k → x = 0) ∧ (1 < k → y = 0)) (fun k => 2 - k) 0 (by omega) ?_ (fun _ s => s) ?_
  · exact .cons rfl rfl (.cons rfl rfl (.cons rfl rfl (.cons rfl rfl .nil)))
  rintro k ⟨hk, h1, h2⟩
  by_cases h0 : k = 0
  · subst h0
    repeat' (first | refine tw_ ?_ | (refine ta_ ?_; intro _) | ((fail_if_success (refine ybi rfl ?_)); refine ybj rfl ?_ ?_ <;> (intro ht; rw [ht]; first | replace ht := of_decide_eq_true ht | replace ht := of_decide_eq_false ht | skip)) | (refine ych ?_; first | (refine ybw rfl ?_ ?_ <;> intro ht) | (refine ybx rfl ?_ ?_ <;> intro ht)))
    · refine nx_ret1 rfl (rv_tmp rfl) (fun w' s' => ⟨(), ?_, s', trivial⟩)
      rw [if_pos (by assumption)]
    · refine nx_round 1 (by omega) (by omega) ?_ (fun _ s => s)
      exact .cons rfl rfl (.cons rfl rfl (.cons rfl rfl (.cons rfl rfl .nil)))
  by_cases h0 : k = 1
  · subst h0
    repeat' (first | refine tw_ ?_ | (refine ta_ ?_; intro _) | ((fail_if_success (refine ybi rfl ?_)); refine ybj rfl ?_ ?_ <;> (intro ht; rw [ht]; first | replace ht := of_decide_eq_true ht | replace ht := of_decide_eq_false ht | skip)) | (refine ych ?_; first | (refine ybw rfl ?_ ?_ <;> intro ht) | (refine ybx rfl ?_ ?_ <;> intro ht)))
    · refine nx_ret1 rfl (rv_tmp rfl) (fun w' s' => ⟨(), ?_, s', trivial⟩)
      rw [if_neg (by have := h1 (by omega); simp [this])]
    · refine nx_round 2 (by omega) (by omega) ?_ (fun _ s => s)
      exact .cons rfl rfl (.cons rfl rfl (.cons rfl rfl (.cons rfl rfl .nil)))
  · have : k = 2 := by omega
    subst this
    repeat' (first | refine tw_ ?_ | (refine ta_ ?_; intro _) | ((fail_if_success (refine ybi rfl ?_)); refine ybj rfl ?_ ?_ <;> (intro ht; rw [ht]; first | replace ht := of_decide_eq_true ht | replace ht := of_decide_eq_false ht | skip)) | (refine ych ?_; first | (refine ybw rfl ?_ ?_ <;> intro ht) | (refine ybx rfl ?_ ?_ <;> intro ht)))
    refine nx_ret1 rfl (rv_tmp rfl) (fun w' s' => ⟨(), ?_, s', trivial⟩)
    rw [if_neg (by have := h1 (by omega); simp [this]), h2 (by omega)]

theorem order_sp (a b : Dt) (h : View) (w : World) (s : St ⟨w, h, []⟩ h [] w) :
    Calls Try.prog 56 [dv a, dv b].toArray w fun e w' => e = .returned (.int .i64 (ordD a b)) ∧ St ⟨w, h, []⟩ h [] w' := by
  refine calls_enter Try.func56 rfl Try.ntmps56 rfl s ?_
  repeat' (first | refine tw_ ?_ | (refine ta_ ?_; intro _) | ((fail_if_success (refine ybi rfl ?_)); refine ybj rfl ?_ ?_ <;> (intro ht; rw [ht]; first | replace ht := of_decide_eq_true ht | replace ht := of_decide_eq_false ht | skip)) | (refine ych ?_; first | (refine ybw rfl ?_ ?_ <;> intro ht) | (refine ybx rfl ?_ ?_ <;> intro ht)))
  refine cx_region_draw' rfl (by kernel_rfl) ?_
  repeat' (refine ycf ?_; (first | refine tz_ ?_ | ((fail_if_success (refine ybi rfl ?_)); refine ybj rfl ?_ ?_ <;> (intro ht; rw [ht]; first | replace ht := of_decide_eq_true ht | replace ht := of_decide_eq_false ht | skip)) | (refine tb_ ?_ ?_ ?_; (· exact to_); (· intro _; exact to_); intro _) | refine ycg ?_))
  (refine ycn (ycp Try.func71 rfl (by kernel_rfl) rfl) (compare_sp _ _ h) rfl rfl rfl ?_ ?_; (· (exact to_)))
  repeat' (refine ycf ?_; (first | refine tz_ ?_ | ((fail_if_success (refine ybi rfl ?_)); refine ybj rfl ?_ ?_ <;> (intro ht; rw [ht]; first | replace ht := of_decide_eq_true ht | replace ht := of_decide_eq_false ht | skip)) | (refine tb_ ?_ ?_ ?_; (· exact to_); (· intro _; exact to_); intro _) | refine ycg ?_))
  (refine ycn (ycp Try.func71 rfl (by kernel_rfl) rfl) (compare_sp _ _ h) rfl rfl rfl ?_ ?_; (· (exact to_)))
  repeat' (refine ycf ?_; (first | refine tz_ ?_ | ((fail_if_success (refine ybi rfl ?_)); refine ybj rfl ?_ ?_ <;> (intro ht; rw [ht]; first | replace ht := of_decide_eq_true ht | replace ht := of_decide_eq_false ht | skip)) | (refine tb_ ?_ ?_ ?_; (· exact to_); (· intro _; exact to_); intro _) | refine ycg ?_))
  (refine rx_call_m (ycp Try.func70 rfl (by kernel_rfl) rfl) (perm_at (k := 0) rfl) (or2_sp _ _ _ _ h) rfl rfl rfl ?_ ?_ ?_; (· (exact to_)); (· intro _ _ hle; (exact to_)); intro x px hle)
  repeat' (refine ycf ?_; (first | refine tz_ ?_ | ((fail_if_success (refine ybi rfl ?_)); refine ybj rfl ?_ ?_ <;> (intro ht; rw [ht]; first | replace ht := of_decide_eq_true ht | replace ht := of_decide_eq_false ht | skip)) | (refine tb_ ?_ ?_ ?_; (· exact to_); (· intro _; exact to_); intro _) | refine ycg ?_))
  repeat' (first | refine tw_ ?_ | (refine ta_ ?_; intro _) | ((fail_if_success (refine ybi rfl ?_)); refine ybj rfl ?_ ?_ <;> (intro ht; rw [ht]; first | replace ht := of_decide_eq_true ht | replace ht := of_decide_eq_false ht | skip)) | (refine ych ?_; first | (refine ybw rfl ?_ ?_ <;> intro ht) | (refine ybx rfl ?_ ?_ <;> intro ht)))
  exact nx_ret1 rfl (rv_tmp rfl) (fun w' s' => ⟨rfl, s'.nil⟩)
end Go.Proofs.Ytbpahaciegfpfaa
