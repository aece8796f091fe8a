/-
  DotC: slices of dots, contexts as values; slices.Index, slices.Contains, Context.has.
  Conditions: each theorem states its own.
-/
import Derived.Test.YtbpahaciegfpfaaDotB
namespace Go.Proofs.Ytbpahaciegfpfaa
open Go Go.Ck
set_option maxRecDepth 100000
set_option linter.unusedVariables false

theorem dcs_len (d : Dt) : (dcs d).length = 2 := rfl
abbrev Ds (h : View) (v : Value) (l : List Dt) : Prop := Sc h 2 v l.length (l.flatMap dcs)
def up (u : List Int) : List Value := u.map (Value.int .i64)
def cxc (u : List Int) (mv : Value) : List Value := up u ++ [mv]
def cxv (u : List Int) (mv : Value) : Value := .agg (cxc u mv).toArray
/-- a context as a value -/
structure Cx (h : View) (v : Value) (u : List Int) (l : List Dt) : Prop where
  len : u.length = 16
  val : ∃ mv, v = cxv u mv ∧ Ds h mv l

theorem up_len (u : List Int) : (up u).length = u.length := by simp [up]
theorem cxc_up {u : List Int} {mv : Value} {i : Nat} (hi : i < u.length) : (cxc u mv)[i]? = some (.int .i64 (u.getD i 0)) := by
  simp [cxc, up, List.getElem?_append, hi]
theorem cxc_more {u : List Int} {mv : Value} (hu : u.length = 16) : (cxc u mv)[16]? = some mv := by
  simp [cxc, up, hu]
theorem ycl {h : View} {L : List Res} {b o : Nat} {u : List Int} {mv : Value} (c : Cells h L ⟨b, 0, none⟩ (cxc u mv)) (i : Nat) (ho : o = 0 + i) (hi : i < u.length) : CellAt h L b o (.int .i64 (u.getD i 0)) := by
  subst ho; exact c.cell (cxc_up hi)
theorem yck {h : View} {L : List Res} {b o : Nat} {u : List Int} {mv : Value} (c : Cells h L ⟨b, 0, none⟩ (cxc u mv)) (hu : u.length = 16) (ho : o = 0 + 16) : CellAt h L b o mv := by
  subst ho; exact c.cell (cxc_more hu)
theorem ycm {h : View} {L : List Res} {b : Nat} {u : List Int} {mv : Value} (c : Cells h L ⟨b, 0, none⟩ (cxc u mv)) : Cells h L ⟨b, 0, none⟩ (up u) := by
  have := c.take (up u).length
  simpa [cxc] using this
theorem ycj {u : List Int} {mv : Value} (hu : u.length = 16) : (cxc u mv).length = 17 := by simp [cxc, up, hu]

theorem dot_eq (a b : Dt) (w : World) : (Op.equal 24 (.agg (dcs a).toArray) (.agg (dcs b).toArray)).run Try.prog w = .ok (decide (a = b)) w := by
  unfold Op.equal Op.maxDepth
  rw [run_equalIn_struct w 9999 24 _ _ Try.underlying24 Try.stoodInHeld24]
  have h1 : ∀ i j : Int, (Op.equalIn 9999 3 (.int .i64 i) (.int .i64 j)).run Try.prog w = .ok (i == j) w := fun i j => run_equalIn_int w 9998 3 .i64 .i64 i j Try.underlying3
  simp only [Program.fieldsOf, Try.underlying24, Op.eqFields]
  simp [part, Try.isAgg3, dcs, h1]
  by_cases e1 : a.1 = b.1
  · by_cases e2 : a.2 = b.2
    · simp [e1, e2, Prod.ext_iff]
    · simp [e1, e2, Prod.ext_iff]
  · simp [e1, Prod.ext_iff]

theorem index_sp (sv : Value) (l : List Dt) (d : Dt) (h : View) (hs : Ds h sv l) (hl : l.length ≤ 4611686018427387904) (w : World) (s : St ⟨w, h, []⟩ h [] w) :
    Calls Try.prog 72 [sv, dv d].toArray w fun e w' => ∃ r : Int, e = .returned (.int .i64 r) ∧ St ⟨w, h, []⟩ h [] w' ∧ (0 ≤ r ↔ d ∈ l) := by
  obtain ⟨_, ad, cap, rfl, hcap, _⟩ := id hs
  refine calls_enter Try.func72 rfl Try.ntmps72 rfl s ?_
  repeat' (first | refine tw_ ?_ | (refine ta_ ?_; intro _) | ((fail_if_success (refine ybi rfl ?_)); refine ybj rfl ?_ ?_ <;> (intro ht; rw [ht]; first | replace ht := of_decide_eq_true ht | replace ht := of_decide_eq_false ht | skip)) | (refine ych ?_; first | (refine ybw rfl ?_ ?_ <;> intro ht) | (refine ybx rfl ?_ ?_ <;> intro ht)))
  rename_i b
  refine cx_loop (X := Nat) (fun k => [(0, .slice ad l.length cap), (3, .pointer (some ⟨b, 0, none⟩)), (7, .int .i64 l.length), (8, .int .i64 k)]) (fun _ => h) (fun _ => _) (fun k => k ≤ l.length ∧ ∀ j (hj : j < l.length), j < k → l[j] ≠ d) (fun k => l.length - k) 0 ⟨by omega, by omega⟩ ?_ (fun _ s => s) ?_
  · exact .cons rfl rfl (.cons rfl rfl (.cons rfl rfl (.cons rfl rfl .nil)))
  rintro k ⟨hk, hno⟩
  by_cases hkl : k < l.length
  · obtain ⟨bs, o, rfl⟩ := hs.ad (by omega) (by omega)
    have hel : ∀ L, Cells h L ⟨bs, o + k * 2, none⟩ (dcs l[k]) := fun L => hs.elem dcs_len k hkl
    repeat' (first | refine tw_ ?_ | (refine ta_ ?_; intro _) | ((fail_if_success (refine ybi rfl ?_)); refine ybj rfl ?_ ?_ <;> (intro ht; rw [ht]; first | replace ht := of_decide_eq_true ht | replace ht := of_decide_eq_false ht | skip)) | (refine ych ?_; first | (refine ybw rfl ?_ ?_ <;> intro ht) | (refine ybx rfl ?_ ?_ <;> intro ht)))
    · refine cx_region_draw' rfl (by kernel_rfl) ?_
      repeat' (refine ycf ?_;(first|(first|(apply ybm;(·(first|(first|(refine yad rfl (hel _) ?_;rfl)|exact qv_eql_agg rfl rfl (fun w => dot_eq _ _ w))|exact tq_));(·rfl);(·rfl);(·(exact th_)))|refine ybl rfl rfl ?_|((fail_if_success (refine ybi rfl ?_));refine ybj rfl ?_ ?_<;>(intro ht;rw [ht];first|replace ht := of_decide_eq_true ht|replace ht := of_decide_eq_false ht|skip))|(refine tb_ ?_ ?_ ?_;(·(exact to_));(·intro _;(exact to_));intro _)|(first|(refine tqs_ ?_ ?_ ?_;(·(exact to_));(·(exact to_))))|(apply ybn;(·(first|(first|(refine yad rfl (hel _) ?_;rfl)|exact qv_eql_agg rfl rfl (fun w => dot_eq _ _ w))|exact tq_));(·rfl);(·rfl);(·rfl);(·(exact to_))))|refine ycg ?_))
      repeat' (first | (refine ycf ?_; apply ybk; (· first | (first | (refine yad rfl (hel _) ?_; rfl) | exact qv_eql_agg rfl rfl (fun w => dot_eq _ _ w))); (· rfl); (· rfl)) | refine t1_ ?_ | (refine ta_ ?_; intro _) | ((fail_if_success (refine ybi rfl ?_)); refine ybj rfl ?_ ?_ <;> (intro ht; rw [ht]; first | replace ht := of_decide_eq_true ht | replace ht := of_decide_eq_false ht | skip)) | (refine ych ?_; first | (refine ybw rfl ?_ ?_ <;> intro ht) | (refine ybx rfl ?_ ?_ <;> intro ht)))
      · refine nx_ret1 rfl (rv_tmp rfl) (fun w' s' => ⟨_, rfl, s'.nil, ?_⟩)
        subst ht
        simp
      · refine nx_round (k + 1) ⟨by omega, fun j hj hjk => ?_⟩ (by omega) ?_ (fun _ s => s)
        · by_cases hjk' : j = k
          · subst hjk'; exact fun e => ht e.symm
          · exact hno j hj (by omega)
        exact .cons rfl rfl (.cons rfl rfl (.cons rfl rfl (.cons rfl rfl .nil)))
    · omega
  · repeat' (first | (refine ycf ?_; apply ybk; (· first | (first | (refine yad rfl (hel _) ?_; rfl) | exact qv_eql_agg rfl rfl (fun w => dot_eq _ _ w))); (· rfl); (· rfl)) | refine t1_ ?_ | (refine ta_ ?_; intro _) | ((fail_if_success (refine ybi rfl ?_)); refine ybj rfl ?_ ?_ <;> (intro ht; rw [ht]; first | replace ht := of_decide_eq_true ht | replace ht := of_decide_eq_false ht | skip)) | (refine ych ?_; first | (refine ybw rfl ?_ ?_ <;> intro ht) | (refine ybx rfl ?_ ?_ <;> intro ht)))
    · omega
    · refine nx_ret1 rfl (rv_tmp rfl) (fun w' s' => ⟨_, rfl, s'.nil, ?_⟩)
      constructor
      · intro hx; omega
      · intro hm
        obtain ⟨j, hj, rfl⟩ := List.getElem_of_mem hm
        exact absurd rfl (hno j hj (by omega))

theorem contains_sp (sv : Value) (l : List Dt) (d : Dt) (h : View) (hs : Ds h sv l) (hl : l.length ≤ 4611686018427387904) (w : World) (s : St ⟨w, h, []⟩ h [] w) :
    Calls Try.prog 57 [sv, dv d].toArray w fun e w' => e = .returned (.bool (decide (d ∈ l))) ∧ St ⟨w, h, []⟩ h [] w' := by
  refine calls_enter Try.func57 rfl Try.ntmps57 rfl s ?_
  repeat' (first | (refine ycf ?_; apply ybk; (· first | (first | (refine yad rfl (hel _) ?_; rfl) | exact qv_eql_agg rfl rfl (fun w => dot_eq _ _ w))); (· rfl); (· rfl)) | refine t1_ ?_ | (refine ta_ ?_; intro _) | ((fail_if_success (refine ybi rfl ?_)); refine ybj rfl ?_ ?_ <;> (intro ht; rw [ht]; first | replace ht := of_decide_eq_true ht | replace ht := of_decide_eq_false ht | skip)) | (refine ych ?_; first | (refine ybw rfl ?_ ?_ <;> intro ht) | (refine ybx rfl ?_ ?_ <;> intro ht)))
  (refine yco (ycp Try.func72 rfl (by kernel_rfl) rfl) (index_sp _ l d h hs hl) rfl rfl rfl ?_ ?_ ?_; (· (exact to_)); (· intro _ _ hle; (exact to_)); intro x px hle)
  repeat' (first | (refine ycf ?_; apply ybk; (· first | (first | (refine yad rfl (hel _) ?_; rfl) | exact qv_eql_agg rfl rfl (fun w => dot_eq _ _ w))); (· rfl); (· rfl)) | refine t1_ ?_ | (refine ta_ ?_; intro _) | ((fail_if_success (refine ybi rfl ?_)); refine ybj rfl ?_ ?_ <;> (intro ht; rw [ht]; first | replace ht := of_decide_eq_true ht | replace ht := of_decide_eq_false ht | skip)) | (refine ych ?_; first | (refine ybw rfl ?_ ?_ <;> intro ht) | (refine ybx rfl ?_ ?_ <;> intro ht)))
  refine nx_ret1 rfl (rv_tmp rfl) (fun w' s' => ⟨?_, s'.nil⟩)
  congr 2; rw [decide_eq_decide]; exact px
end Go.Proofs.Ytbpahaciegfpfaa
