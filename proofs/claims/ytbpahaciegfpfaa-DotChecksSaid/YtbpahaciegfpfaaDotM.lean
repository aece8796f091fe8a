/-
  DotM: the law's own helper dots; a sorted permutation is unique.
  Conditions: none.
-/
import Derived.Test.YtbpahaciegfpfaaDotL
namespace Go.Proofs.Ytbpahaciegfpfaa
open Go Go.Ck Go.Shelf
set_option maxRecDepth 100000
set_option maxHeartbeats 1000000
set_option linter.unusedVariables false

theorem sorted_uniq {l m k : List Dt} (h1 : l.Perm k) (h2 : SortedD l) (h3 : m.Perm k) (h4 : SortedD m) : l = m := by
  refine List.Perm.eq_of_pairwise (le := fun x y => ¬ ordD y x < 0) (fun a b _ _ h5 h6 => ?_) h2 h4 (h1.trans h3.symm)
  have e1 := ord_lt b a
  have e2 := ord_lt a b
  unfold ltOf at e1 e2
  rw [decide_eq_decide] at e1 e2
  obtain ⟨a1, a2⟩ := a
  obtain ⟨b1, b2⟩ := b
  simp only at e1 e2 h5 h6
  have : a1 = b1 ∧ a2 = b2 := by omega
  rw [this.1, this.2]

theorem dots_sp (h : View) (w : World) (s : St ⟨w, h, []⟩ h [] w) :
    Calls Try.prog 11 [].toArray w fun e w' => e = .returned (.bool true) ∧ St ⟨w, h, []⟩ h [] w' := by
  refine calls_enter Try.func11 rfl Try.ntmps11 rfl s ?_
  repeat' (first | refine tw_ ?_ | (refine ta_ ?_; intro _) | ((fail_if_success (refine ybi rfl ?_)); refine ybj rfl ?_ ?_ <;> (intro ht; rw [ht]; first | replace ht := of_decide_eq_true ht | replace ht := of_decide_eq_false ht | skip)) | (refine ych ?_; first | (refine ybw rfl ?_ ?_ <;> intro ht) | (refine ybx rfl ?_ ?_ <;> intro ht)))
  have c1 : Cx h (cxv zeroU (.slice none 0 0)) zeroU [] := ⟨rfl, _, rfl, Sc.nil h 2 none 0⟩
  (refine yco (ycp Try.func9 rfl (by kernel_rfl) rfl) (Add_sp _ zeroU [] (1, 2) h c1 (by simp)) rfl rfl rfl ?_ ?_ ?_; (· (exact to_)); (· intro _ _ hle; (exact to_)); intro x px hle)
  obtain ⟨h1, v1, srt, er⟩ := x
  replace hle : Le h h1 := hle
  have hle1 := hle
  obtain ⟨k1, px⟩ : srt = [(1, 2)] ∧ er = 0 ∧ Cx h1 v1 zeroU [(1, 2)] := by
    have q1 : checkC zeroU [] = 0 := by decide
    rw [if_neg (by simp [q1]; decide)] at px
    obtain ⟨p1, p2, p3⟩ := px
    have : srt = [(1, 2)] := by simpa using p1
    subst this
    refine ⟨rfl, ?_⟩
    exact p3
  obtain ⟨rfl, hu1, mv1, rfl, hs1⟩ := px
  obtain ⟨_, ad1, cap1, rfl, _, _⟩ := id hs1
  repeat' (first | refine tw_ ?_ | (refine ta_ ?_; intro _) | ((fail_if_success (refine ybi rfl ?_)); refine ybj rfl ?_ ?_ <;> (intro ht; rw [ht]; first | replace ht := of_decide_eq_true ht | replace ht := of_decide_eq_false ht | skip)) | (refine ych ?_; first | (refine ybw rfl ?_ ?_ <;> intro ht) | (refine ybx rfl ?_ ?_ <;> intro ht)))
  clear px
  have c2 : Cx h1 (cxv zeroU (.slice ad1 [((1 : Int), (2 : Int))].length cap1)) zeroU [(1, 2)] := ⟨rfl, _, rfl, hs1⟩
  (refine yco (ycp Try.func9 rfl (by kernel_rfl) rfl) (Add_sp _ zeroU [(1, 2)] (1, 1) h1 c2 (by simp)) rfl rfl rfl ?_ ?_ ?_; (· (exact to_)); (· intro _ _ hle; (exact to_)); intro x px hle)
  obtain ⟨h2, v2, srt2, er⟩ := x
  replace hle : Le h1 h2 := hle
  have hle2 := hle
  obtain ⟨er0, pz⟩ : er = 0 ∧ Cx h2 v2 (2 :: List.replicate 15 0) [] := by
    have q1 : checkC zeroU [(1, 2)] = 0 := by decide
    rw [if_neg (by simp [q1]; decide)] at px
    obtain ⟨p1, p2, p3⟩ := px
    have : srt2 = [(1, 1), (1, 2)] := by
      refine sorted_uniq p1 p2 ?_ ?_
      · decide
      · unfold SortedD; decide
    dsimp only at p3
    rw [this] at p3
    exact p3
  clear px
  subst er0
  obtain ⟨hu2, mv2, rfl, hs2⟩ := pz
  obtain ⟨_, ad2, cap2, rfl, _, _⟩ := id hs2
  have c3 : Cx h2 (cxv (2 :: List.replicate 15 0) (.slice ad2 0 cap2)) (2 :: List.replicate 15 0) [] := ⟨rfl, _, rfl, hs2⟩
  have hhas := Has_sp _ _ _ (1, 2) h2 c3 (by simp)
  have eh : (decide (checkC (2 :: List.replicate 15 0) [] = 0) && rightB (1, 2) && hasC (2 :: List.replicate 15 0) [] (1, 2)) = true := by decide
  rw [eh] at hhas
  repeat' (first | refine tw_ ?_ | (refine ta_ ?_; intro _) | ((fail_if_success (refine ybi rfl ?_)); refine ybj rfl ?_ ?_ <;> (intro ht; rw [ht]; first | replace ht := of_decide_eq_true ht | replace ht := of_decide_eq_false ht | skip)) | (refine ych ?_; first | (refine ybw rfl ?_ ?_ <;> intro ht) | (refine ybx rfl ?_ ?_ <;> intro ht)))
  (refine ycn (ycp Try.func13 rfl (by kernel_rfl) rfl) (hhas) rfl rfl rfl ?_ ?_; (· (exact to_)))
  repeat' (first | refine tw_ ?_ | (refine ta_ ?_; intro _) | ((fail_if_success (refine ybi rfl ?_)); refine ybj rfl ?_ ?_ <;> (intro ht; rw [ht]; first | replace ht := of_decide_eq_true ht | replace ht := of_decide_eq_false ht | skip)) | (refine ych ?_; first | (refine ybw rfl ?_ ?_ <;> intro ht) | (refine ybx rfl ?_ ?_ <;> intro ht)))
  exact nx_ret1 rfl (rv_tmp rfl) (fun w' s' => ⟨rfl, s'.base⟩)
end Go.Proofs.Ytbpahaciegfpfaa
