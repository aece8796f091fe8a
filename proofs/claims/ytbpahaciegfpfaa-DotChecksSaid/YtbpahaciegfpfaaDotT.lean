/-
  DotT: slices.Grow of the nil slice; slices.Concat.
  Conditions: at most a million dots in all.
-/
import Derived.Test.YtbpahaciegfpfaaCkGrow
import Derived.Test.YtbpahaciegfpfaaDotH
namespace Go.Proofs.Ytbpahaciegfpfaa
open Go Go.Ck
set_option maxRecDepth 100000
set_option maxHeartbeats 1000000
set_option linter.unusedVariables false

theorem Grow_sp (m : Nat) (hm : m ≤ 1000000) (h : View) (w : World) (s : St ⟨w, h, []⟩ h [] w) :
    Calls Try.prog 58 [.slice none 0 0, .int .i64 m].toArray w fun e w' => ∃ v, e = .returned v ∧ St ⟨w, h, []⟩ h [rowD v []] w' ∧ True := by
  refine calls_enter Try.func58 rfl Try.ntmps58 rfl s ?_
  repeat' (first | (refine ycf ?_; apply ybk; (· first | (first | (apply qv_cap; rfl) | (apply qv_slice_to; (· rfl); (· rfl); (· omega); (· omega)))); (· rfl); (· rfl)) | refine t1_ ?_ | (refine ta_ ?_; intro _) | ((fail_if_success (refine ybi rfl ?_)); refine ybj rfl ?_ ?_ <;> (intro ht; rw [ht]; first | replace ht := of_decide_eq_true ht | replace ht := of_decide_eq_false ht | skip)) | (refine ych ?_; first | (refine ybw rfl ?_ ?_ <;> intro ht) | (refine ybx rfl ?_ ?_ <;> intro ht)))
  · refine rx_row 24 2 ?_
    have hm0 : 0 < m := by omega
    have e1 : (m : Int) - (((0 : Nat) : Int) - ((0 : Nat) : Int)) = m := by omega
    rw [e1]
    refine rx_grow_nil 0 rfl rfl rfl hm0 rfl (by omega) (by unfold maxLen; omega) (by omega) rfl rfl rfl ybf (fun _ _ => ybf) ?_
    intro b cap hc1 hc2
    refine rx_cut 0 0 rfl (Nat.zero_le _) ?_
    repeat' (first | (refine ycf ?_; apply ybk; (· first | (first | (apply qv_cap; rfl) | (apply qv_slice_to; (· rfl); (· rfl); (· omega); (· omega)))); (· rfl); (· rfl)) | refine t1_ ?_ | (refine ta_ ?_; intro _) | ((fail_if_success (refine ybi rfl ?_)); refine ybj rfl ?_ ?_ <;> (intro ht; rw [ht]; first | replace ht := of_decide_eq_true ht | replace ht := of_decide_eq_false ht | skip)) | (refine ych ?_; first | (refine ybw rfl ?_ ?_ <;> intro ht) | (refine ybx rfl ?_ ?_ <;> intro ht)))
    refine nx_ret1 rfl (rv_tmp rfl) (fun w' s' => ⟨_, rfl, ?_, trivial⟩)
    exact s'
  · refine nx_ret1 rfl (rv_tmp rfl) (fun w' s' => ⟨_, rfl, ?_, trivial⟩)
    exact s'.rowNil _ _

def flatP (parts : List (Value × List Dt)) (k : Nat) : List Dt := (parts.take k).flatMap (·.2)
theorem flatP_succ {parts : List (Value × List Dt)} {k : Nat} (hk : k < parts.length) : flatP parts (k + 1) = flatP parts k ++ parts[k].2 := by
  unfold flatP
  rw [List.take_succ_eq_append_getElem hk, List.flatMap_append]
  simp
theorem flatP_le {parts : List (Value × List Dt)} {k : Nat} (hk : k ≤ parts.length) : (flatP parts k).length ≤ (flatP parts parts.length).length := by
  unfold flatP
  rw [List.take_length]
  conv => rhs; rw [← List.take_append_drop k parts]
  rw [List.flatMap_append, List.length_append]
  omega

theorem Concat_sp (sv : Value) (parts : List (Value × List Dt)) (h : View) (hs : Sc h 1 sv parts.length (parts.map (·.1))) (hp : ∀ p ∈ parts, Ds h p.1 p.2) (hlen : (flatP parts parts.length).length ≤ 1000000) (hpl : parts.length ≤ 1000000) (w : World) (s : St ⟨w, h, []⟩ h [] w) :
    Calls Try.prog 37 [sv].toArray w fun e w' => ∃ v, e = .returned v ∧ St ⟨w, h, []⟩ h [rowD v (flatP parts parts.length)] w' ∧ True := by
  obtain ⟨_, ad, cap, rfl, hcap, _⟩ := id hs
  refine calls_enter Try.func37 rfl Try.ntmps37 rfl s ?_
  repeat' (first | (refine ycf ?_; apply ybk; (· first | (first | (apply qv_cap; rfl) | (apply qv_slice_to; (· rfl); (· rfl); (· omega); (· omega)))); (· rfl); (· rfl)) | refine t1_ ?_ | (refine ta_ ?_; intro _) | ((fail_if_success (refine ybi rfl ?_)); refine ybj rfl ?_ ?_ <;> (intro ht; rw [ht]; first | replace ht := of_decide_eq_true ht | replace ht := of_decide_eq_false ht | skip)) | (refine ych ?_; first | (refine ybw rfl ?_ ?_ <;> intro ht) | (refine ybx rfl ?_ ?_ <;> intro ht)))
  refine cx_loop (X := Nat) (fun k => [(0, .slice ad parts.length cap), (3, .int .i64 (flatP parts k).length), (9, .slice ad parts.length cap), (10, .int .i64 parts.length), (11, .int .i64 k)]) (fun _ => h) (fun _ => []) (fun k => k ≤ parts.length) (fun k => parts.length - k) 0 (Nat.zero_le _) ts_ (fun _ s => s) ?_
  intro k hk
  by_cases hkl : k < parts.length
  · obtain ⟨bs, o, rfl⟩ := hs.ad (by omega) (by omega)
    have hel : ∀ L, CellAt h L bs (o + k * 1) parts[k].1 := fun L => (hs.cells (L := L)).cell (by simp [hkl])
    have hd := hp _ (List.getElem_mem hkl)
    obtain ⟨_, ad1, cap1, hv1, _, _⟩ := id hd
    have e1 := flatP_succ hkl
    have h1 := flatP_le (parts := parts) (k := k + 1) hkl
    have h2 : (flatP parts (k + 1)).length = (flatP parts k).length + parts[k].2.length := by rw [e1, List.length_append]
    rw [hv1] at hel
    repeat' (first | (refine ycf ?_; apply ybk; (· first | (first | (apply qv_cap; rfl) | (apply qv_slice_to; (· rfl); (· rfl); (· omega); (· omega))) | (apply yae; (· rfl); (· exact hel _))); (· rfl); (· rfl)) | refine t1_ ?_ | (refine ta_ ?_; intro _) | ((fail_if_success (refine ybi rfl ?_)); refine ybj rfl ?_ ?_ <;> (intro ht; rw [ht]; first | replace ht := of_decide_eq_true ht | replace ht := of_decide_eq_false ht | skip)) | (refine ych ?_; first | (refine ybw rfl ?_ ?_ <;> intro ht) | (refine ybx rfl ?_ ?_ <;> intro ht)))
    · refine nx_round (k + 1) (by show k + 1 ≤ _; omega) (by show parts.length - (k + 1) < parts.length - k; omega) ?_ (fun _ s => s)
      rw [h2]
      exact ts_
    · omega
  · have ek : k = parts.length := by omega
    subst ek
    repeat' (first | (refine ycf ?_; apply ybk; (· first | (first | (apply qv_cap; rfl) | (apply qv_slice_to; (· rfl); (· rfl); (· omega); (· omega))) | (apply yae; (· rfl); (· exact hel _))); (· rfl); (· rfl)) | refine t1_ ?_ | (refine ta_ ?_; intro _) | ((fail_if_success (refine ybi rfl ?_)); refine ybj rfl ?_ ?_ <;> (intro ht; rw [ht]; first | replace ht := of_decide_eq_true ht | replace ht := of_decide_eq_false ht | skip)) | (refine ych ?_; first | (refine ybw rfl ?_ ?_ <;> intro ht) | (refine ybx rfl ?_ ?_ <;> intro ht)))
    · omega
    (refine yco (ycp Try.func58 rfl (by kernel_rfl) rfl) (Grow_sp (flatP parts parts.length).length hlen h) rfl rfl rfl ?_ ?_ ?_; (· (exact to_)); (· intro _ _ hle; (exact to_)); intro x px hle)
    repeat' (first | (refine ycf ?_; apply ybk; (· first | (first | (apply qv_cap; rfl) | (apply qv_slice_to; (· rfl); (· rfl); (· omega); (· omega))) | (apply yae; (· rfl); (· exact hel _))); (· rfl); (· rfl)) | refine t1_ ?_ | (refine ta_ ?_; intro _) | ((fail_if_success (refine ybi rfl ?_)); refine ybj rfl ?_ ?_ <;> (intro ht; rw [ht]; first | replace ht := of_decide_eq_true ht | replace ht := of_decide_eq_false ht | skip)) | (refine ych ?_; first | (refine ybw rfl ?_ ?_ <;> intro ht) | (refine ybx rfl ?_ ?_ <;> intro ht)))
    have e0 : flatP parts 0 = [] := rfl
    refine cx_loop (X := Nat × Value) (fun y => [(6, y.2), (25, .slice ad parts.length cap), (26, .int .i64 parts.length), (27, .int .i64 y.1)]) (fun _ => h) (fun y => [rowD y.2 (flatP parts y.1)]) (fun y => y.1 ≤ parts.length) (fun y => parts.length - y.1) (0, x) (Nat.zero_le _) ts_ (fun _ s => s) ?_
    rintro ⟨k, v⟩ hk
    replace hk : k ≤ parts.length := hk
    dsimp only
    by_cases hkl : k < parts.length
    · obtain ⟨bs, o, rfl⟩ := hs.ad (by omega) (by omega)
      have hel : ∀ L, CellAt h L bs (o + k * 1) parts[k].1 := fun L => (hs.cells (L := L)).cell (by simp [hkl])
      have hd := hp _ (List.getElem_mem hkl)
      obtain ⟨_, ad1, cap1, hv1, _, _⟩ := id hd
      have e1 := flatP_succ hkl
      have h1 := flatP_le (parts := parts) (k := k + 1) hkl
      have h2 : (flatP parts (k + 1)).length = (flatP parts k).length + parts[k].2.length := by rw [e1, List.length_append]
      rw [hv1] at hel hd
      repeat' (first | (refine ycf ?_; apply ybk; (· first | (first | (apply qv_cap; rfl) | (apply qv_slice_to; (· rfl); (· rfl); (· omega); (· omega))) | (apply yae; (· rfl); (· exact hel _))); (· rfl); (· rfl)) | refine t1_ ?_ | (refine ta_ ?_; intro _) | ((fail_if_success (refine ybi rfl ?_)); refine ybj rfl ?_ ?_ <;> (intro ht; rw [ht]; first | replace ht := of_decide_eq_true ht | replace ht := of_decide_eq_false ht | skip)) | (refine ych ?_; first | (refine ybw rfl ?_ ?_ <;> intro ht) | (refine ybx rfl ?_ ?_ <;> intro ht)))
      · refine rx_append_sc (sz := 2) 0 rfl rfl rfl hd (one_dcs _) rfl (by omega) (by unfold maxLen; omega) (by omega) rfl rfl rfl ybf (fun _ => ybf) ?_
        intro v2 _
        repeat' (first | (refine ycf ?_; apply ybk; (· first | (first | (apply qv_cap; rfl) | (apply qv_slice_to; (· rfl); (· rfl); (· omega); (· omega))) | (apply yae; (· rfl); (· exact hel _))); (· rfl); (· rfl)) | refine t1_ ?_ | (refine ta_ ?_; intro _) | ((fail_if_success (refine ybi rfl ?_)); refine ybj rfl ?_ ?_ <;> (intro ht; rw [ht]; first | replace ht := of_decide_eq_true ht | replace ht := of_decide_eq_false ht | skip)) | (refine ych ?_; first | (refine ybw rfl ?_ ?_ <;> intro ht) | (refine ybx rfl ?_ ?_ <;> intro ht)))
        refine nx_round (k + 1, v2) (by show k + 1 ≤ _; omega) (by show parts.length - (k + 1) < parts.length - k; omega) ts_ (fun _ s => ?_)
        dsimp only
        unfold rowD
        rw [h2, e1, List.flatMap_append]
        exact s
      · omega
    · have ek : k = parts.length := by omega
      subst ek
      repeat' (first | (refine ycf ?_; apply ybk; (· first | (first | (apply qv_cap; rfl) | (apply qv_slice_to; (· rfl); (· rfl); (· omega); (· omega))) | (apply yae; (· rfl); (· exact hel _))); (· rfl); (· rfl)) | refine t1_ ?_ | (refine ta_ ?_; intro _) | ((fail_if_success (refine ybi rfl ?_)); refine ybj rfl ?_ ?_ <;> (intro ht; rw [ht]; first | replace ht := of_decide_eq_true ht | replace ht := of_decide_eq_false ht | skip)) | (refine ych ?_; first | (refine ybw rfl ?_ ?_ <;> intro ht) | (refine ybx rfl ?_ ?_ <;> intro ht)))
      · omega
      refine nx_ret1 rfl (rv_tmp rfl) (fun w' s' => ⟨_, rfl, ?_, trivial⟩)
      exact s'
end Go.Proofs.Ytbpahaciegfpfaa
