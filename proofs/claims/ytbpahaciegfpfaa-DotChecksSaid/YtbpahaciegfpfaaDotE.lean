/-
  DotE: slices.Clone, slices.Equal, slices.IndexFunc, slices.ContainsFunc at dots.
  Conditions: each theorem states its own (lists of at most a million dots).
-/
import Derived.Test.YtbpahaciegfpfaaDotD
namespace Go.Proofs.Ytbpahaciegfpfaa
open Go Go.Ck
set_option maxRecDepth 100000
set_option maxHeartbeats 2000000
set_option linter.unusedVariables false

theorem one_dcs (l : List Dt) : ∀ u ∈ l.flatMap dcs, u.oneCell' = true := fun u hu => by
  obtain ⟨d, _, hd⟩ := List.mem_flatMap.1 hu
  simp [dcs] at hd
  rcases hd with rfl | rfl <;> rfl

abbrev rowD (v : Value) (l : List Dt) : Res := Res.row 24 2 v l.length (l.flatMap dcs)

theorem clone_sp (sv : Value) (l : List Dt) (h : View) (hs : Ds h sv l) (hl : l.length ≤ 1000000) (w : World) (s : St ⟨w, h, []⟩ h [] w) :
    Calls Try.prog 34 [sv].toArray w fun e w' => ∃ v, e = .returned v ∧ St ⟨w, h, []⟩ h [rowD v l] w' ∧ True := by
  obtain ⟨_, ad, cap, rfl, hcap, _⟩ := id hs
  refine calls_enter Try.func34 rfl Try.ntmps34 rfl s ?_
  repeat' (first | (refine ycf ?_; apply ybk; (· first | (first | (apply qv_eql_slnil <;> rfl))); (· rfl); (· rfl)) | refine t1_ ?_ | (refine ta_ ?_; intro _) | ((fail_if_success (refine ybi rfl ?_)); refine ybj rfl ?_ ?_ <;> (intro ht; rw [ht]; first | replace ht := of_decide_eq_true ht | replace ht := of_decide_eq_false ht | skip)) | (refine ych ?_; first | (refine ybw rfl ?_ ?_ <;> intro ht) | (refine ybx rfl ?_ ?_ <;> intro ht)))
  · cases ad with
    | some ad => cases ht
    | none =>
      have h0 : l = [] := by
        obtain ⟨h1, ad', cap', h2, h3, h4⟩ := hs
        cases h2
        rcases h4 with h4 | ⟨b, o, cs, e, fz, q1, _⟩
        · rw [h4] at h1; simp at h1; exact List.eq_nil_of_length_eq_zero (by omega)
        · cases q1
      subst h0
      refine nx_ret1 rfl (rv_tmp rfl) (fun w' s' => ⟨_, rfl, ?_, trivial⟩)
      exact s'.rowNil _ _
  · refine yba ma_buildSlice0 rfl rfl rfl ybf (fun _ => ybf) ?_
    intro b
    refine rx_rowOf 2 0 0 (by omega) (by unfold maxLen; omega) rfl ?_
    repeat' (first | (refine ycf ?_; apply ybk; (· first | (first | (apply qv_eql_slnil <;> rfl))); (· rfl); (· rfl)) | refine t1_ ?_ | (refine ta_ ?_; intro _) | ((fail_if_success (refine ybi rfl ?_)); refine ybj rfl ?_ ?_ <;> (intro ht; rw [ht]; first | replace ht := of_decide_eq_true ht | replace ht := of_decide_eq_false ht | skip)) | (refine ych ?_; first | (refine ybw rfl ?_ ?_ <;> intro ht) | (refine ybx rfl ?_ ?_ <;> intro ht)))
    refine rx_append_sc (sz := 2) 0 rfl rfl rfl hs (one_dcs l) rfl (by omega) (by unfold maxLen; omega) (by omega) rfl rfl rfl ybf (fun _ => ybf) ?_
    intro v' _
    repeat' (first | (refine ycf ?_; apply ybk; (· first | (first | (apply qv_eql_slnil <;> rfl))); (· rfl); (· rfl)) | refine t1_ ?_ | (refine ta_ ?_; intro _) | ((fail_if_success (refine ybi rfl ?_)); refine ybj rfl ?_ ?_ <;> (intro ht; rw [ht]; first | replace ht := of_decide_eq_true ht | replace ht := of_decide_eq_false ht | skip)) | (refine ych ?_; first | (refine ybw rfl ?_ ?_ <;> intro ht) | (refine ybx rfl ?_ ?_ <;> intro ht)))
    refine nx_ret1 rfl (rv_tmp rfl) (fun w' s' => ⟨_, rfl, ?_, trivial⟩)
    simpa using s'

theorem equal_sp (sv tv : Value) (l m : List Dt) (h : View) (hs : Ds h sv l) (ht : Ds h tv m) (hl : l.length ≤ 4611686018427387904) (hm : m.length ≤ 4611686018427387904) (w : World) (s : St ⟨w, h, []⟩ h [] w) :
    Calls Try.prog 35 [sv, tv].toArray w fun e w' => e = .returned (.bool (decide (l = m))) ∧ St ⟨w, h, []⟩ h [] w' := by
  obtain ⟨_, ad, cap, rfl, hcap, _⟩ := id hs
  obtain ⟨_, ad2, cap2, rfl, hcap2, _⟩ := id ht
  rename_i hsl hxx hml hyy
  have hs2 := ht
  clear ht
  refine calls_enter Try.func35 rfl Try.ntmps35 rfl s ?_
  repeat' (first | (refine ycf ?_; apply ybk; (· first | (first | (apply qv_eql_slnil <;> rfl))); (· rfl); (· rfl)) | refine t1_ ?_ | (refine ta_ ?_; intro _) | ((fail_if_success (refine ybi rfl ?_)); refine ybj rfl ?_ ?_ <;> (intro ht; rw [ht]; first | replace ht := of_decide_eq_true ht | replace ht := of_decide_eq_false ht | skip)) | (refine ych ?_; first | (refine ybw rfl ?_ ?_ <;> intro ht) | (refine ybx rfl ?_ ?_ <;> intro ht)))
  · refine nx_ret1 rfl (rv_tmp rfl) (fun w' s' => ⟨?_, s'.nil⟩)
    have : l ≠ m := fun e => by subst e; omega
    simp [this]
  have hlm : l.length = m.length := by omega
  refine cx_loop (X := Nat) (fun k => [(0, .slice ad l.length cap), (1, .slice ad2 m.length cap2), (12, .int .i64 l.length), (13, .int .i64 k)]) (fun _ => h) (fun _ => _) (fun k => k ≤ l.length ∧ l.take k = m.take k) (fun k => l.length - k) 0 ⟨by omega, by simp⟩ ts_ (fun _ s => s) ?_
  rintro k ⟨hk, hek⟩
  by_cases hkl : k < l.length
  · have hkm : k < m.length := by omega
    obtain ⟨bs, o, rfl⟩ := hs.ad (by omega) (by omega)
    obtain ⟨bs2, o2, rfl⟩ := hs2.ad (by omega) (by omega)
    have hel : ∀ L, Cells h L ⟨bs, o + k * 2, none⟩ (dcs l[k]) := fun L => hs.elem dcs_len k hkl
    have hel2 : ∀ L, Cells h L ⟨bs2, o2 + k * 2, none⟩ (dcs m[k]) := fun L => hs2.elem dcs_len k hkm
    repeat' (first | (refine ycf ?_; apply ybk; (· first | (first | (apply yad; (· rfl); (· first | exact hel _ | exact hel2 _); (· rfl)) | (apply qv_neq_agg; (· rfl); (· rfl); (· exact fun w => dot_eq _ _ w)))); (· rfl); (· rfl)) | refine t1_ ?_ | (refine ta_ ?_; intro _) | ((fail_if_success (refine ybi rfl ?_)); refine ybj rfl ?_ ?_ <;> (intro ht; rw [ht]; first | replace ht := of_decide_eq_true ht | replace ht := of_decide_eq_false ht | skip)) | (refine ych ?_; first | (refine ybw rfl ?_ ?_ <;> intro ht) | (refine ybx rfl ?_ ?_ <;> intro ht)))
    · refine cx_region_draw' rfl (by kernel_rfl) ?_
      repeat' (refine ycf ?_;(first|(first|(apply ybm;(·(first|(first|(apply yad;(·rfl);(·first|exact hel _|exact hel2 _);(·rfl))|(apply qv_neq_agg;(·rfl);(·rfl);(·exact fun w => dot_eq _ _ w)))|exact tq_));(·rfl);(·rfl);(·(exact th_)))|refine ybl rfl rfl ?_|((fail_if_success (refine ybi rfl ?_));refine ybj rfl ?_ ?_<;>(intro ht;rw [ht];first|replace ht := of_decide_eq_true ht|replace ht := of_decide_eq_false ht|skip))|(refine tb_ ?_ ?_ ?_;(·(exact to_));(·intro _;(exact to_));intro _)|(first|(refine tqs_ ?_ ?_ ?_;(·(exact to_));(·(exact to_))))|(apply ybn;(·(first|(first|(apply yad;(·rfl);(·first|exact hel _|exact hel2 _);(·rfl))|(apply qv_neq_agg;(·rfl);(·rfl);(·exact fun w => dot_eq _ _ w)))|exact tq_));(·rfl);(·rfl);(·rfl);(·(exact to_))))|refine ycg ?_))
      repeat' (first | (refine ycf ?_; apply ybk; (· first | (first | (apply yad; (· rfl); (· first | exact hel _ | exact hel2 _); (· rfl)) | (apply qv_neq_agg; (· rfl); (· rfl); (· exact fun w => dot_eq _ _ w)))); (· rfl); (· rfl)) | refine t1_ ?_ | (refine ta_ ?_; intro _) | ((fail_if_success (refine ybi rfl ?_)); refine ybj rfl ?_ ?_ <;> (intro ht; rw [ht]; first | replace ht := of_decide_eq_true ht | replace ht := of_decide_eq_false ht | skip)) | (refine ych ?_; first | (refine ybw rfl ?_ ?_ <;> intro ht) | (refine ybx rfl ?_ ?_ <;> intro ht)))
      · refine nx_ret1 rfl (rv_tmp rfl) (fun w' s' => ⟨?_, s'.nil⟩)
        have hne : l[k] ≠ m[k] := by simpa using ht
        have : l ≠ m := fun e => by subst e; exact hne rfl
        simp [this]
      · refine nx_round (k + 1) ⟨by omega, ?_⟩ (by omega) ts_ (fun _ s => s)
        have he : l[k] = m[k] := by simpa using ht
        rw [List.take_succ_eq_append_getElem hkl, List.take_succ_eq_append_getElem hkm, hek, he]
    · omega
  · repeat' (first | (refine ycf ?_; apply ybk; (· first | (first | (apply yad; (· rfl); (· first | exact hel _ | exact hel2 _); (· rfl)) | (apply qv_neq_agg; (· rfl); (· rfl); (· exact fun w => dot_eq _ _ w)))); (· rfl); (· rfl)) | refine t1_ ?_ | (refine ta_ ?_; intro _) | ((fail_if_success (refine ybi rfl ?_)); refine ybj rfl ?_ ?_ <;> (intro ht; rw [ht]; first | replace ht := of_decide_eq_true ht | replace ht := of_decide_eq_false ht | skip)) | (refine ych ?_; first | (refine ybw rfl ?_ ?_ <;> intro ht) | (refine ybx rfl ?_ ?_ <;> intro ht)))
    · omega
    refine nx_ret1 rfl (rv_tmp rfl) (fun w' s' => ⟨?_, s'.nil⟩)
    have : l = m := by rw [List.take_of_length_le (by omega), List.take_of_length_le (by omega)] at hek; exact hek
    simp [this]
end Go.Proofs.Ytbpahaciegfpfaa
