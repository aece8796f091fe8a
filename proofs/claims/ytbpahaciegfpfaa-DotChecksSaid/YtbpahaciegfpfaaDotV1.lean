/-
  DotV1: the document's answers of layer 14: Dot, Has, Same; the law's helper from.
  Conditions: each theorem states its own.
-/
import Derived.Test.YtbpahaciegfpfaaCkBool
import Derived.Test.YtbpahaciegfpfaaDotL
namespace Go.Proofs.Ytbpahaciegfpfaa
open Go Go.Ck
set_option maxRecDepth 100000
set_option maxHeartbeats 1000000
set_option linter.unusedVariables false

theorem refDot_sp (d : Dt) (h : View) (w : World) (s : St ⟨w, h, []⟩ h [] w) :
    Calls Try.prog 10 [dv d].toArray w fun e w' => e = .returned (.bool (rightB d)) ∧ St ⟨w, h, []⟩ h [] w' := by
  refine calls_enter Try.func10 rfl Try.ntmps10 rfl s ?_
  repeat' (first | refine tw_ ?_ | (refine ta_ ?_; intro _) | ((fail_if_success (refine ybi rfl ?_)); refine ybj rfl ?_ ?_ <;> (intro ht; rw [ht]; first | replace ht := of_decide_eq_true ht | replace ht := of_decide_eq_false ht | skip)) | (refine ych ?_; first | (refine ybw rfl ?_ ?_ <;> intro ht) | (refine ybx rfl ?_ ?_ <;> intro ht)))
  all_goals (refine nx_ret1 rfl (rv_tmp rfl) (fun w' s' => ⟨?_, s'.nil⟩))
  all_goals (congr 2; simp [rightB, *])

theorem refHas_sp (cv : Value) (u : List Int) (l : List Dt) (d : Dt) (h : View) (hc : Cx h cv u l) (hl : l.length ≤ 4611686018427387904) (hr : rightB d = true) (w : World) (s : St ⟨w, h, []⟩ h [] w) :
    Calls Try.prog 30 [cv, dv d].toArray w fun e w' => e = .returned (.bool (hasC u l d)) ∧ St ⟨w, h, []⟩ h [] w' := by
  obtain ⟨hu, mv, rfl, hs⟩ := hc
  obtain ⟨_, ad, cap, rfl, hcap, _⟩ := id hs
  have hr' := right_of hr
  refine calls_enter Try.func30 rfl Try.ntmps30 rfl s ?_
  repeat' (first | refine tw_ ?_ | (refine ta_ ?_; intro _) | ((fail_if_success (refine ybi rfl ?_)); refine ybj rfl ?_ ?_ <;> (intro ht; rw [ht]; first | replace ht := of_decide_eq_true ht | replace ht := of_decide_eq_false ht | skip)) | (refine ych ?_; first | (refine ybw rfl ?_ ?_ <;> intro ht) | (refine ybx rfl ?_ ?_ <;> intro ht)))
  refine cx_region_draw' rfl (by kernel_rfl) ?_
  repeat' (refine ycf ?_;(first|(first|(apply ybm;(·(first|(apply yae;(·rfl);(·(first|exact ycl (yaz 1 rfl) (d.1 - 1).toNat (by omega) (by omega)|exact yck (yaz 1 rfl) hu rfl)))|exact tq_));(·rfl);(·rfl);(·(exact th_)))|refine ybl rfl rfl ?_|((fail_if_success (refine ybi rfl ?_));refine ybj rfl ?_ ?_<;>(intro ht;rw [ht];first|replace ht := of_decide_eq_true ht|replace ht := of_decide_eq_false ht|skip))|(refine tb_ ?_ ?_ ?_;(·(exact to_));(·intro _;(exact to_));intro _)|(first|(refine tqs_ ?_ ?_ ?_;(·(exact to_));(·(exact to_))))|(apply ybn;(·(first|(apply yae;(·rfl);(·(first|exact ycl (yaz 1 rfl) (d.1 - 1).toNat (by omega) (by omega)|exact yck (yaz 1 rfl) hu rfl)))|exact tq_));(·rfl);(·rfl);(·rfl);(·(exact to_))))|refine ycg ?_))
  repeat' (first | (refine ycf ?_; apply ybk; (· first | (apply yae; (· rfl); (· (first | exact ycl (yaz 1 rfl) (d.1 - 1).toNat (by omega) (by omega) | exact yck (yaz 1 rfl) hu rfl)))); (· rfl); (· rfl)) | refine t1_ ?_ | (refine ta_ ?_; intro _) | ((fail_if_success (refine ybi rfl ?_)); refine ybj rfl ?_ ?_ <;> (intro ht; rw [ht]; first | replace ht := of_decide_eq_true ht | replace ht := of_decide_eq_false ht | skip)) | (refine ych ?_; first | (refine ybw rfl ?_ ?_ <;> intro ht) | (refine ybx rfl ?_ ?_ <;> intro ht)))
  · have : decide (d.2 ≤ uD u d) = true := decide_eq_true (by unfold uD; assumption)
    exact nx_ret1 rfl (rv_tmp rfl) (fun w' s' => ⟨by simp [hasC, this], s'.nil⟩)
  rename_i b1 b2
  have hf : decide (d.2 ≤ uD u d) = false := decide_eq_false ht
  clear ht
  refine cx_loop (X := Nat) (fun k => [(2, .pointer (some ⟨b1, 0, none⟩)), (3, .pointer (some ⟨b2, 0, none⟩)), (5, .int .i64 k)]) (fun _ => h) (fun _ => _) (fun k => k ≤ l.length ∧ ∀ j (hj : j < l.length), j < k → l[j] ≠ d) (fun k => l.length - k) 0 ⟨by omega, by omega⟩ ts_ (fun _ s => s) ?_
  rintro k ⟨hk, hno⟩
  by_cases hkl : k < l.length
  · obtain ⟨bs, o, rfl⟩ := hs.ad (by omega) (by omega)
    have hel : ∀ L, Cells h L ⟨bs, o + k * 2, none⟩ (dcs l[k]) := fun L => hs.elem dcs_len k hkl
    repeat' (first | (refine ycf ?_; apply ybk; (· first | (apply yae; (· rfl); (· (first | exact ycl (yaz 1 rfl) (d.1 - 1).toNat (by omega) (by omega) | exact yck (yaz 1 rfl) hu rfl)))); (· rfl); (· rfl)) | refine t1_ ?_ | (refine ta_ ?_; intro _) | ((fail_if_success (refine ybi rfl ?_)); refine ybj rfl ?_ ?_ <;> (intro ht; rw [ht]; first | replace ht := of_decide_eq_true ht | replace ht := of_decide_eq_false ht | skip)) | (refine ych ?_; first | (refine ybw rfl ?_ ?_ <;> intro ht) | (refine ybx rfl ?_ ?_ <;> intro ht)))
    · refine cx_region_draw' rfl (by kernel_rfl) ?_
      repeat' (refine ycf ?_;(first|(first|(apply ybm;(·(first|(first|(refine yad rfl (hel _) ?_;rfl)|exact qv_eql_agg rfl rfl (fun w => dot_eq _ _ w))|(apply yae;(·rfl);(·(first|exact ycl (yaz 1 rfl) (d.1 - 1).toNat (by omega) (by omega)|exact yck (yaz 1 rfl) hu rfl)))|exact tq_));(·rfl);(·rfl);(·(exact th_)))|refine ybl rfl rfl ?_|((fail_if_success (refine ybi rfl ?_));refine ybj rfl ?_ ?_<;>(intro ht;rw [ht];first|replace ht := of_decide_eq_true ht|replace ht := of_decide_eq_false ht|skip))|(refine tb_ ?_ ?_ ?_;(·(exact to_));(·intro _;(exact to_));intro _)|(first|(refine tqs_ ?_ ?_ ?_;(·(exact to_));(·(exact to_))))|(apply ybn;(·(first|(first|(refine yad rfl (hel _) ?_;rfl)|exact qv_eql_agg rfl rfl (fun w => dot_eq _ _ w))|(apply yae;(·rfl);(·(first|exact ycl (yaz 1 rfl) (d.1 - 1).toNat (by omega) (by omega)|exact yck (yaz 1 rfl) hu rfl)))|exact tq_));(·rfl);(·rfl);(·rfl);(·(exact to_))))|refine ycg ?_))
      repeat' (first | (refine ycf ?_; apply ybk; (· first | (first | (refine yad rfl (hel _) ?_; rfl) | exact qv_eql_agg rfl rfl (fun w => dot_eq _ _ w)) | (apply yae; (· rfl); (· (first | exact ycl (yaz 1 rfl) (d.1 - 1).toNat (by omega) (by omega) | exact yck (yaz 1 rfl) hu rfl)))); (· rfl); (· rfl)) | refine t1_ ?_ | (refine ta_ ?_; intro _) | ((fail_if_success (refine ybi rfl ?_)); refine ybj rfl ?_ ?_ <;> (intro ht; rw [ht]; first | replace ht := of_decide_eq_true ht | replace ht := of_decide_eq_false ht | skip)) | (refine ych ?_; first | (refine ybw rfl ?_ ?_ <;> intro ht) | (refine ybx rfl ?_ ?_ <;> intro ht)))
      · refine nx_ret1 rfl (rv_tmp rfl) (fun w' s' => ⟨?_, s'.nil⟩)
        have hm : d ∈ l := by rw [← ht]; exact List.getElem_mem hkl
        simp [hasC, hm]
      · refine nx_round (k + 1) ⟨by omega, fun j hj hjk => ?_⟩ (by omega) ts_ (fun _ s => s)
        by_cases hjk' : j = k
        · subst hjk'; exact ht
        · exact hno j hj (by omega)
    · omega
  · repeat' (first | (refine ycf ?_; apply ybk; (· first | (first | (refine yad rfl (hel _) ?_; rfl) | exact qv_eql_agg rfl rfl (fun w => dot_eq _ _ w)) | (apply yae; (· rfl); (· (first | exact ycl (yaz 1 rfl) (d.1 - 1).toNat (by omega) (by omega) | exact yck (yaz 1 rfl) hu rfl)))); (· rfl); (· rfl)) | refine t1_ ?_ | (refine ta_ ?_; intro _) | ((fail_if_success (refine ybi rfl ?_)); refine ybj rfl ?_ ?_ <;> (intro ht; rw [ht]; first | replace ht := of_decide_eq_true ht | replace ht := of_decide_eq_false ht | skip)) | (refine ych ?_; first | (refine ybw rfl ?_ ?_ <;> intro ht) | (refine ybx rfl ?_ ?_ <;> intro ht)))
    · omega
    · refine nx_ret1 rfl (rv_tmp rfl) (fun w' s' => ⟨?_, s'.nil⟩)
      have hm : d ∉ l := fun hm => by
        obtain ⟨j, hj, hjd⟩ := List.getElem_of_mem hm
        exact hno j hj (by omega) hjd
      unfold hasC
      rw [hf, decide_eq_false hm]; rfl

theorem refSame_sp (cv dvv : Value) (u v : List Int) (l m : List Dt) (h : View) (hc : Cx h cv u l) (hd : Cx h dvv v m) (hl : l.length ≤ 4611686018427387904) (hm : m.length ≤ 4611686018427387904) (w : World) (s : St ⟨w, h, []⟩ h [] w) :
    Calls Try.prog 20 [cv, dvv].toArray w fun e w' => e = .returned (.bool (decide (u = v) && decide (l = m))) ∧ St ⟨w, h, []⟩ h [] w' := by
  obtain ⟨hu, mv, rfl, hs⟩ := hc
  obtain ⟨hv, nv, rfl, hs2⟩ := hd
  obtain ⟨_, ad, cap, rfl, hcap, _⟩ := id hs
  obtain ⟨_, ad2, cap2, rfl, hcap2, _⟩ := id hs2
  refine calls_enter Try.func20 rfl Try.ntmps20 rfl s ?_
  repeat' (first|(refine ycf ?_;apply ybk;(·first|(first|(apply yad;(·rfl);(·exact ycm (yaz 0 rfl));(·simp [up, hv]))|(apply yad;(·rfl);(·exact ycm (yaz 1 rfl));(·simp [up, hu]))|(apply qv_neq_agg;(·rfl);(·rfl);(·exact fun w => run_equal_arr u v hu hv w)))|(apply yae;(·rfl);(·(first|exact yck (yaz 0 rfl) hv rfl|exact yck (yaz 1 rfl) hu rfl))));(·rfl);(·rfl))|refine t1_ ?_|(refine ta_ ?_;intro _)|((fail_if_success (refine ybi rfl ?_));refine ybj rfl ?_ ?_<;>(intro ht;rw [ht];first|replace ht := of_decide_eq_true ht|replace ht := of_decide_eq_false ht|skip))|(refine ych ?_;first|(refine ybw rfl ?_ ?_<;>intro ht)|(refine ybx rfl ?_ ?_<;>intro ht)))
  · have hne := ht
    refine nx_ret1 rfl (rv_tmp rfl) (fun w' s' => ⟨?_, s'.nil⟩)
    have : ¬ u = v := by simpa using hne
    simp [this]
  · have hne := ht
    refine nx_ret1 rfl (rv_tmp rfl) (fun w' s' => ⟨?_, s'.nil⟩)
    have : ¬ l = m := fun e => by rw [e] at hne; exact hne rfl
    simp [this]
  · rename_i b2 b1 huv0
    have huv : u = v := by simpa using huv0
    have hlm : l.length = m.length := by omega
    clear ht huv0
    refine cx_loop (X := Nat) (fun k => [(2, .pointer (some ⟨b2, 0, none⟩)), (3, .pointer (some ⟨b1, 0, none⟩)), (5, .int .i64 k)]) (fun _ => h) (fun _ => _) (fun k => k ≤ l.length ∧ ∀ j (hj : j < l.length), j < k → l[j] = m[j]'(by omega)) (fun k => l.length - k) 0 ⟨by omega, by omega⟩ ts_ (fun _ s => s) ?_
    rintro k ⟨hk, hno⟩
    by_cases hkl : k < l.length
    · obtain ⟨bs, o, rfl⟩ := hs.ad (by omega) (by omega)
      obtain ⟨bt, o2, rfl⟩ := hs2.ad (by omega) (by omega)
      have hkm : k < m.length := by omega
      have hel : ∀ L, Cells h L ⟨bs, o + k * 2, none⟩ (dcs l[k]) := fun L => hs.elem dcs_len k hkl
      have hel2 : ∀ L, Cells h L ⟨bt, o2 + k * 2, none⟩ (dcs m[k]) := fun L => hs2.elem dcs_len k hkm
      repeat' (first|(refine ycf ?_;apply ybk;(·first|(first|(apply yad;(·rfl);(·exact ycm (yaz 0 rfl));(·simp [up, hv]))|(apply yad;(·rfl);(·exact ycm (yaz 1 rfl));(·simp [up, hu]))|(apply qv_neq_agg;(·rfl);(·rfl);(·exact fun w => run_equal_arr u v hu hv w)))|(apply yae;(·rfl);(·(first|exact yck (yaz 0 rfl) hv rfl|exact yck (yaz 1 rfl) hu rfl))));(·rfl);(·rfl))|refine t1_ ?_|(refine ta_ ?_;intro _)|((fail_if_success (refine ybi rfl ?_));refine ybj rfl ?_ ?_<;>(intro ht;rw [ht];first|replace ht := of_decide_eq_true ht|replace ht := of_decide_eq_false ht|skip))|(refine ych ?_;first|(refine ybw rfl ?_ ?_<;>intro ht)|(refine ybx rfl ?_ ?_<;>intro ht)))
      · refine cx_region_draw' rfl (by kernel_rfl) ?_
        repeat' (refine ycf ?_;(first|(first|(apply ybm;(·(first|(first|(refine yad rfl (hel _) ?_;rfl)|(refine yad rfl (hel2 _) ?_;rfl)|exact qv_neq_agg rfl rfl (fun w => dot_eq _ _ w))|(apply yae;(·rfl);(·(first|exact yck (yaz 0 rfl) hv rfl|exact yck (yaz 1 rfl) hu rfl)))|exact tq_));(·rfl);(·rfl);(·(exact th_)))|refine ybl rfl rfl ?_|((fail_if_success (refine ybi rfl ?_));refine ybj rfl ?_ ?_<;>(intro ht;rw [ht];first|replace ht := of_decide_eq_true ht|replace ht := of_decide_eq_false ht|skip))|(refine tb_ ?_ ?_ ?_;(·(exact to_));(·intro _;(exact to_));intro _)|(first|(refine tqs_ ?_ ?_ ?_;(·(exact to_));(·(exact to_))))|(apply ybn;(·(first|(first|(refine yad rfl (hel _) ?_;rfl)|(refine yad rfl (hel2 _) ?_;rfl)|exact qv_neq_agg rfl rfl (fun w => dot_eq _ _ w))|(apply yae;(·rfl);(·(first|exact yck (yaz 0 rfl) hv rfl|exact yck (yaz 1 rfl) hu rfl)))|exact tq_));(·rfl);(·rfl);(·rfl);(·(exact to_))))|refine ycg ?_))
        repeat' (first | (refine ycf ?_; apply ybk; (· first | (first | (refine yad rfl (hel _) ?_; rfl) | (refine yad rfl (hel2 _) ?_; rfl) | exact qv_neq_agg rfl rfl (fun w => dot_eq _ _ w)) | (apply yae; (· rfl); (· (first | exact yck (yaz 0 rfl) hv rfl | exact yck (yaz 1 rfl) hu rfl)))); (· rfl); (· rfl)) | refine t1_ ?_ | (refine ta_ ?_; intro _) | ((fail_if_success (refine ybi rfl ?_)); refine ybj rfl ?_ ?_ <;> (intro ht; rw [ht]; first | replace ht := of_decide_eq_true ht | replace ht := of_decide_eq_false ht | skip)) | (refine ych ?_; first | (refine ybw rfl ?_ ?_ <;> intro ht) | (refine ybx rfl ?_ ?_ <;> intro ht)))
        · have hne := ht
          refine nx_ret1 rfl (rv_tmp rfl) (fun w' s' => ⟨?_, s'.nil⟩)
          have : ¬ l = m := fun e => by
            subst e
            simp at hne
          simp [this]
        · have hne := ht
          refine nx_round (k + 1) ⟨by omega, fun j hj hjk => ?_⟩ (by omega) ts_ (fun _ s => s)
          by_cases hjk' : j = k
          · subst hjk'; simpa using hne
          · exact hno j hj (by omega)
      · omega
    · repeat' (first | (refine ycf ?_; apply ybk; (· first | (first | (refine yad rfl (hel _) ?_; rfl) | (refine yad rfl (hel2 _) ?_; rfl) | exact qv_neq_agg rfl rfl (fun w => dot_eq _ _ w)) | (apply yae; (· rfl); (· (first | exact yck (yaz 0 rfl) hv rfl | exact yck (yaz 1 rfl) hu rfl)))); (· rfl); (· rfl)) | refine t1_ ?_ | (refine ta_ ?_; intro _) | ((fail_if_success (refine ybi rfl ?_)); refine ybj rfl ?_ ?_ <;> (intro ht; rw [ht]; first | replace ht := of_decide_eq_true ht | replace ht := of_decide_eq_false ht | skip)) | (refine ych ?_; first | (refine ybw rfl ?_ ?_ <;> intro ht) | (refine ybx rfl ?_ ?_ <;> intro ht)))
      · omega
      · refine nx_ret1 rfl (rv_tmp rfl) (fun w' s' => ⟨?_, s'.nil⟩)
        have : l = m := List.ext_getElem hlm fun i h1 h2 => hno i h1 (by omega)
        simp [this, huv]

theorem from_sp (cv : Value) (u : List Int) (l : List Dt) (h : View) (hc : Cx h cv u l) (w : World) (s : St ⟨w, h, []⟩ h [] w) :
    Calls Try.prog 21 [cv].toArray w fun e w' => e = .returned cv ∧ St ⟨w, h, []⟩ h [] w' := by
  obtain ⟨hu, mv, rfl, hs⟩ := hc
  obtain ⟨_, ad, cap, rfl, hcap, _⟩ := id hs
  refine calls_enter Try.func21 rfl Try.ntmps21 rfl s ?_
  have hfu := fill2 (ad := ad) (m := l.length) (c := cap) hu
  repeat' (first|(refine ycf ?_;apply ybk;(·first|(first|(apply yad (vs := up u);(·rfl);(·exact ycm (yaz 1 rfl));(·simp [up, hu]))|(apply yax (cs := cxc u (.slice ad l.length cap));(·rfl);(·exact hfu)))|(apply yae;(·rfl);(·(first|exact yck (yaz 1 rfl) hu rfl))));(·rfl);(·rfl))|(refine ybg 0 rfl rfl rfl (cxc_sz hu) (cxc_fit hu) (cxc_one rfl) (ybh (cxc_all hu)) rfl rfl ?_ ?_ ?_;(·(exact to_));(·(exact to_)))|refine t1_ ?_|(refine ta_ ?_;intro _)|((fail_if_success (refine ybi rfl ?_));refine ybj rfl ?_ ?_<;>(intro ht;rw [ht];first|replace ht := of_decide_eq_true ht|replace ht := of_decide_eq_false ht|skip))|(refine ych ?_;first|(refine ybw rfl ?_ ?_<;>intro ht)|(refine ybx rfl ?_ ?_<;>intro ht)))
  exact nx_ret1 rfl (rv_cells rfl (yaz 0 rfl) (cxc_all hu)) (fun w' s' => ⟨rfl, s'.nil⟩)

end Go.Proofs.Ytbpahaciegfpfaa
