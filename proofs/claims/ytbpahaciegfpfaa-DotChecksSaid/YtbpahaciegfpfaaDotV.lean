/-
  DotV: the document's answer of layer 14: Check.
  Conditions: each theorem states its own.
-/
import Derived.Test.YtbpahaciegfpfaaDotV1
namespace Go.Proofs.Ytbpahaciegfpfaa
open Go Go.Ck
set_option maxRecDepth 100000
set_option maxHeartbeats 1000000
set_option linter.unusedVariables false

theorem ord_neg {x y : Dt} : ordD x y < 0 ↔ (x.1 < y.1 ∨ x.1 = y.1 ∧ x.2 < y.2) := by
  have := ord_lt x y
  unfold ltOf at this
  rwa [decide_eq_decide] at this

theorem refCheck_sp (cv : Value) (u : List Int) (l : List Dt) (h : View) (hc : Cx h cv u l) (hl : l.length ≤ 4611686018427387904) (w : World) (s : St ⟨w, h, []⟩ h [] w) :
    Calls Try.prog 28 [cv].toArray w fun e w' => e = .returned (.int .i64 (checkC u l)) ∧ St ⟨w, h, []⟩ h [] w' := by
  obtain ⟨hu, mv, rfl, hs⟩ := hc
  obtain ⟨_, ad, cap, rfl, hcap, _⟩ := id hs
  refine calls_enter Try.func28 rfl Try.ntmps28 rfl s ?_
  repeat' (first | refine tw_ ?_ | (refine ta_ ?_; intro _) | ((fail_if_success (refine ybi rfl ?_)); refine ybj rfl ?_ ?_ <;> (intro ht; rw [ht]; first | replace ht := of_decide_eq_true ht | replace ht := of_decide_eq_false ht | skip)) | (refine ych ?_; first | (refine ybw rfl ?_ ?_ <;> intro ht) | (refine ybx rfl ?_ ?_ <;> intro ht)))
  rename_i b
  refine cx_loop (X := Nat) (fun k => [(1, .pointer (some ⟨b, 0, none⟩)), (3, .int .i64 k)]) (fun _ => h) (fun _ => _) (fun k => k ≤ 16 ∧ ∀ j (hj : j < u.length), j < k → 0 ≤ u[j] ∧ u[j] ≤ 1099511627776) (fun k => 16 - k) 0 ⟨by omega, by omega⟩ ts_ (fun _ s => s) ?_
  rintro k ⟨hk, hok⟩
  by_cases hk16 : k < 16
  · have hku : k < u.length := by omega
    have egk : u.getD k 0 = u[k] := by simp [hku]
    repeat' (first | (refine ycf ?_; apply ybk; (· first | (apply yae; (· rfl); (· (first | exact ycl (yaz 0 rfl) k (by omega) hku)))); (· rfl); (· rfl)) | refine t1_ ?_ | (refine ta_ ?_; intro _) | ((fail_if_success (refine ybi rfl ?_)); refine ybj rfl ?_ ?_ <;> (intro ht; rw [ht]; first | replace ht := of_decide_eq_true ht | replace ht := of_decide_eq_false ht | skip)) | (refine ych ?_; first | (refine ybw rfl ?_ ?_ <;> intro ht) | (refine ybx rfl ?_ ?_ <;> intro ht)))
    · refine nx_ret1 rfl (rv_tmp rfl) (fun w' s' => ⟨?_, s'.nil⟩)
      have : upOk u = false := by
        cases hx : upOk u with
        | false => rfl
        | true => have := upOk_iff.1 hx _ (List.getElem_mem hku); omega
      simp [checkC, this]
    · refine nx_ret1 rfl (rv_tmp rfl) (fun w' s' => ⟨?_, s'.nil⟩)
      have : upOk u = false := by
        cases hx : upOk u with
        | false => rfl
        | true => have := upOk_iff.1 hx _ (List.getElem_mem hku); omega
      simp [checkC, this]
    · refine nx_round (k + 1) ⟨by omega, fun j hj hjk => ?_⟩ (by omega) ts_ (fun _ s => s)
      by_cases hjk' : j = k
      · subst hjk'; omega
      · exact hok j hj (by omega)
    · omega
  · have hup : upOk u = true := upOk_iff.2 fun x hx => by
      obtain ⟨j, hj, rfl⟩ := List.getElem_of_mem hx
      exact hok j hj (by omega)
    have hub := upOk_iff.1 hup
    repeat' (first | (refine ycf ?_; apply ybk; (· first | (apply yae; (· rfl); (· (first | exact yck (yaz 0 rfl) hu rfl)))); (· rfl); (· rfl)) | refine t1_ ?_ | (refine ta_ ?_; intro _) | ((fail_if_success (refine ybi rfl ?_)); refine ybj rfl ?_ ?_ <;> (intro ht; rw [ht]; first | replace ht := of_decide_eq_true ht | replace ht := of_decide_eq_false ht | skip)) | (refine ych ?_; first | (refine ybw rfl ?_ ?_ <;> intro ht) | (refine ybx rfl ?_ ?_ <;> intro ht)))
    · omega
    · refine nx_ret1 rfl (rv_tmp rfl) (fun w' s' => ⟨?_, s'.nil⟩)
      have : 32 < l.length := by omega
      simp [checkC, hup, this]
    have hl32 : l.length ≤ 32 := by omega
    refine cx_loop (X := Nat) (fun k => [(1, .pointer (some ⟨b, 0, none⟩)), (4, .int .i64 k)]) (fun _ => h) (fun _ => _) (fun k => k ≤ l.length ∧ ∀ j, j < k → moreB u l j = true) (fun k => l.length - k) 0 ⟨by omega, by omega⟩ ts_ (fun _ s => s) ?_
    rintro j ⟨hj, hm⟩
    by_cases hjl : j < l.length
    · obtain ⟨bs, o, rfl⟩ := hs.ad (by omega) (by omega)
      have hel : ∀ L, Cells h L ⟨bs, o + j * 2, none⟩ (dcs l[j]) := fun L => hs.elem dcs_len j hjl
      have ei : l.getD j (0, 0) = l[j] := by simp [hjl]
      have hdot := refDot_sp l[j] h
      have bad : moreB u l j = false → checkC u l = 1 := fun hM => by
        have h1 : moresOk u l = false := by
          cases hx : moresOk u l with
          | false => rfl
          | true =>
            have := List.all_eq_true.1 hx j (List.mem_range.2 hjl)
            rw [hM] at this; cases this
        have h2 : ¬ 32 < l.length := by omega
        simp [checkC, hup, h1, h2]
      have next : moreB u l j = true → ∀ i, i < j + 1 → moreB u l i = true := fun hM i hi => by
        by_cases hij : i = j
        · subst hij; exact hM
        · exact hm i (by omega)
      unfold moreB at bad next
      rw [ei] at bad next
      cases hR : rightB l[j] with
      | false =>
        rw [hR] at hdot bad
        repeat' (first | (refine ycf ?_; apply ybk; (· first | (first | (refine yad rfl (hel _) ?_; rfl)) | (apply yae; (· rfl); (· (first | exact yck (yaz 0 rfl) hu rfl)))); (· rfl); (· rfl)) | refine t1_ ?_ | (refine ta_ ?_; intro _) | ((fail_if_success (refine ybi rfl ?_)); refine ybj rfl ?_ ?_ <;> (intro ht; rw [ht]; first | replace ht := of_decide_eq_true ht | replace ht := of_decide_eq_false ht | skip)) | (refine ych ?_; first | (refine ybw rfl ?_ ?_ <;> intro ht) | (refine ybx rfl ?_ ?_ <;> intro ht)))
        · refine cx_region_draw' rfl (by kernel_rfl) ?_
          repeat' (refine ycf ?_;(first|(first|(apply ybm;(·(first|(first|(refine yad rfl (hel _) ?_;rfl))|(apply yae;(·rfl);(·(first|exact yck (yaz 0 rfl) hu rfl)))|exact tq_));(·rfl);(·rfl);(·(exact th_)))|refine ybl rfl rfl ?_|((fail_if_success (refine ybi rfl ?_));refine ybj rfl ?_ ?_<;>(intro ht;rw [ht];first|replace ht := of_decide_eq_true ht|replace ht := of_decide_eq_false ht|skip))|(refine tb_ ?_ ?_ ?_;(·(exact to_));(·intro _;(exact to_));intro _)|(first|(refine tqs_ ?_ ?_ ?_;(·(exact to_));(·(exact to_))))|(apply ybn;(·(first|(first|(refine yad rfl (hel _) ?_;rfl))|(apply yae;(·rfl);(·(first|exact yck (yaz 0 rfl) hu rfl)))|exact tq_));(·rfl);(·rfl);(·rfl);(·(exact to_))))|refine ycg ?_))
          (refine ycn (ycp Try.func10 rfl (by kernel_rfl) rfl) (hdot) rfl rfl rfl ?_ ?_; (· (exact to_)))
          repeat' (refine ycf ?_;(first|(first|(apply ybm;(·(first|(first|(refine yad rfl (hel _) ?_;rfl))|(apply yae;(·rfl);(·(first|exact yck (yaz 0 rfl) hu rfl)))|exact tq_));(·rfl);(·rfl);(·(exact th_)))|refine ybl rfl rfl ?_|((fail_if_success (refine ybi rfl ?_));refine ybj rfl ?_ ?_<;>(intro ht;rw [ht];first|replace ht := of_decide_eq_true ht|replace ht := of_decide_eq_false ht|skip))|(refine tb_ ?_ ?_ ?_;(·(exact to_));(·intro _;(exact to_));intro _)|(first|(refine tqs_ ?_ ?_ ?_;(·(exact to_));(·(exact to_))))|(apply ybn;(·(first|(first|(refine yad rfl (hel _) ?_;rfl))|(apply yae;(·rfl);(·(first|exact yck (yaz 0 rfl) hu rfl)))|exact tq_));(·rfl);(·rfl);(·rfl);(·(exact to_))))|refine ycg ?_))
          repeat' (first | (refine ycf ?_; apply ybk; (· first | (first | (refine yad rfl (hel _) ?_; rfl)) | (apply yae; (· rfl); (· (first | exact yck (yaz 0 rfl) hu rfl)))); (· rfl); (· rfl)) | refine t1_ ?_ | (refine ta_ ?_; intro _) | ((fail_if_success (refine ybi rfl ?_)); refine ybj rfl ?_ ?_ <;> (intro ht; rw [ht]; first | replace ht := of_decide_eq_true ht | replace ht := of_decide_eq_false ht | skip)) | (refine ych ?_; first | (refine ybw rfl ?_ ?_ <;> intro ht) | (refine ybx rfl ?_ ?_ <;> intro ht)))
          refine nx_ret1 rfl (rv_tmp rfl) (fun w' s' => ⟨?_, s'.nil⟩)
          rw [bad rfl]
        · omega
      | true =>
        rw [hR] at hdot bad next
        have hr' := right_of hR
        have hb := hub _ (getD_mem (u := u) (i := (l[j].1 - 1).toNat) (by omega))
        repeat' (first | (refine ycf ?_; apply ybk; (· first | (first | (refine yad rfl (hel _) ?_; rfl)) | (apply yae; (· rfl); (· (first | exact ycl (yaz 1 rfl) (l[j].1 - 1).toNat (by omega) (by omega) | exact yck (yaz 1 rfl) hu rfl | exact yck (yaz 0 rfl) hu rfl)))); (· rfl); (· rfl)) | refine t1_ ?_ | (refine ta_ ?_; intro _) | ((fail_if_success (refine ybi rfl ?_)); refine ybj rfl ?_ ?_ <;> (intro ht; rw [ht]; first | replace ht := of_decide_eq_true ht | replace ht := of_decide_eq_false ht | skip)) | (refine ych ?_; first | (refine ybw rfl ?_ ?_ <;> intro ht) | (refine ybx rfl ?_ ?_ <;> intro ht)))
        · refine cx_region_draw' rfl (by kernel_rfl) ?_
          repeat' (refine ycf ?_;(first|(first|(apply ybm;(·(first|(first|(refine yad rfl (hel _) ?_;rfl))|(apply yae;(·rfl);(·(first|exact ycl (yaz 1 rfl) (l[j].1 - 1).toNat (by omega) (by omega)|exact yck (yaz 1 rfl) hu rfl|exact yck (yaz 0 rfl) hu rfl)))|exact tq_));(·rfl);(·rfl);(·(exact th_)))|refine ybl rfl rfl ?_|((fail_if_success (refine ybi rfl ?_));refine ybj rfl ?_ ?_<;>(intro ht;rw [ht];first|replace ht := of_decide_eq_true ht|replace ht := of_decide_eq_false ht|skip))|(refine tb_ ?_ ?_ ?_;(·(exact to_));(·intro _;(exact to_));intro _)|(first|(refine tqs_ ?_ ?_ ?_;(·(exact to_));(·(exact to_))))|(apply ybn;(·(first|(first|(refine yad rfl (hel _) ?_;rfl))|(apply yae;(·rfl);(·(first|exact ycl (yaz 1 rfl) (l[j].1 - 1).toNat (by omega) (by omega)|exact yck (yaz 1 rfl) hu rfl|exact yck (yaz 0 rfl) hu rfl)))|exact tq_));(·rfl);(·rfl);(·rfl);(·(exact to_))))|refine ycg ?_))
          (refine ycn (ycp Try.func10 rfl (by kernel_rfl) rfl) (hdot) rfl rfl rfl ?_ ?_; (· (exact to_)))
          repeat' (refine ycf ?_;(first|(first|(apply ybm;(·(first|(first|(refine yad rfl (hel _) ?_;rfl))|(apply yae;(·rfl);(·(first|exact ycl (yaz 1 rfl) (l[j].1 - 1).toNat (by omega) (by omega)|exact yck (yaz 1 rfl) hu rfl|exact yck (yaz 0 rfl) hu rfl)))|exact tq_));(·rfl);(·rfl);(·(exact th_)))|refine ybl rfl rfl ?_|((fail_if_success (refine ybi rfl ?_));refine ybj rfl ?_ ?_<;>(intro ht;rw [ht];first|replace ht := of_decide_eq_true ht|replace ht := of_decide_eq_false ht|skip))|(refine tb_ ?_ ?_ ?_;(·(exact to_));(·intro _;(exact to_));intro _)|(first|(refine tqs_ ?_ ?_ ?_;(·(exact to_));(·(exact to_))))|(apply ybn;(·(first|(first|(refine yad rfl (hel _) ?_;rfl))|(apply yae;(·rfl);(·(first|exact ycl (yaz 1 rfl) (l[j].1 - 1).toNat (by omega) (by omega)|exact yck (yaz 1 rfl) hu rfl|exact yck (yaz 0 rfl) hu rfl)))|exact tq_));(·rfl);(·rfl);(·rfl);(·(exact to_))))|refine ycg ?_))
          repeat' (first | (refine ycf ?_; apply ybk; (· first | (first | (refine yad rfl (hel _) ?_; rfl)) | (apply yae; (· rfl); (· (first | exact ycl (yaz 1 rfl) (l[j].1 - 1).toNat (by omega) (by omega) | exact yck (yaz 1 rfl) hu rfl | exact yck (yaz 0 rfl) hu rfl)))); (· rfl); (· rfl)) | refine t1_ ?_ | (refine ta_ ?_; intro _) | ((fail_if_success (refine ybi rfl ?_)); refine ybj rfl ?_ ?_ <;> (intro ht; rw [ht]; first | replace ht := of_decide_eq_true ht | replace ht := of_decide_eq_false ht | skip)) | (refine ych ?_; first | (refine ybw rfl ?_ ?_ <;> intro ht) | (refine ybx rfl ?_ ?_ <;> intro ht)))
          · have hge := ht
            have hf : decide (uD u l[j] + 1 < l[j].2) = false := decide_eq_false (by unfold uD; omega)
            refine nx_ret1 rfl (rv_tmp rfl) (fun w' s' => ⟨?_, s'.nil⟩)
            rw [bad (by rw [hf, Bool.and_false, Bool.false_and])]
          · have hge := ht
            have hT : decide (uD u l[j] + 1 < l[j].2) = true := decide_eq_true (by unfold uD; omega)
            by_cases h0 : j = 0
            · subst h0
              refine cx_region_draw' rfl (by kernel_rfl) ?_
              repeat' (refine ycf ?_;(first|(first|(apply ybm;(·(first|(first|(refine yad rfl (hel _) ?_;rfl))|(apply yae;(·rfl);(·(first|exact ycl (yaz 1 rfl) (l[j].1 - 1).toNat (by omega) (by omega)|exact yck (yaz 1 rfl) hu rfl|exact yck (yaz 0 rfl) hu rfl)))|exact tq_));(·rfl);(·rfl);(·(exact th_)))|refine ybl rfl rfl ?_|((fail_if_success (refine ybi rfl ?_));refine ybj rfl ?_ ?_<;>(intro ht;rw [ht];first|replace ht := of_decide_eq_true ht|replace ht := of_decide_eq_false ht|skip))|(refine tb_ ?_ ?_ ?_;(·(exact to_));(·intro _;(exact to_));intro _)|(first|(refine tqs_ ?_ ?_ ?_;(·(exact to_));(·(exact to_))))|(apply ybn;(·(first|(first|(refine yad rfl (hel _) ?_;rfl))|(apply yae;(·rfl);(·(first|exact ycl (yaz 1 rfl) (l[j].1 - 1).toNat (by omega) (by omega)|exact yck (yaz 1 rfl) hu rfl|exact yck (yaz 0 rfl) hu rfl)))|exact tq_));(·rfl);(·rfl);(·rfl);(·(exact to_))))|refine ycg ?_))
              repeat' (first | (refine ycf ?_; apply ybk; (· first | (first | (refine yad rfl (hel _) ?_; rfl)) | (apply yae; (· rfl); (· (first | exact ycl (yaz 1 rfl) (l[j].1 - 1).toNat (by omega) (by omega) | exact yck (yaz 1 rfl) hu rfl | exact yck (yaz 0 rfl) hu rfl)))); (· rfl); (· rfl)) | refine t1_ ?_ | (refine ta_ ?_; intro _) | ((fail_if_success (refine ybi rfl ?_)); refine ybj rfl ?_ ?_ <;> (intro ht; rw [ht]; first | replace ht := of_decide_eq_true ht | replace ht := of_decide_eq_false ht | skip)) | (refine ych ?_; first | (refine ybw rfl ?_ ?_ <;> intro ht) | (refine ybx rfl ?_ ?_ <;> intro ht)))
              refine nx_round 1 ⟨by omega, next (by rw [hT]; rfl)⟩ (by omega) ts_ (fun _ s => s.tl)
            · have hel2 : ∀ L, Cells h L ⟨bs, o + (j - 1) * 2, none⟩ (dcs l[j - 1]) := fun L => hs.elem dcs_len (j - 1) (by omega)
              have ei2 : l.getD (j - 1) (0, 0) = l[j - 1] := by simp [show j - 1 < l.length by omega]
              have hjj : ((j : Int) - 1).toNat = j - 1 := by omega
              have hc0 : ∀ L, CellAt h L bs (o + ((j : Int) - 1).toNat * 2 + 0) (.int .i64 l[j - 1].1) := fun L => by rw [hjj]; exact (hel2 L).cell (j := 0) rfl
              have hc1 : ∀ L, CellAt h L bs (o + ((j : Int) - 1).toNat * 2 + 1) (.int .i64 l[j - 1].2) := fun L => by rw [hjj]; exact (hel2 L).cell (j := 1) rfl
              rw [ei2, hT, decide_eq_false h0, Bool.and_true, Bool.true_and, Bool.false_or] at next bad
              refine cx_region_draw' rfl (by kernel_rfl) ?_
              repeat' (refine ycf ?_;(first|(first|(apply ybm;(·(first|(first|(refine yad rfl (hel _) ?_;rfl))|(apply yae;(·rfl);(·(first|exact hc0 _|exact hc1 _|exact ycl (yaz 1 rfl) (l[j].1 - 1).toNat (by omega) (by omega)|exact yck (yaz 1 rfl) hu rfl)))|exact tq_));(·rfl);(·rfl);(·(exact th_)))|refine ybl rfl rfl ?_|((fail_if_success (refine ybi rfl ?_));refine ybj rfl ?_ ?_<;>(intro ht;rw [ht];first|replace ht := of_decide_eq_true ht|replace ht := of_decide_eq_false ht|skip))|(refine tb_ ?_ ?_ ?_;(·(exact to_));(·intro _;(exact to_));intro _)|(first|(refine tqs_ ?_ ?_ ?_;(·(exact to_));(·(exact to_))))|(apply ybn;(·(first|(first|(refine yad rfl (hel _) ?_;rfl))|(apply yae;(·rfl);(·(first|exact hc0 _|exact hc1 _|exact ycl (yaz 1 rfl) (l[j].1 - 1).toNat (by omega) (by omega)|exact yck (yaz 1 rfl) hu rfl)))|exact tq_));(·rfl);(·rfl);(·rfl);(·(exact to_))))|refine ycg ?_))
              · have hq := ht
                have hf : decide (ordD l[j - 1] l[j] < 0) = false := decide_eq_false (fun hx => by rw [ord_neg] at hx; omega)
                repeat' (first | (refine ycf ?_; apply ybk; (· first | (first | (refine yad rfl (hel _) ?_; rfl)) | (apply yae; (· rfl); (· (first | exact hc0 _ | exact hc1 _ | exact ycl (yaz 1 rfl) (l[j].1 - 1).toNat (by omega) (by omega) | exact yck (yaz 1 rfl) hu rfl)))); (· rfl); (· rfl)) | refine t1_ ?_ | (refine ta_ ?_; intro _) | ((fail_if_success (refine ybi rfl ?_)); refine ybj rfl ?_ ?_ <;> (intro ht; rw [ht]; first | replace ht := of_decide_eq_true ht | replace ht := of_decide_eq_false ht | skip)) | (refine ych ?_; first | (refine ybw rfl ?_ ?_ <;> intro ht) | (refine ybx rfl ?_ ?_ <;> intro ht)))
                refine nx_ret1 rfl (rv_tmp rfl) (fun w' s' => ⟨?_, s'.nil⟩)
                rw [bad hf]
              · have hq := ht
                repeat' (first | (refine ycf ?_; apply ybk; (· first | (first | (refine yad rfl (hel _) ?_; rfl)) | (apply yae; (· rfl); (· (first | exact hc0 _ | exact hc1 _ | exact ycl (yaz 1 rfl) (l[j].1 - 1).toNat (by omega) (by omega) | exact yck (yaz 1 rfl) hu rfl)))); (· rfl); (· rfl)) | refine t1_ ?_ | (refine ta_ ?_; intro _) | ((fail_if_success (refine ybi rfl ?_)); refine ybj rfl ?_ ?_ <;> (intro ht; rw [ht]; first | replace ht := of_decide_eq_true ht | replace ht := of_decide_eq_false ht | skip)) | (refine ych ?_; first | (refine ybw rfl ?_ ?_ <;> intro ht) | (refine ybx rfl ?_ ?_ <;> intro ht)))
                · have hf : decide (ordD l[j - 1] l[j] < 0) = false := decide_eq_false (fun hx => by rw [ord_neg] at hx; omega)
                  refine nx_ret1 rfl (rv_tmp rfl) (fun w' s' => ⟨?_, s'.nil⟩)
                  rw [bad hf]
                · have hf : decide (ordD l[j - 1] l[j] < 0) = true := decide_eq_true (by rw [ord_neg]; omega)
                  refine nx_round (j + 1) ⟨by omega, next hf⟩ (by omega) ts_ (fun _ s => s.tl)
              · have hq := ht
                have hf : decide (ordD l[j - 1] l[j] < 0) = true := decide_eq_true (by rw [ord_neg]; omega)
                repeat' (first | (refine ycf ?_; apply ybk; (· first | (first | (refine yad rfl (hel _) ?_; rfl)) | (apply yae; (· rfl); (· (first | exact hc0 _ | exact hc1 _ | exact ycl (yaz 1 rfl) (l[j].1 - 1).toNat (by omega) (by omega) | exact yck (yaz 1 rfl) hu rfl)))); (· rfl); (· rfl)) | refine t1_ ?_ | (refine ta_ ?_; intro _) | ((fail_if_success (refine ybi rfl ?_)); refine ybj rfl ?_ ?_ <;> (intro ht; rw [ht]; first | replace ht := of_decide_eq_true ht | replace ht := of_decide_eq_false ht | skip)) | (refine ych ?_; first | (refine ybw rfl ?_ ?_ <;> intro ht) | (refine ybx rfl ?_ ?_ <;> intro ht)))
                refine nx_round (j + 1) ⟨by omega, next hf⟩ (by omega) ts_ (fun _ s => s.tl)
              · omega
        · omega
    · --
      repeat' (first | (refine ycf ?_; apply ybk; (· first | (first | (refine yad rfl (hel _) ?_; rfl)) | (apply yae; (· rfl); (· (first | exact yck (yaz 0 rfl) hu rfl)))); (· rfl); (· rfl)) | refine t1_ ?_ | (refine ta_ ?_; intro _) | ((fail_if_success (refine ybi rfl ?_)); refine ybj rfl ?_ ?_ <;> (intro ht; rw [ht]; first | replace ht := of_decide_eq_true ht | replace ht := of_decide_eq_false ht | skip)) | (refine ych ?_; first | (refine ybw rfl ?_ ?_ <;> intro ht) | (refine ybx rfl ?_ ?_ <;> intro ht)))
      · omega
      refine nx_ret1 rfl (rv_tmp rfl) (fun w' s' => ⟨?_, s'.nil⟩)
      have h1 : moresOk u l = true := List.all_eq_true.2 fun i hi => hm i (by have := List.mem_range.1 hi; omega)
      have h2 : ¬ 32 < l.length := by omega
      simp [checkC, hup, h1, h2]
end Go.Proofs.Ytbpahaciegfpfaa
