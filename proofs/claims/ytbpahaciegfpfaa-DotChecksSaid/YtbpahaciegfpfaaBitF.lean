/-
  BitF: casketref14.Write.
  Conditions: a context that is one.
-/
import Derived.Test.YtbpahaciegfpfaaBitE
namespace Go.Proofs.Ytbpahaciegfpfaa
open Go Go.Ck
set_option maxRecDepth 100000
set_option maxHeartbeats 2000000
set_option linter.unusedVariables false

theorem refWrite_sp (cv : Value) (u : List Int) (l : List Dt) (h : View) (hc : Cx h cv u l) (hk0 : checkC u l = 0) (w : World) (s : St ⟨w, h, []⟩ h [] w) :
    Calls Try.prog 31 [cv].toArray w fun e w' => e = .returned (.string (bstr (encW u l))) ∧ St ⟨w, h, []⟩ h [] w' := by
  obtain ⟨hub, hl32, hlr⟩ := check_right hk0
  obtain ⟨hu, mv, rfl, hs⟩ := hc
  obtain ⟨_, ad, cap, rfl, _, _⟩ := id hs
  refine calls_enter Try.func31 rfl Try.ntmps31 rfl s ?_
  repeat' (first | refine tw_ ?_ | (refine ta_ ?_; intro _) | ((fail_if_success (refine ybi rfl ?_)); refine ybj rfl ?_ ?_ <;> (intro ht; rw [ht]; first | replace ht := of_decide_eq_true ht | replace ht := of_decide_eq_false ht | skip)) | (refine ych ?_; first | (refine ybw rfl ?_ ?_ <;> intro ht) | (refine ybx rfl ?_ ?_ <;> intro ht)))
  rename_i b1
  refine cx_loop (X := Nat) (fun k => [(1, .pointer (some ⟨b1, 0, none⟩)), (3, .string (bstr ((u.take k).flatMap num8))), (4, .int .i64 k)]) (fun _ => h) (fun _ => _) (fun k => k ≤ 16) (fun k => 16 - k) 0 (Nat.zero_le _) ts_ (fun _ s => s) ?_
  intro k hk
  by_cases hk16 : k < 16
  · have hku : k < u.length := by omega
    have egk : u.getD k 0 = u[k] := by simp [hku]
    have hb := hub _ (List.getElem_mem hku)
    rw [← egk] at hb
    have hfl := encU_len (u.take k)
    rw [List.length_take] at hfl
    have hcat : bstr ((u.take k).flatMap num8) ++ bstr (num8 (u.getD k 0)) = bstr ((u.take (k + 1)).flatMap num8) := by rw [bstr_app, flat_succ hku, egk]
    have hsz : (bstr ((u.take k).flatMap num8)).size + (bstr (num8 (u.getD k 0))).size < 1000000 := by rw [bstr_size, bstr_size, num8_len, hfl]; omega
    repeat' (first | (refine ycf ?_; apply ybk; (· first | (refine qv_str_add rfl rfl hcat hsz) | (apply yae; (· rfl); (· exact ycl (yaz 0 rfl) k (by omega) hku))); (· rfl); (· rfl)) | refine t1_ ?_ | (refine ta_ ?_; intro _) | ((fail_if_success (refine ybi rfl ?_)); refine ybj rfl ?_ ?_ <;> (intro ht; rw [ht]; first | replace ht := of_decide_eq_true ht | replace ht := of_decide_eq_false ht | skip)) | (refine ych ?_; first | (refine ybw rfl ?_ ?_ <;> intro ht) | (refine ybx rfl ?_ ?_ <;> intro ht)))
    (refine ycn (ycp Try.func52 rfl (by kernel_rfl) rfl) (refNum_sp (u.getD k 0) hb.1 (by omega) h) rfl rfl rfl ?_ ?_; (· (exact to_)))
    repeat' (first | (refine ycf ?_; apply ybk; (· first | (refine qv_str_add rfl rfl hcat hsz) | (apply yae; (· rfl); (· exact ycl (yaz 0 rfl) k (by omega) hku))); (· rfl); (· rfl)) | refine t1_ ?_ | (refine ta_ ?_; intro _) | ((fail_if_success (refine ybi rfl ?_)); refine ybj rfl ?_ ?_ <;> (intro ht; rw [ht]; first | replace ht := of_decide_eq_true ht | replace ht := of_decide_eq_false ht | skip)) | (refine ych ?_; first | (refine ybw rfl ?_ ?_ <;> intro ht) | (refine ybx rfl ?_ ?_ <;> intro ht)))
    exact nx_round (k + 1) (by show k + 1 ≤ 16; omega) (by show 16 - (k + 1) < 16 - k; omega) ts_ (fun _ s => s)
    omega
  · have ek : k = 16 := by omega
    subst ek
    have htk : u.take 16 = u := List.take_of_length_le (by omega)
    have hfl := encU_len u
    rw [htk]
    have hcat : bstr (u.flatMap num8) ++ bstr (num1 l.length) = bstr (u.flatMap num8 ++ num1 l.length) := bstr_app _ _
    have hsz : (bstr (u.flatMap num8)).size + (bstr (num1 l.length)).size < 1000000 := by rw [bstr_size, bstr_size, num1_len, hfl]; omega
    repeat' (first | (refine ycf ?_; apply ybk; (· first | (refine qv_str_add rfl rfl hcat hsz) | (apply yae; (· rfl); (· exact yck (yaz 0 rfl) hu rfl))); (· rfl); (· rfl)) | refine t1_ ?_ | (refine ta_ ?_; intro _) | ((fail_if_success (refine ybi rfl ?_)); refine ybj rfl ?_ ?_ <;> (intro ht; rw [ht]; first | replace ht := of_decide_eq_true ht | replace ht := of_decide_eq_false ht | skip)) | (refine ych ?_; first | (refine ybw rfl ?_ ?_ <;> intro ht) | (refine ybx rfl ?_ ?_ <;> intro ht)))
    (refine ycn (ycp Try.func53 rfl (by kernel_rfl) rfl) (refSmall_sp l.length (by omega) (by omega) h) rfl rfl rfl ?_ ?_; (· (exact to_)))
    repeat' (first | (refine ycf ?_; apply ybk; (· first | (refine qv_str_add rfl rfl hcat hsz) | (apply yae; (· rfl); (· exact yck (yaz 0 rfl) hu rfl))); (· rfl); (· rfl)) | refine t1_ ?_ | (refine ta_ ?_; intro _) | ((fail_if_success (refine ybi rfl ?_)); refine ybj rfl ?_ ?_ <;> (intro ht; rw [ht]; first | replace ht := of_decide_eq_true ht | replace ht := of_decide_eq_false ht | skip)) | (refine ych ?_; first | (refine ybw rfl ?_ ?_ <;> intro ht) | (refine ybx rfl ?_ ?_ <;> intro ht)))
    have hpre : (u.flatMap num8 ++ num1 l.length).length = 129 := by rw [List.length_append, hfl, num1_len]; omega
    refine cx_loop (X := Nat) (fun k => [(1, .pointer (some ⟨b1, 0, none⟩)), (3, .string (bstr (u.flatMap num8 ++ num1 l.length ++ (l.take k).flatMap encD))), (5, .int .i64 k)]) (fun _ => h) (fun _ => _) (fun k => k ≤ l.length) (fun k => l.length - k) 0 (Nat.zero_le _) ?_ (fun _ s => s) ?_
    · refine Sub.cons rfl rfl (Sub.cons rfl ?_ ts_)
      rw [List.take_zero, List.flatMap_nil, List.append_nil]
    intro j hj
    have hfj := encL_len (l.take j)
    rw [List.length_take] at hfj
    by_cases hjl : j < l.length
    · obtain ⟨bs, o, rfl⟩ := hs.ad (by omega) (by omega)
      have hel : ∀ L, Cells h L ⟨bs, o + j * 2, none⟩ (dcs l[j]) := fun L => hs.elem dcs_len j hjl
      have hc0 : ∀ L, CellAt h L bs (o + (j : Int).toNat * 2 + 0) (.int .i64 l[j].1) := fun L => (hel L).cell (j := 0) rfl
      have hc1 : ∀ L, CellAt h L bs (o + (j : Int).toNat * 2 + 1) (.int .i64 l[j].2) := fun L => (hel L).cell (j := 1) rfl
      have hd4 := right_of (hlr _ (List.getElem_mem hjl))
      have hcat1 : bstr (u.flatMap num8 ++ num1 l.length ++ (l.take j).flatMap encD) ++ bstr (num8 l[j].1) = bstr (u.flatMap num8 ++ num1 l.length ++ (l.take j).flatMap encD ++ num8 l[j].1) := bstr_app _ _
      have hcat2 : bstr (u.flatMap num8 ++ num1 l.length ++ (l.take j).flatMap encD ++ num8 l[j].1) ++ bstr (num8 l[j].2) = bstr (u.flatMap num8 ++ num1 l.length ++ (l.take (j + 1)).flatMap encD) := by
        rw [bstr_app, flat_succ hjl]
        simp only [encD, List.append_assoc]
      have hsz1 : (bstr (u.flatMap num8 ++ num1 l.length ++ (l.take j).flatMap encD)).size + (bstr (num8 l[j].1)).size < 1000000 := by rw [bstr_size, bstr_size, num8_len, List.length_append, hpre, hfj]; omega
      have hsz2 : (bstr (u.flatMap num8 ++ num1 l.length ++ (l.take j).flatMap encD ++ num8 l[j].1)).size + (bstr (num8 l[j].2)).size < 1000000 := by rw [bstr_size, bstr_size, num8_len, List.length_append, num8_len, List.length_append, hpre, hfj]; omega
      repeat' (first | (refine ycf ?_; apply ybk; (· first | (refine qv_str_add rfl rfl hcat hsz) | (apply yae; (· rfl); (· exact yck (yaz 0 rfl) hu rfl))); (· rfl); (· rfl)) | refine t1_ ?_ | (refine ta_ ?_; intro _) | ((fail_if_success (refine ybi rfl ?_)); refine ybj rfl ?_ ?_ <;> (intro ht; rw [ht]; first | replace ht := of_decide_eq_true ht | replace ht := of_decide_eq_false ht | skip)) | (refine ych ?_; first | (refine ybw rfl ?_ ?_ <;> intro ht) | (refine ybx rfl ?_ ?_ <;> intro ht)))
      · refine cx_region_draw' rfl (by kernel_rfl) ?_
        repeat' (refine ycf ?_;(first|(first|(apply ybm;(·(first|(first|(refine qv_str_add rfl rfl hcat1 hsz1)|(refine qv_str_add rfl rfl hcat2 hsz2))|(apply yae;(·rfl);(·(first|exact yck (yaz 0 rfl) hu rfl|exact hc0 _|exact hc1 _)))|exact tq_));(·rfl);(·rfl);(·(exact th_)))|refine ybl rfl rfl ?_|((fail_if_success (refine ybi rfl ?_));refine ybj rfl ?_ ?_<;>(intro ht;rw [ht];first|replace ht := of_decide_eq_true ht|replace ht := of_decide_eq_false ht|skip))|(refine tb_ ?_ ?_ ?_;(·(exact to_));(·intro _;(exact to_));intro _)|(first|(refine tqs_ ?_ ?_ ?_;(·(exact to_));(·(exact to_))))|(apply ybn;(·(first|(first|(refine qv_str_add rfl rfl hcat1 hsz1)|(refine qv_str_add rfl rfl hcat2 hsz2))|(apply yae;(·rfl);(·(first|exact yck (yaz 0 rfl) hu rfl|exact hc0 _|exact hc1 _)))|exact tq_));(·rfl);(·rfl);(·rfl);(·(exact to_))))|refine ycg ?_))
        (refine ycn (ycp Try.func52 rfl (by kernel_rfl) rfl) (refNum_sp l[j].1 (by omega) (by omega) h) rfl rfl rfl ?_ ?_; (· (exact to_)))
        repeat' (refine ycf ?_;(first|(first|(apply ybm;(·(first|(first|(refine qv_str_add rfl rfl hcat1 hsz1)|(refine qv_str_add rfl rfl hcat2 hsz2))|(apply yae;(·rfl);(·(first|exact yck (yaz 0 rfl) hu rfl|exact hc0 _|exact hc1 _)))|exact tq_));(·rfl);(·rfl);(·(exact th_)))|refine ybl rfl rfl ?_|((fail_if_success (refine ybi rfl ?_));refine ybj rfl ?_ ?_<;>(intro ht;rw [ht];first|replace ht := of_decide_eq_true ht|replace ht := of_decide_eq_false ht|skip))|(refine tb_ ?_ ?_ ?_;(·(exact to_));(·intro _;(exact to_));intro _)|(first|(refine tqs_ ?_ ?_ ?_;(·(exact to_));(·(exact to_))))|(apply ybn;(·(first|(first|(refine qv_str_add rfl rfl hcat1 hsz1)|(refine qv_str_add rfl rfl hcat2 hsz2))|(apply yae;(·rfl);(·(first|exact yck (yaz 0 rfl) hu rfl|exact hc0 _|exact hc1 _)))|exact tq_));(·rfl);(·rfl);(·rfl);(·(exact to_))))|refine ycg ?_))
        (refine ycn (ycp Try.func52 rfl (by kernel_rfl) rfl) (refNum_sp l[j].2 (by omega) (by omega) h) rfl rfl rfl ?_ ?_; (· (exact to_)))
        repeat' (refine ycf ?_;(first|(first|(apply ybm;(·(first|(first|(refine qv_str_add rfl rfl hcat1 hsz1)|(refine qv_str_add rfl rfl hcat2 hsz2))|(apply yae;(·rfl);(·(first|exact yck (yaz 0 rfl) hu rfl|exact hc0 _|exact hc1 _)))|exact tq_));(·rfl);(·rfl);(·(exact th_)))|refine ybl rfl rfl ?_|((fail_if_success (refine ybi rfl ?_));refine ybj rfl ?_ ?_<;>(intro ht;rw [ht];first|replace ht := of_decide_eq_true ht|replace ht := of_decide_eq_false ht|skip))|(refine tb_ ?_ ?_ ?_;(·(exact to_));(·intro _;(exact to_));intro _)|(first|(refine tqs_ ?_ ?_ ?_;(·(exact to_));(·(exact to_))))|(apply ybn;(·(first|(first|(refine qv_str_add rfl rfl hcat1 hsz1)|(refine qv_str_add rfl rfl hcat2 hsz2))|(apply yae;(·rfl);(·(first|exact yck (yaz 0 rfl) hu rfl|exact hc0 _|exact hc1 _)))|exact tq_));(·rfl);(·rfl);(·rfl);(·(exact to_))))|refine ycg ?_))
        repeat' (first | (refine ycf ?_; apply ybk; (· first | (first | (refine qv_str_add rfl rfl hcat1 hsz1) | (refine qv_str_add rfl rfl hcat2 hsz2)) | (apply yae; (· rfl); (· (first | exact yck (yaz 0 rfl) hu rfl | exact hc0 _ | exact hc1 _)))); (· rfl); (· rfl)) | refine t1_ ?_ | (refine ta_ ?_; intro _) | ((fail_if_success (refine ybi rfl ?_)); refine ybj rfl ?_ ?_ <;> (intro ht; rw [ht]; first | replace ht := of_decide_eq_true ht | replace ht := of_decide_eq_false ht | skip)) | (refine ych ?_; first | (refine ybw rfl ?_ ?_ <;> intro ht) | (refine ybx rfl ?_ ?_ <;> intro ht)))
        exact nx_round (j + 1) (by show j + 1 ≤ _; omega) (by show l.length - (j + 1) < l.length - j; omega) ts_ (fun _ s => s)
      · omega
    · have ej : j = l.length := by omega
      subst ej
      rw [List.take_length]
      repeat' (first | (refine ycf ?_; apply ybk; (· first | (first | (refine qv_str_add rfl rfl hcat1 hsz1) | (refine qv_str_add rfl rfl hcat2 hsz2)) | (apply yae; (· rfl); (· (first | exact yck (yaz 0 rfl) hu rfl | exact hc0 _ | exact hc1 _)))); (· rfl); (· rfl)) | refine t1_ ?_ | (refine ta_ ?_; intro _) | ((fail_if_success (refine ybi rfl ?_)); refine ybj rfl ?_ ?_ <;> (intro ht; rw [ht]; first | replace ht := of_decide_eq_true ht | replace ht := of_decide_eq_false ht | skip)) | (refine ych ?_; first | (refine ybw rfl ?_ ?_ <;> intro ht) | (refine ybx rfl ?_ ?_ <;> intro ht)))
      · omega
      exact nx_ret1 rfl (rv_tmp rfl) (fun w' s' => ⟨rfl, s'.nil⟩)
end Go.Proofs.Ytbpahaciegfpfaa
