/-
  Part 5 of a proof: DotK DotL DotM DotN DotQ CkGrow DotT DotU DotW CkRow CkBool CkTb.
  Conditions: each theorem states its own.
-/
import Derived.Lib.AppendZerosOnto
import Derived.Laws.Small
import Derived.Test.YtkkjppeaaicgaaaHsEPM4
section
namespace Go.Proofs.Ytkkjppeaaicgaaa
open Go Go.Ck
set_option maxRecDepth 100000
set_option maxHeartbeats 1000000
set_option linter.unusedVariables false

theorem Add_sp (cv : Value) (u : List Int) (l : List Dt) (d : Dt) (h : View) (hc : Cx h cv u l) (hl : l.length ≤ 100000) (w : World) (s : St ⟨w, h, []⟩ h [] w) :
    Calls Try.prog 40 [cv, dv d].toArray w fun e w' => ∃ x : View × Value × List Dt × Int, e = .returned (.tuple #[x.2.1, .int .i64 x.2.2.2]) ∧ St ⟨w, h, []⟩ x.1 [] w' ∧
      (if checkC u l ≠ 0 ∨ rightB d = false then x.2.2.2 = 1 ∧ Cx x.1 x.2.1 zeroU []
      else x.2.2.1.Perm (l ++ [d]) ∧ SortedD x.2.2.1 ∧
        (if 32 < (tfold u x.2.2.1).2.length then x.2.2.2 = 11 ∧ Cx x.1 x.2.1 zeroU [] else x.2.2.2 = 0 ∧ Cx x.1 x.2.1 (tfold u x.2.2.1).1 (tfold u x.2.2.1).2)) := by
  have hc' := hc
  obtain ⟨hu, mv, rfl, hs⟩ := hc
  have hchk := check_sp _ u l h hc' (by omega)
  have hright := right_sp d h
  refine calls_enter Try.func40 rfl Try.ntmps40 rfl s ?_
  repeat' (first | (refine ycf ?_; apply ybk; (· first | (first | (apply yad; (· rfl); (· exact yaz 2 rfl); (· exact ycj hu)) | (apply yad (vs := up u); (· rfl); (· exact ycm (yaz 2 rfl)); (· simp [up, hu])))); (· rfl); (· rfl)) | refine t1_ ?_ | (refine ta_ ?_; intro _) | ((fail_if_success (refine ybi rfl ?_)); refine ybj rfl ?_ ?_ <;> (intro ht; rw [ht]; first | replace ht := of_decide_eq_true ht | replace ht := of_decide_eq_false ht | skip)) | (refine ych ?_; first | (refine ybw rfl ?_ ?_ <;> intro ht) | (refine ybx rfl ?_ ?_ <;> intro ht)))
  (refine ycn (ycp Try.func41 rfl (by kernel_rfl) rfl) (hchk) rfl rfl rfl ?_ ?_; (· (exact to_)))
  repeat' (first | (refine ycf ?_; apply ybk; (· first | (first | (apply yad; (· rfl); (· exact yaz 2 rfl); (· exact ycj hu)) | (apply yad (vs := up u); (· rfl); (· exact ycm (yaz 2 rfl)); (· simp [up, hu])))); (· rfl); (· rfl)) | refine t1_ ?_ | (refine ta_ ?_; intro _) | ((fail_if_success (refine ybi rfl ?_)); refine ybj rfl ?_ ?_ <;> (intro ht; rw [ht]; first | replace ht := of_decide_eq_true ht | replace ht := of_decide_eq_false ht | skip)) | (refine ych ?_; first | (refine ybw rfl ?_ ?_ <;> intro ht) | (refine ybx rfl ?_ ?_ <;> intro ht)))
  · have hk := ht
    refine nx_ret2 rfl (rv_cells rfl (yaz 0 rfl) rfl) (rv_tmp rfl) (fun w' s' => ⟨(h, cxv zeroU (.slice none 0 0), [], 1), rfl, s'.nil, ?_⟩)
    rw [if_pos (.inl hk)]
    exact ⟨rfl, rfl, _, rfl, Sc.nil h 2 none 0⟩
  have hk : checkC u l = 0 := by omega
  cases hR : rightB d with
  | false =>
    rw [hR] at hright
    (refine ycn (ycp Try.func61 rfl (by kernel_rfl) rfl) (hright) rfl rfl rfl ?_ ?_; (· (exact to_)))
    repeat' (first | (refine ycf ?_; apply ybk; (· first | (first | (apply yad; (· rfl); (· exact yaz 2 rfl); (· exact ycj hu)) | (apply yad (vs := up u); (· rfl); (· exact ycm (yaz 2 rfl)); (· simp [up, hu])))); (· rfl); (· rfl)) | refine t1_ ?_ | (refine ta_ ?_; intro _) | ((fail_if_success (refine ybi rfl ?_)); refine ybj rfl ?_ ?_ <;> (intro ht; rw [ht]; first | replace ht := of_decide_eq_true ht | replace ht := of_decide_eq_false ht | skip)) | (refine ych ?_; first | (refine ybw rfl ?_ ?_ <;> intro ht) | (refine ybx rfl ?_ ?_ <;> intro ht)))
    refine nx_ret2 rfl (rv_cells rfl (yaz 0 rfl) rfl) (rv_tmp rfl) (fun w' s' => ⟨(h, cxv zeroU (.slice none 0 0), [], 1), rfl, s'.nil, ?_⟩)
    rw [if_pos (.inr rfl)]
    exact ⟨rfl, rfl, _, rfl, Sc.nil h 2 none 0⟩
  | true =>
    rw [hR] at hright
    obtain ⟨hub, _, hlr⟩ := check_right hk
    have hrr : ∀ x ∈ l ++ [d], rightB x = true := fun x hx => by
      rcases List.mem_append.1 hx with hx | hx
      · exact hlr x hx
      · rw [List.mem_singleton.1 hx]; exact hR
    (refine ycn (ycp Try.func61 rfl (by kernel_rfl) rfl) (hright) rfl rfl rfl ?_ ?_; (· (exact to_)))
    repeat' (first | (refine ycf ?_; apply ybk; (· first | (first | (apply yad; (· rfl); (· exact yaz 2 rfl); (· exact ycj hu)) | (apply yad (vs := up u); (· rfl); (· exact ycm (yaz 2 rfl)); (· simp [up, hu]))) | (apply yae; (· rfl); (· exact yck (yaz 2 rfl) hu rfl))); (· rfl); (· rfl)) | refine t1_ ?_ | (refine ta_ ?_; intro _) | ((fail_if_success (refine ybi rfl ?_)); refine ybj rfl ?_ ?_ <;> (intro ht; rw [ht]; first | replace ht := of_decide_eq_true ht | replace ht := of_decide_eq_false ht | skip)) | (refine ych ?_; first | (refine ybw rfl ?_ ?_ <;> intro ht) | (refine ybx rfl ?_ ?_ <;> intro ht)))
    refine cx_region_fork [0, 1, 2, 3, 5] 4 6 [7, 8, 9, 10, 11, 12] rfl (by kernel_rfl) ?_
    repeat' (refine ycf ?_;(first|(first|(apply ybm;(·(first|(first|(apply yad;(·rfl);(·exact yaz 2 rfl);(·exact ycj hu))|(apply yad (vs := up u);(·rfl);(·exact ycm (yaz 2 rfl));(·simp [up, hu])))|(apply yae;(·rfl);(·exact yck (yaz 2 rfl) hu rfl))|exact tq_));(·rfl);(·rfl);(·(exact th_)))|refine ybl rfl rfl ?_|((fail_if_success (refine ybi rfl ?_));refine ybj rfl ?_ ?_<;>(intro ht;rw [ht];first|replace ht := of_decide_eq_true ht|replace ht := of_decide_eq_false ht|skip))|(refine tb_ ?_ ?_ ?_;(·(exact to_));(·intro _;(exact to_));intro _)|(first|(refine tqs_ ?_ ?_ ?_;(·(exact to_));(·(exact to_))))|(apply ybn;(·(first|(first|(apply yad;(·rfl);(·exact yaz 2 rfl);(·exact ycj hu))|(apply yad (vs := up u);(·rfl);(·exact ycm (yaz 2 rfl));(·simp [up, hu])))|(apply yae;(·rfl);(·exact yck (yaz 2 rfl) hu rfl))|exact tq_));(·rfl);(·rfl);(·rfl);(·(exact to_))))|refine ycg ?_))
    refine nx_fork ?_ ?_
    · (refine yco (ycp Try.func63 rfl (by kernel_rfl) rfl) (clone_sp mv l h hs (by omega)) rfl rfl rfl ?_ ?_ ?_; (· (exact to_)); (· intro _ _ hle; (exact to_)); intro x px hle)
      repeat' (refine ycf ?_;(first|(first|(apply ybm;(·(first|(first|(apply yad;(·rfl);(·exact yaz 2 rfl);(·exact ycj hu))|(apply yad (vs := up u);(·rfl);(·exact ycm (yaz 2 rfl));(·simp [up, hu])))|(apply yae;(·rfl);(·exact yck (yaz 2 rfl) hu rfl))|exact tq_));(·rfl);(·rfl);(·(exact th_)))|refine ybl rfl rfl ?_|((fail_if_success (refine ybi rfl ?_));refine ybj rfl ?_ ?_<;>(intro ht;rw [ht];first|replace ht := of_decide_eq_true ht|replace ht := of_decide_eq_false ht|skip))|(refine tb_ ?_ ?_ ?_;(·(exact to_));(·intro _;(exact to_));intro _)|(first|(refine tqs_ ?_ ?_ ?_;(·(exact to_));(·(exact to_))))|(apply ybn;(·(first|(first|(apply yad;(·rfl);(·exact yaz 2 rfl);(·exact ycj hu))|(apply yad (vs := up u);(·rfl);(·exact ycm (yaz 2 rfl));(·simp [up, hu])))|(apply yae;(·rfl);(·exact yck (yaz 2 rfl) hu rfl))|exact tq_));(·rfl);(·rfl);(·rfl);(·(exact to_))))|refine ycg ?_))
      refine rx_append (sz := 2) 1 rfl rfl rfl (yaz 0 rfl) rfl (one_dcs [d]) rfl (by omega) (by unfold maxLen; omega) (by omega) rfl rfl rfl ?_ ?_ ?_
      · (exact to_)
      · intro v'; (exact to_)
      intro v2 _
      refine rx_perm (perm_at (k := 1) rfl) (rx_persist rfl fun h3 hle3 hs3 => ?_)
      have hs3' : Ds h3 v2 (l ++ [d]) := by
        unfold Ds
        rw [List.length_append, List.flatMap_append]
        exact hs3
      (refine yco (ycp Try.func62 rfl (by kernel_rfl) rfl) (tidy_sp u v2 (l ++ [d]) h3 hu hub hs3' hrr (by simp; omega)) rfl rfl rfl ?_ ?_ ?_; (· (exact to_)); (· intro _ _ hle; (exact to_)); intro x px hle)
      obtain ⟨h4, v4, srt, er⟩ := x
      replace hle : Le h3 h4 := hle
      obtain ⟨p1, p2, p3⟩ := px
      have hcx : ∃ u' m', Cx h4 v4 u' m' := by
        split at p3
        · exact ⟨_, _, p3.2⟩
        · exact ⟨_, _, p3.2⟩
      obtain ⟨u', m', hu', mv', rfl, hs'⟩ := hcx
      obtain ⟨_, ad', cap', rfl, _, _⟩ := id hs'
      repeat' (refine ycf ?_;(first|(first|(apply ybm;(·(first|(first|(apply yad;(·rfl);(·exact yaz 2 rfl);(·exact ycj hu))|(apply yad (vs := up u);(·rfl);(·exact ycm (yaz 2 rfl));(·simp [up, hu])))|(apply yae;(·rfl);(·exact yck (yaz 2 rfl) hu rfl))|exact tq_));(·rfl);(·rfl);(·(first|exact fun _ s => s|exact fun _ s => s.tl|exact fun _ s => s.tl.tl|exact fun _ s => Hd.sub s (Le.trans hle3 hle) (fun r hr => List.mem_cons_of_mem _ hr))))|refine ybl rfl rfl ?_|((fail_if_success (refine ybi rfl ?_));refine ybj rfl ?_ ?_<;>(intro ht;rw [ht];first|replace ht := of_decide_eq_true ht|replace ht := of_decide_eq_false ht|skip))|(refine tb_ ?_ ?_ ?_;(·(first|exact ybf|(refine .inl ?_;(first|exact fun _ s => s|exact fun _ s => s.tl|exact fun _ s => s.tl.tl|exact fun _ s => Hd.sub s (Le.trans hle3 hle) (fun r hr => List.mem_cons_of_mem _ hr)))|exact to_));(·intro _;(first|exact ybf|(refine .inl ?_;(first|exact fun _ s => s|exact fun _ s => s.tl|exact fun _ s => s.tl.tl|exact fun _ s => Hd.sub s (Le.trans hle3 hle) (fun r hr => List.mem_cons_of_mem _ hr)))|exact to_));intro _)|(first|(refine ybg 1 rfl rfl rfl (cxc_sz hu') (cxc_fit hu') (cxc_one rfl) (ybh (cxc_all hu')) rfl rfl ?_ ?_ ?_;(·(first|exact ybf|(refine .inl ?_;(first|exact fun _ s => s|exact fun _ s => s.tl|exact fun _ s => s.tl.tl|exact fun _ s => Hd.sub s (Le.trans hle3 hle) (fun r hr => List.mem_cons_of_mem _ hr)))|exact to_));(·(first|exact ybf|(refine .inl ?_;(first|exact fun _ s => s|exact fun _ s => s.tl|exact fun _ s => s.tl.tl|exact fun _ s => Hd.sub s (Le.trans hle3 hle) (fun r hr => List.mem_cons_of_mem _ hr)))|exact to_)))|(refine tqs_ ?_ ?_ ?_;(·(first|exact ybf|(refine .inl ?_;(first|exact fun _ s => s|exact fun _ s => s.tl|exact fun _ s => s.tl.tl|exact fun _ s => Hd.sub s (Le.trans hle3 hle) (fun r hr => List.mem_cons_of_mem _ hr)))|exact to_));(·(first|exact ybf|(refine .inl ?_;(first|exact fun _ s => s|exact fun _ s => s.tl|exact fun _ s => s.tl.tl|exact fun _ s => Hd.sub s (Le.trans hle3 hle) (fun r hr => List.mem_cons_of_mem _ hr)))|exact to_))))|(apply ybn;(·(first|(first|(apply yad;(·rfl);(·exact yaz 2 rfl);(·exact ycj hu))|(apply yad (vs := up u);(·rfl);(·exact ycm (yaz 2 rfl));(·simp [up, hu])))|(apply yae;(·rfl);(·exact yck (yaz 2 rfl) hu rfl))|exact tq_));(·rfl);(·rfl);(·rfl);(·(first|exact ybf|(refine .inl ?_;(first|exact fun _ s => s|exact fun _ s => s.tl|exact fun _ s => s.tl.tl|exact fun _ s => Hd.sub s (Le.trans hle3 hle) (fun r hr => List.mem_cons_of_mem _ hr)))|exact to_))))|refine ycg ?_))
      repeat' (first|(refine ycf ?_;apply ybk;(·first|(first|(apply yad;(·rfl);(·exact yaz 2 rfl);(·exact ycj hu))|(apply yad (vs := up u);(·rfl);(·exact ycm (yaz 2 rfl));(·simp [up, hu])))|(apply yae;(·rfl);(·exact yck (yaz 2 rfl) hu rfl)));(·rfl);(·rfl))|(refine ybg 1 rfl rfl rfl (cxc_sz hu') (cxc_fit hu') (cxc_one rfl) (ybh (cxc_all hu')) rfl rfl ?_ ?_ ?_;(·(first|exact ybf|(refine .inl ?_;(first|exact fun _ s => s|exact fun _ s => s.tl|exact fun _ s => s.tl.tl|exact fun _ s => Hd.sub s (Le.trans hle3 hle) (fun r hr => List.mem_cons_of_mem _ hr)))|exact to_));(·(first|exact ybf|(refine .inl ?_;(first|exact fun _ s => s|exact fun _ s => s.tl|exact fun _ s => s.tl.tl|exact fun _ s => Hd.sub s (Le.trans hle3 hle) (fun r hr => List.mem_cons_of_mem _ hr)))|exact to_)))|refine t1_ ?_|(refine ta_ ?_;intro _)|((fail_if_success (refine ybi rfl ?_));refine ybj rfl ?_ ?_<;>(intro ht;rw [ht];first|replace ht := of_decide_eq_true ht|replace ht := of_decide_eq_false ht|skip))|(refine ych ?_;first|(refine ybw rfl ?_ ?_<;>intro ht)|(refine ybx rfl ?_ ?_<;>intro ht)))
      refine nx_ret2 rfl (rv_cells rfl (yaz 1 rfl) (cxc_all hu')) (rv_tmp rfl) (fun w' s' => ⟨(h4, cxv u' (.slice ad' m'.length cap'), srt, er), rfl, s'.nil, ?_⟩)
      rw [if_neg (by simp [hk])]
      exact ⟨p1, p2, p3⟩
    · repeat' (refine ycf ?_;(first|(first|(apply ybm;(·(first|(first|(apply yad;(·rfl);(·exact yaz 2 rfl);(·exact ycj hu))|(apply yad (vs := up u);(·rfl);(·exact ycm (yaz 2 rfl));(·simp [up, hu])))|(apply yae;(·rfl);(·exact yck (yaz 2 rfl) hu rfl))|exact tq_));(·rfl);(·rfl);(·(first|exact fun _ s => s|exact fun _ s => s.tl|exact fun _ s => s.tl.tl|exact fun _ s => Hd.sub s (Le.trans hle3 hle) (fun r hr => List.mem_cons_of_mem _ hr))))|refine ybl rfl rfl ?_|((fail_if_success (refine ybi rfl ?_));refine ybj rfl ?_ ?_<;>(intro ht;rw [ht];first|replace ht := of_decide_eq_true ht|replace ht := of_decide_eq_false ht|skip))|(refine tb_ ?_ ?_ ?_;(·(first|exact ybf|(refine .inl ?_;(first|exact fun _ s => s|exact fun _ s => s.tl|exact fun _ s => s.tl.tl|exact fun _ s => Hd.sub s (Le.trans hle3 hle) (fun r hr => List.mem_cons_of_mem _ hr)))|exact to_));(·intro _;(first|exact ybf|(refine .inl ?_;(first|exact fun _ s => s|exact fun _ s => s.tl|exact fun _ s => s.tl.tl|exact fun _ s => Hd.sub s (Le.trans hle3 hle) (fun r hr => List.mem_cons_of_mem _ hr)))|exact to_));intro _)|(first|(refine ybg 1 rfl rfl rfl (cxc_sz hu') (cxc_fit hu') (cxc_one rfl) (ybh (cxc_all hu')) rfl rfl ?_ ?_ ?_;(·(first|exact ybf|(refine .inl ?_;(first|exact fun _ s => s|exact fun _ s => s.tl|exact fun _ s => s.tl.tl|exact fun _ s => Hd.sub s (Le.trans hle3 hle) (fun r hr => List.mem_cons_of_mem _ hr)))|exact to_));(·(first|exact ybf|(refine .inl ?_;(first|exact fun _ s => s|exact fun _ s => s.tl|exact fun _ s => s.tl.tl|exact fun _ s => Hd.sub s (Le.trans hle3 hle) (fun r hr => List.mem_cons_of_mem _ hr)))|exact to_)))|(refine tqs_ ?_ ?_ ?_;(·(first|exact ybf|(refine .inl ?_;(first|exact fun _ s => s|exact fun _ s => s.tl|exact fun _ s => s.tl.tl|exact fun _ s => Hd.sub s (Le.trans hle3 hle) (fun r hr => List.mem_cons_of_mem _ hr)))|exact to_));(·(first|exact ybf|(refine .inl ?_;(first|exact fun _ s => s|exact fun _ s => s.tl|exact fun _ s => s.tl.tl|exact fun _ s => Hd.sub s (Le.trans hle3 hle) (fun r hr => List.mem_cons_of_mem _ hr)))|exact to_))))|(apply ybn;(·(first|(first|(apply yad;(·rfl);(·exact yaz 2 rfl);(·exact ycj hu))|(apply yad (vs := up u);(·rfl);(·exact ycm (yaz 2 rfl));(·simp [up, hu])))|(apply yae;(·rfl);(·exact yck (yaz 2 rfl) hu rfl))|exact tq_));(·rfl);(·rfl);(·rfl);(·(first|exact ybf|(refine .inl ?_;(first|exact fun _ s => s|exact fun _ s => s.tl|exact fun _ s => s.tl.tl|exact fun _ s => Hd.sub s (Le.trans hle3 hle) (fun r hr => List.mem_cons_of_mem _ hr)))|exact to_))))|refine ycg ?_))
      (refine yco (ycp Try.func63 rfl (by kernel_rfl) rfl) (clone_sp mv l h hs (by omega)) rfl rfl rfl ?_ ?_ ?_; (· (first | exact ybf | (refine .inl ?_; (first | exact fun _ s => s | exact fun _ s => s.tl | exact fun _ s => s.tl.tl | exact fun _ s => Hd.sub s (Le.trans hle3 hle) (fun r hr => List.mem_cons_of_mem _ hr))) | exact to_)); (· intro _ _ hle; (first | exact ybf | (refine .inl ?_; (first | exact fun _ s => s | exact fun _ s => s.tl | exact fun _ s => s.tl.tl | exact fun _ s => Hd.sub s (Le.trans hle3 hle) (fun r hr => List.mem_cons_of_mem _ hr))) | exact to_)); intro x px hle)
      repeat' (refine ycf ?_;(first|(first|(apply ybm;(·(first|(first|(apply yad;(·rfl);(·exact yaz 2 rfl);(·exact ycj hu))|(apply yad (vs := up u);(·rfl);(·exact ycm (yaz 2 rfl));(·simp [up, hu])))|(apply yae;(·rfl);(·exact yck (yaz 2 rfl) hu rfl))|exact tq_));(·rfl);(·rfl);(·(first|exact fun _ s => s|exact fun _ s => s.tl|exact fun _ s => s.tl.tl|exact fun _ s => Hd.sub s (Le.trans hle3 hle) (fun r hr => List.mem_cons_of_mem _ hr))))|refine ybl rfl rfl ?_|((fail_if_success (refine ybi rfl ?_));refine ybj rfl ?_ ?_<;>(intro ht;rw [ht];first|replace ht := of_decide_eq_true ht|replace ht := of_decide_eq_false ht|skip))|(refine tb_ ?_ ?_ ?_;(·(first|exact ybf|(refine .inl ?_;(first|exact fun _ s => s|exact fun _ s => s.tl|exact fun _ s => s.tl.tl|exact fun _ s => Hd.sub s (Le.trans hle3 hle) (fun r hr => List.mem_cons_of_mem _ hr)))|exact to_));(·intro _;(first|exact ybf|(refine .inl ?_;(first|exact fun _ s => s|exact fun _ s => s.tl|exact fun _ s => s.tl.tl|exact fun _ s => Hd.sub s (Le.trans hle3 hle) (fun r hr => List.mem_cons_of_mem _ hr)))|exact to_));intro _)|(first|(refine ybg 1 rfl rfl rfl (cxc_sz hu') (cxc_fit hu') (cxc_one rfl) (ybh (cxc_all hu')) rfl rfl ?_ ?_ ?_;(·(first|exact ybf|(refine .inl ?_;(first|exact fun _ s => s|exact fun _ s => s.tl|exact fun _ s => s.tl.tl|exact fun _ s => Hd.sub s (Le.trans hle3 hle) (fun r hr => List.mem_cons_of_mem _ hr)))|exact to_));(·(first|exact ybf|(refine .inl ?_;(first|exact fun _ s => s|exact fun _ s => s.tl|exact fun _ s => s.tl.tl|exact fun _ s => Hd.sub s (Le.trans hle3 hle) (fun r hr => List.mem_cons_of_mem _ hr)))|exact to_)))|(refine tqs_ ?_ ?_ ?_;(·(first|exact ybf|(refine .inl ?_;(first|exact fun _ s => s|exact fun _ s => s.tl|exact fun _ s => s.tl.tl|exact fun _ s => Hd.sub s (Le.trans hle3 hle) (fun r hr => List.mem_cons_of_mem _ hr)))|exact to_));(·(first|exact ybf|(refine .inl ?_;(first|exact fun _ s => s|exact fun _ s => s.tl|exact fun _ s => s.tl.tl|exact fun _ s => Hd.sub s (Le.trans hle3 hle) (fun r hr => List.mem_cons_of_mem _ hr)))|exact to_))))|(apply ybn;(·(first|(first|(apply yad;(·rfl);(·exact yaz 2 rfl);(·exact ycj hu))|(apply yad (vs := up u);(·rfl);(·exact ycm (yaz 2 rfl));(·simp [up, hu])))|(apply yae;(·rfl);(·exact yck (yaz 2 rfl) hu rfl))|exact tq_));(·rfl);(·rfl);(·rfl);(·(first|exact ybf|(refine .inl ?_;(first|exact fun _ s => s|exact fun _ s => s.tl|exact fun _ s => s.tl.tl|exact fun _ s => Hd.sub s (Le.trans hle3 hle) (fun r hr => List.mem_cons_of_mem _ hr)))|exact to_))))|refine ycg ?_))
      refine rx_append (sz := 2) 0 rfl rfl rfl (yaz 1 rfl) rfl (one_dcs [d]) rfl (by omega) (by unfold maxLen; omega) (by omega) rfl rfl rfl ?_ ?_ ?_
      · (first | exact ybf | (refine .inl ?_; (first | exact fun _ s => s | exact fun _ s => s.tl | exact fun _ s => s.tl.tl | exact fun _ s => Hd.sub s (Le.trans hle3 hle) (fun r hr => List.mem_cons_of_mem _ hr))) | exact to_)
      · intro v'; (first | exact ybf | (refine .inl ?_; (first | exact fun _ s => s | exact fun _ s => s.tl | exact fun _ s => s.tl.tl | exact fun _ s => Hd.sub s (Le.trans hle3 hle) (fun r hr => List.mem_cons_of_mem _ hr))) | exact to_)
      intro v2 _
      refine rx_persist rfl fun h3 hle3 hs3 => ?_
      have hs3' : Ds h3 v2 (l ++ [d]) := by
        unfold Ds
        rw [List.length_append, List.flatMap_append]
        exact hs3
      (refine yco (ycp Try.func62 rfl (by kernel_rfl) rfl) (tidy_sp u v2 (l ++ [d]) h3 hu hub hs3' hrr (by simp; omega)) rfl rfl rfl ?_ ?_ ?_; (· (first | exact ybf | (refine .inl ?_; (first | exact fun _ s => s | exact fun _ s => s.tl | exact fun _ s => s.tl.tl | exact fun _ s => Hd.sub s (Le.trans hle3 hle) (fun r hr => List.mem_cons_of_mem _ hr))) | exact to_)); (· intro _ _ hle; (first | exact ybf | (refine .inl ?_; (first | exact fun _ s => s | exact fun _ s => s.tl | exact fun _ s => s.tl.tl | exact fun _ s => Hd.sub s (Le.trans hle3 hle) (fun r hr => List.mem_cons_of_mem _ hr))) | exact to_)); intro x px hle)
      obtain ⟨h4, v4, srt, er⟩ := x
      replace hle : Le h3 h4 := hle
      obtain ⟨p1, p2, p3⟩ := px
      have hcx : ∃ u' m', Cx h4 v4 u' m' := by
        split at p3
        · exact ⟨_, _, p3.2⟩
        · exact ⟨_, _, p3.2⟩
      obtain ⟨u', m', hu', mv', rfl, hs'⟩ := hcx
      obtain ⟨_, ad', cap', rfl, _, _⟩ := id hs'
      repeat' (refine ycf ?_;(first|(first|(apply ybm;(·(first|(first|(apply yad;(·rfl);(·exact yaz 2 rfl);(·exact ycj hu))|(apply yad (vs := up u);(·rfl);(·exact ycm (yaz 2 rfl));(·simp [up, hu])))|(apply yae;(·rfl);(·exact yck (yaz 2 rfl) hu rfl))|exact tq_));(·rfl);(·rfl);(·(first|exact fun _ s => s|exact fun _ s => s.tl|exact fun _ s => s.tl.tl|exact fun _ s => Hd.sub s (Le.trans hle3 hle) (fun r hr => List.mem_cons_of_mem _ hr))))|refine ybl rfl rfl ?_|((fail_if_success (refine ybi rfl ?_));refine ybj rfl ?_ ?_<;>(intro ht;rw [ht];first|replace ht := of_decide_eq_true ht|replace ht := of_decide_eq_false ht|skip))|(refine tb_ ?_ ?_ ?_;(·(first|exact ybf|(refine .inl ?_;(first|exact fun _ s => s|exact fun _ s => s.tl|exact fun _ s => s.tl.tl|exact fun _ s => Hd.sub s (Le.trans hle3 hle) (fun r hr => List.mem_cons_of_mem _ hr)))|exact to_));(·intro _;(first|exact ybf|(refine .inl ?_;(first|exact fun _ s => s|exact fun _ s => s.tl|exact fun _ s => s.tl.tl|exact fun _ s => Hd.sub s (Le.trans hle3 hle) (fun r hr => List.mem_cons_of_mem _ hr)))|exact to_));intro _)|(first|(refine ybg 1 rfl rfl rfl (cxc_sz hu') (cxc_fit hu') (cxc_one rfl) (ybh (cxc_all hu')) rfl rfl ?_ ?_ ?_;(·(first|exact ybf|(refine .inl ?_;(first|exact fun _ s => s|exact fun _ s => s.tl|exact fun _ s => s.tl.tl|exact fun _ s => Hd.sub s (Le.trans hle3 hle) (fun r hr => List.mem_cons_of_mem _ hr)))|exact to_));(·(first|exact ybf|(refine .inl ?_;(first|exact fun _ s => s|exact fun _ s => s.tl|exact fun _ s => s.tl.tl|exact fun _ s => Hd.sub s (Le.trans hle3 hle) (fun r hr => List.mem_cons_of_mem _ hr)))|exact to_)))|(refine tqs_ ?_ ?_ ?_;(·(first|exact ybf|(refine .inl ?_;(first|exact fun _ s => s|exact fun _ s => s.tl|exact fun _ s => s.tl.tl|exact fun _ s => Hd.sub s (Le.trans hle3 hle) (fun r hr => List.mem_cons_of_mem _ hr)))|exact to_));(·(first|exact ybf|(refine .inl ?_;(first|exact fun _ s => s|exact fun _ s => s.tl|exact fun _ s => s.tl.tl|exact fun _ s => Hd.sub s (Le.trans hle3 hle) (fun r hr => List.mem_cons_of_mem _ hr)))|exact to_))))|(apply ybn;(·(first|(first|(apply yad;(·rfl);(·exact yaz 2 rfl);(·exact ycj hu))|(apply yad (vs := up u);(·rfl);(·exact ycm (yaz 2 rfl));(·simp [up, hu])))|(apply yae;(·rfl);(·exact yck (yaz 2 rfl) hu rfl))|exact tq_));(·rfl);(·rfl);(·rfl);(·(first|exact ybf|(refine .inl ?_;(first|exact fun _ s => s|exact fun _ s => s.tl|exact fun _ s => s.tl.tl|exact fun _ s => Hd.sub s (Le.trans hle3 hle) (fun r hr => List.mem_cons_of_mem _ hr)))|exact to_))))|refine ycg ?_))
      repeat' (first|(refine ycf ?_;apply ybk;(·first|(first|(apply yad;(·rfl);(·exact yaz 2 rfl);(·exact ycj hu))|(apply yad (vs := up u);(·rfl);(·exact ycm (yaz 2 rfl));(·simp [up, hu])))|(apply yae;(·rfl);(·exact yck (yaz 2 rfl) hu rfl)));(·rfl);(·rfl))|(refine ybg 1 rfl rfl rfl (cxc_sz hu') (cxc_fit hu') (cxc_one rfl) (ybh (cxc_all hu')) rfl rfl ?_ ?_ ?_;(·(first|exact ybf|(refine .inl ?_;(first|exact fun _ s => s|exact fun _ s => s.tl|exact fun _ s => s.tl.tl|exact fun _ s => Hd.sub s (Le.trans hle3 hle) (fun r hr => List.mem_cons_of_mem _ hr)))|exact to_));(·(first|exact ybf|(refine .inl ?_;(first|exact fun _ s => s|exact fun _ s => s.tl|exact fun _ s => s.tl.tl|exact fun _ s => Hd.sub s (Le.trans hle3 hle) (fun r hr => List.mem_cons_of_mem _ hr)))|exact to_)))|refine t1_ ?_|(refine ta_ ?_;intro _)|((fail_if_success (refine ybi rfl ?_));refine ybj rfl ?_ ?_<;>(intro ht;rw [ht];first|replace ht := of_decide_eq_true ht|replace ht := of_decide_eq_false ht|skip))|(refine ych ?_;first|(refine ybw rfl ?_ ?_<;>intro ht)|(refine ybx rfl ?_ ?_<;>intro ht)))
      refine nx_ret2 rfl (rv_cells rfl (yaz 1 rfl) (cxc_all hu')) (rv_tmp rfl) (fun w' s' => ⟨(h4, cxv u' (.slice ad' m'.length cap'), srt, er), rfl, s'.nil, ?_⟩)
      rw [if_neg (by simp [hk])]
      exact ⟨p1, p2, p3⟩
end Go.Proofs.Ytkkjppeaaicgaaa
end

section
namespace Go.Proofs.Ytkkjppeaaicgaaa
open Go Go.Ck
set_option maxRecDepth 100000
set_option maxHeartbeats 1000000
set_option linter.unusedVariables false

theorem qv_min {P : Program} {n : Nat} {F : List (Nat × Value)} {h : View} {L : List Res} {dst : Option Nat} {ty : Nat} {pos : String} {af : Array Edge} {gd : Option (Nat × Bool)} {ts : Array TypeId} {x y : Operand} {k : IntKind} {i j : Int} (hx : ev F x = some (.int k i)) (hy : ev F y = some (.int k j)) :
    QV P n F h L ⟨dst, .call ⟨.builtin .min, #[x, y], ts⟩, ty, pos, af, gd⟩ (.int k (if j < i then j else i)) := .mk fun a w f s => by
  simp [execOp, resolve, invoke, builtin, Builtin.min_, f.ev hx, f.ev hy, Builtin.min2]

theorem qv_min' {P : Program} {n : Nat} {F : List (Nat × Value)} {h : View} {L : List Res} {dst : Option Nat} {ty : Nat} {pos : String} {af : Array Edge} {gd : Option (Nat × Bool)} {ts : Array TypeId} {x y : Operand} {k : IntKind} {i j r : Int} (hx : ev F x = some (.int k i)) (hy : ev F y = some (.int k j)) (hr : (if j < i then j else i) = r) :
    QV P n F h L ⟨dst, .call ⟨.builtin .min, #[x, y], ts⟩, ty, pos, af, gd⟩ (.int k r) := by subst hr; exact qv_min hx hy
theorem sc_take {h : View} {k m cap j : Nat} {ad : Option Addr} {xs : List Value} (s : Sc h k (.slice ad m cap) m xs) (hj : j ≤ m) : Sc h k (.slice ad j cap) j (xs.take (j * k)) := by
  obtain ⟨h1, ad', cap', h2, h3, h4⟩ := s
  cases h2
  refine ⟨?_, ad, cap, rfl, by omega, ?_⟩
  · rw [List.length_take, h1]
    exact Nat.min_eq_left (Nat.mul_le_mul_right k hj)
  · rcases h4 with rfl | ⟨b, o, cs, e, fz, q1, q2, q3⟩
    · exact .inl (by simp)
    · refine .inr ⟨b, o, cs, e, fz, q1, q2, fun i u hi => q3 i u ?_⟩
      rw [List.getElem?_take] at hi
      split at hi
      · exact hi
      · cases hi
theorem flat_take {l : List Dt} : ∀ {j : Nat}, (l.flatMap dcs).take (j * 2) = (l.take j).flatMap dcs := by
  induction l with
  | nil => intro j; simp
  | cons d l ih =>
    intro j
    cases j with
    | zero => simp
    | succ j =>
      have : (j + 1) * 2 = (dcs d).length + j * 2 := by rw [dcs_len]; omega
      rw [this]
      simp only [List.flatMap_cons, List.take_succ_cons, List.take_length_add_append, ih]

theorem fill2 {u : List Int} {ad : Option Addr} {m c : Nat} (hu : u.length = 16) : fillL (fun i : Nat => ([(0, 16), (16, 1)] : List (Nat × Nat))[i]?) (up zeroU ++ [.slice none 0 0]) [(0, .agg (up u).toArray), (1, .slice ad m c)] = some (cxc u (.slice ad m c)) := by
  obtain ⟨a0, a1, a2, a3, a4, a5, a6, a7, a8, a9, a10, a11, a12, a13, a14, a15, rfl⟩ := list16 u hu
  rfl

end Go.Proofs.Ytkkjppeaaicgaaa
end

section
namespace Go.Proofs.Ytkkjppeaaicgaaa
open Go Go.Ck Go.Shelf
set_option maxRecDepth 100000
set_option maxHeartbeats 1000000
set_option linter.unusedVariables false

theorem sorted_uniq {l m k : List Dt} (h1 : l.Perm k) (h2 : SortedD l) (h3 : m.Perm k) (h4 : SortedD m) : l = m := by
  refine List.Perm.eq_of_pairwise (le := fun x y => ¬ ordD y x < 0) (fun a b _ _ h5 h6 => ?_) h2 h4 (h1.trans h3.symm)
  have e1 := ord_lt b a
  have e2 := ord_lt a b
  unfold ltOf at e1 e2
  rw [decide_eq_decide] at e1 e2
  obtain ⟨a1, a2⟩ := a
  obtain ⟨b1, b2⟩ := b
  simp only at e1 e2 h5 h6
  have : a1 = b1 ∧ a2 = b2 := by omega
  rw [this.1, this.2]

end Go.Proofs.Ytkkjppeaaicgaaa
end

section
namespace Go.Proofs.Ytkkjppeaaicgaaa
open Go Go.Ck Go.Shelf
set_option maxRecDepth 100000
set_option maxHeartbeats 1000000
set_option linter.unusedVariables false

theorem cxc_fit' {u v : List Int} {x y : Value} (hu : u.length = 16) (hv : v.length = 16) : 0 + (Value.agg (cxc u x).toArray).cells.size ≤ (cxv v y).cells.size := by
  have h1 := cxc_sz (x := x) hu
  have h2 : (cxv v y).cells.size = 17 := cxc_sz hv
  omega
theorem cxc_all' {u v : List Int} {x y : Value} (hu : u.length = 16) (hv : v.length = 16) : (Value.agg (cxc u x).toArray).cells.toList.length = (cxv v y).cells.toList.length := by
  have h1 := cxc_all (x := x) hu
  have h2 : (cxv v y).cells.toList.length = 17 := cxc_all hv
  omega

theorem rem_fact (m : Int) : ∃ r, IntKind.i64.wrap ((IntKind.u64.wrap m).tmod 1000) = r ∧ 0 ≤ r ∧ r < 1000 := by
  refine ⟨_, rfl, ?_⟩
  have h1 : 0 ≤ IntKind.u64.wrap m := by
    simp only [IntKind.wrap, IntKind.bits, IntKind.signed]
    simp
    omega
  rw [Int.tmod_eq_emod_of_nonneg h1]
  generalize IntKind.u64.wrap m = x at h1
  simp only [IntKind.wrap, IntKind.bits, IntKind.signed]
  simp
  omega

theorem more_at {u : List Int} {l : List Dt} (hk : checkC u l = 0) {i : Nat} (hi : i < l.length) : uD u l[i] + 1 < l[i].2 ∧ (∀ (hj : i ≠ 0), ordD l[i - 1] l[i] < 0) := by
  unfold checkC at hk
  split at hk
  · cases hk
  split at hk
  · cases hk
  split at hk
  · cases hk
  · rename_i _ _ h3
    have h3 : moresOk u l = true := by simpa using h3
    have := List.all_eq_true.1 h3 i (List.mem_range.2 hi)
    simp only [moreB, Bool.and_eq_true, Bool.or_eq_true, decide_eq_true_iff] at this
    have e1 : l.getD i (0, 0) = l[i] := by simp [hi]
    have e2 : l.getD (i - 1) (0, 0) = l[i - 1] := by simp [show i - 1 < l.length by omega]
    rw [e1, e2] at this
    exact ⟨this.1.2, fun hj => this.2.resolve_left hj⟩
theorem ord_iff {x y : Dt} : ordD x y < 0 ↔ (x.1 < y.1 ∨ x.1 = y.1 ∧ x.2 < y.2) := by
  have := ord_lt x y
  unfold ltOf at this
  rwa [decide_eq_decide] at this
theorem more_sorted {u : List Int} {l : List Dt} (hk : checkC u l = 0) : ∀ (j i : Nat) (hj : j < l.length) (hij : i < j), ordD l[i] l[j] < 0 := by
  intro j
  induction j with
  | zero => intro i _ h; omega
  | succ j ih =>
    intro i hj hij
    have h1 := (more_at hk hj).2 (by omega)
    simp only [Nat.add_sub_cancel] at h1
    by_cases e : i = j
    · subst e; exact h1
    · have h2 := ih i (by omega) (by omega)
      rw [ord_iff] at h1 h2 ⊢
      omega
theorem lastN_max {u : List Int} {l : List Dt} (hk : checkC u l = 0) (c : Int) : u.getD (c - 1).toNat 0 ≤ lastN u l c ∧ (∀ d ∈ l, d.1 = c → d.2 ≤ lastN u l c) ∧ (lastN u l c ≤ u.getD (c - 1).toNat 0 ∨ (c, lastN u l c) ∈ l) := by
  have key : ∀ k, k ≤ l.length → u.getD (c - 1).toNat 0 ≤ lastN u (l.take k) c ∧ (∀ i (hi : i < l.length), i < k → l[i].1 = c → l[i].2 ≤ lastN u (l.take k) c) ∧ (lastN u (l.take k) c ≤ u.getD (c - 1).toNat 0 ∨ ∃ (i : Nat) (hi : i < l.length), i < k ∧ l[i] = (c, lastN u (l.take k) c)) := by
    intro k
    induction k with
    | zero => intro _; exact ⟨by simp [lastN], fun i hi h => by omega, .inl (by simp [lastN])⟩
    | succ k ih =>
      intro hkl
      obtain ⟨a1, a2, a3⟩ := ih (by omega)
      have hk1 : k < l.length := by omega
      rw [lastN_take hk1]
      by_cases hc : l[k].1 = c
      · rw [if_pos hc]
        have hu := (more_at hk hk1).1
        unfold uD at hu
        rw [hc] at hu
        refine ⟨by omega, fun i hi hik hic => ?_, .inr ⟨k, hk1, by omega, by rw [← hc]⟩⟩
        by_cases e : i = k
        · subst e; exact Int.le_refl _
        · have := ord_iff.1 (more_sorted hk k i hk1 (by omega))
          rw [hic, hc] at this
          omega
      · rw [if_neg hc]
        refine ⟨a1, fun i hi hik hic => ?_, ?_⟩
        · by_cases e : i = k
          · subst e; exact absurd hic hc
          · exact a2 i hi (by omega) hic
        · rcases a3 with h | ⟨i, hi, h1, h2⟩
          · exact .inl h
          · exact .inr ⟨i, hi, by omega, h2⟩
  have := key l.length (Nat.le_refl _)
  rw [List.take_length] at this
  obtain ⟨a1, a2, a3⟩ := this
  refine ⟨a1, fun d hd hdc => ?_, ?_⟩
  · obtain ⟨i, hi, rfl⟩ := List.getElem_of_mem hd
    exact a2 i hi hi hdc
  · rcases a3 with h | ⟨i, hi, _, h⟩
    · exact .inl h
    · exact .inr (by rw [← h]; exact List.getElem_mem hi)

theorem next_facts (u : List Int) (l : List Dt) (c : Int) : (nextC u l c).2 = 0 → 1 ≤ (nextC u l c).1 ∧ (nextC u l c).1 ≤ 1099511627776 ∧
    (∀ k, (nextC u l c).1 ≤ k → (decide (checkC u l = 0) && rightB (c, k) && hasC u l (c, k)) = false) ∧ ((nextC u l c).1 ≠ 1 → (decide (checkC u l = 0) && rightB (c, (nextC u l c).1 - 1) && hasC u l (c, (nextC u l c).1 - 1)) = true) := by
  intro h0
  have hN : checkC u l = 0 ∧ 1 ≤ c ∧ c ≤ 16 ∧ lastN u l c ≠ 1099511627776 ∧ nextC u l c = (lastN u l c + 1, 0) := by
    unfold nextC at h0 ⊢
    by_cases g1 : checkC u l ≠ 0 ∨ c < 1 ∨ 16 < c
    · rw [if_pos g1] at h0; cases h0
    · rw [if_neg g1] at h0 ⊢
      by_cases g2 : lastN u l c = 1099511627776
      · rw [if_pos g2] at h0; cases h0
      · rw [if_neg g2]
        exact ⟨by omega, by omega, by omega, g2, rfl⟩
  obtain ⟨hk, hc1, hc2, hf, he⟩ := hN
  rw [he]
  dsimp only
  obtain ⟨q1, q2, q3⟩ := check_right hk
  have hb := lastN_bd (c := c) q1 l q3
  have hmax := lastN_max hk c
  refine ⟨by omega, by omega, fun k hk2 => ?_, fun hn => ?_⟩
  · have : hasC u l (c, k) = false := by
      unfold hasC uD
      simp only [Bool.or_eq_false_iff, decide_eq_false_iff_not]
      refine ⟨by have := hmax.1; omega, fun hm => ?_⟩
      have := hmax.2.1 (c, k) hm rfl
      simp only at this
      omega
    rw [this, Bool.and_false]
  · have e1 : lastN u l c + 1 - 1 = lastN u l c := by omega
    rw [e1]
    have h1 : rightB (c, lastN u l c) = true := by simp [rightB]; omega
    have h2 : hasC u l (c, lastN u l c) = true := by
      unfold hasC uD
      simp only [Bool.or_eq_true, decide_eq_true_iff]
      rcases hmax.2.2 with h | h
      · exact .inl (by omega)
      · exact .inr h
    simp [hk, h1, h2]

end Go.Proofs.Ytkkjppeaaicgaaa
end

section
namespace Go.Proofs.Ytkkjppeaaicgaaa
open Go Go.Ck Go.Shelf
set_option maxRecDepth 100000
set_option maxHeartbeats 1000000
set_option linter.unusedVariables false

theorem uD_set {u : List Int} {d e : Dt} {x : Int} (hu : u.length = 16) (hd : rightB d = true) (he : rightB e = true) : uD (u.set (d.1 - 1).toNat x) e = if e.1 = d.1 then x else uD u e := by
  have h1 := right_of hd
  have h2 := right_of he
  unfold uD
  by_cases h : e.1 = d.1
  · rw [if_pos h, h, List.getD_eq_getElem?_getD, List.getElem?_set_self (by omega)]
    rfl
  · rw [if_neg h, List.getD_eq_getElem?_getD, List.getElem?_set_ne (by omega), ← List.getD_eq_getElem?_getD]

theorem tstep_eq (u : List Int) (out : List Dt) (d : Dt) : tstep (u, out) d = if d.2 = uD u d + 1 then (u.set (d.1 - 1).toNat d.2, out) else if uD u d < d.2 ∧ d ∉ out then (u, out ++ [d]) else (u, out) := rfl
structure Inv (u : List Int) (out : List Dt) : Prop where
  len : u.length = 16
  bd : ∀ x ∈ u, 0 ≤ x ∧ x ≤ 1099511627776
  mor : ∀ e ∈ out, rightB e = true ∧ uD u e + 1 < e.2
  srt : out.Pairwise fun x y => ordD x y < 0

theorem ord_none {x y : Dt} (h1 : ¬ ordD x y < 0) (h2 : ¬ ordD y x < 0) : x = y := by
  rw [ord_iff] at h1 h2
  obtain ⟨a, b⟩ := x
  obtain ⟨c, d⟩ := y
  simp only at h1 h2
  have : a = c ∧ b = d := by omega
  rw [this.1, this.2]

theorem fold_inv : ∀ (rest : List Dt) (u : List Int) (out : List Dt), Inv u out → (∀ e ∈ out, ∀ x ∈ rest, ¬ ordD x e < 0) → SortedD rest → (∀ d ∈ rest, rightB d = true) →
    Inv (rest.foldl tstep (u, out)).1 (rest.foldl tstep (u, out)).2 ∧ ∀ x, rightB x = true → hasC (rest.foldl tstep (u, out)).1 (rest.foldl tstep (u, out)).2 x = (hasC u out x || decide (x ∈ rest)) := by
  intro rest
  induction rest with
  | nil => intro u out hi _ _ _; exact ⟨hi, fun x _ => by simp⟩
  | cons d rest ih =>
    intro u out hi hbef hsrt hr
    have hdr := hr d (by simp)
    have hd4 := right_of hdr
    have hs2 : SortedD rest := (List.pairwise_cons.1 hsrt).2
    have hs1 := (List.pairwise_cons.1 hsrt).1
    have hr2 : ∀ x ∈ rest, rightB x = true := fun x hx => hr x (List.mem_cons_of_mem _ hx)
    rw [List.foldl_cons]
    by_cases c1 : d.2 = uD u d + 1
    · have e1 : tstep (u, out) d = (u.set (d.1 - 1).toNat d.2, out) := by
        rw [tstep_eq, if_pos c1]
      rw [e1]
      have hnot : ∀ e ∈ out, e.1 ≠ d.1 := fun e he hc => by
        have h1 := hbef e he d (by simp)
        have h2 := (hi.mor e he).2
        rw [ord_iff] at h1
        have : uD u e = uD u d := by unfold uD; rw [hc]
        omega
      obtain ⟨g1, g2⟩ := ih (u.set (d.1 - 1).toNat d.2) out ⟨by simpa using hi.len, fun x hx => by
          rcases List.mem_or_eq_of_mem_set hx with hx | rfl
          · exact hi.bd x hx
          · omega, fun e he => ⟨(hi.mor e he).1, by
          rw [uD_set hi.len hdr (hi.mor e he).1, if_neg (hnot e he)]
          exact (hi.mor e he).2⟩, hi.srt⟩ (fun e he x hx => hbef e he x (List.mem_cons_of_mem _ hx)) hs2 hr2
      refine ⟨g1, fun x hx => ?_⟩
      rw [g2 x hx]
      have e2 : hasC (u.set (d.1 - 1).toNat d.2) out x = (hasC u out x || decide (x = d)) := by
        unfold hasC
        rw [uD_set hi.len hdr hx]
        by_cases hc : x.1 = d.1
        · rw [if_pos hc]
          have : uD u x = uD u d := by unfold uD; rw [hc]
          rw [this]
          have e3 : (x = d) ↔ x.2 = d.2 := ⟨fun h => by rw [h], fun h => Prod.ext hc h⟩
          have e4 : decide (x = d) = decide (x.2 = d.2) := by simp only [e3]
          rw [e4]
          have e5 : decide (x.2 ≤ d.2) = (decide (x.2 ≤ uD u d) || decide (x.2 = d.2)) := by
            rw [← Bool.decide_or, decide_eq_decide]; omega
          rw [e5]
          cases decide (x.2 ≤ uD u d) <;> cases decide (x.2 = d.2) <;> cases decide (x ∈ out) <;> rfl
        · rw [if_neg hc]
          have : decide (x = d) = false := decide_eq_false fun h => hc (by rw [h])
          rw [this, Bool.or_false]
      rw [e2]
      have e6 : decide (x ∈ d :: rest) = (decide (x = d) || decide (x ∈ rest)) := by
        rw [← Bool.decide_or, decide_eq_decide, List.mem_cons]
      rw [e6, Bool.or_assoc]
    · have e6 : ∀ x, decide (x ∈ d :: rest) = (decide (x = d) || decide (x ∈ rest)) := fun x => by
        rw [← Bool.decide_or, decide_eq_decide, List.mem_cons]
      by_cases c2 : uD u d < d.2 ∧ d ∉ out
      · have e1 : tstep (u, out) d = (u, out ++ [d]) := by
          rw [tstep_eq, if_neg c1, if_pos c2]
        rw [e1]
        obtain ⟨g1, g2⟩ := ih u (out ++ [d]) ⟨hi.len, hi.bd, fun e he => by
            rcases List.mem_append.1 he with he | he
            · exact hi.mor e he
            · rw [List.mem_singleton.1 he]
              exact ⟨hdr, by omega⟩, by
            refine List.pairwise_append.2 ⟨hi.srt, by simp, fun e he x hx => ?_⟩
            rw [List.mem_singleton.1 hx]
            have h1 := hbef e he d (by simp)
            refine Decidable.byContradiction fun h2 => c2.2 ?_
            rw [ord_none h1 h2]; exact he⟩ (fun e he x hx => by
            rcases List.mem_append.1 he with he | he
            · exact hbef e he x (List.mem_cons_of_mem _ hx)
            · rw [List.mem_singleton.1 he]
              exact hs1 x hx) hs2 hr2
        refine ⟨g1, fun x hx => ?_⟩
        rw [g2 x hx, e6]
        have e2 : hasC u (out ++ [d]) x = (hasC u out x || decide (x = d)) := by
          unfold hasC
          have : decide (x ∈ out ++ [d]) = (decide (x ∈ out) || decide (x = d)) := by
            rw [← Bool.decide_or, decide_eq_decide, List.mem_append, List.mem_singleton]
          rw [this, Bool.or_assoc]
        rw [e2, Bool.or_assoc]
      · have e1 : tstep (u, out) d = (u, out) := by
          rw [tstep_eq, if_neg c1, if_neg c2]
        rw [e1]
        obtain ⟨g1, g2⟩ := ih u out hi (fun e he x hx => hbef e he x (List.mem_cons_of_mem _ hx)) hs2 hr2
        refine ⟨g1, fun x hx => ?_⟩
        rw [g2 x hx, e6]
        have hd2 : hasC u out d = true := by
          unfold hasC
          rw [Bool.or_eq_true, decide_eq_true_iff, decide_eq_true_iff]
          by_cases h : d ∈ out
          · exact .inr h
          · refine .inl ?_
            have : ¬ uD u d < d.2 := fun h1 => c2 ⟨h1, h⟩
            omega
        by_cases hxd : x = d
        · rw [hxd, hd2]; rfl
        · rw [decide_eq_false hxd, Bool.false_or]

theorem check_inv {u : List Int} {l : List Dt} (hi : Inv u l) (hl : l.length ≤ 32) : checkC u l = 0 := by
  have h1 : upOk u = true := upOk_iff.2 hi.bd
  have h2 : moresOk u l = true := List.all_eq_true.2 fun i hi' => by
    have hil : i < l.length := List.mem_range.1 hi'
    have e1 : l.getD i (0, 0) = l[i] := by simp [hil]
    have e2 : i ≠ 0 → l.getD (i - 1) (0, 0) = l[i - 1] := fun h => by simp [show i - 1 < l.length by omega]
    unfold moreB
    simp only [Bool.and_eq_true, Bool.or_eq_true, decide_eq_true_iff]
    rw [e1]
    refine ⟨⟨(hi.mor _ (List.getElem_mem hil)).1, (hi.mor _ (List.getElem_mem hil)).2⟩, ?_⟩
    by_cases h0 : i = 0
    · exact .inl h0
    · right
      rw [e2 h0]
      exact List.pairwise_iff_getElem.1 hi.srt (i - 1) i (by omega) hil (by omega)
  unfold checkC
  rw [if_neg (by simp [h1]), if_neg (by omega), if_neg (by simp [h2])]

theorem inv_check {u : List Int} {l : List Dt} (hu : u.length = 16) (hk : checkC u l = 0) : Inv u l := by
  obtain ⟨h1, _, h3⟩ := check_right hk
  refine ⟨hu, h1, fun e he => ⟨h3 e he, ?_⟩, ?_⟩
  · obtain ⟨i, hi, rfl⟩ := List.getElem_of_mem he
    exact (more_at hk hi).1
  · refine List.pairwise_iff_getElem.2 fun i j hi hj hij => more_sorted hk j i hj hij

theorem up_le {u v : List Int} {l m : List Dt} (h1 : Inv u l) (h2 : Inv v m) (hs : ∀ x, rightB x = true → hasC v m x = true → hasC u l x = true) (i : Nat) (hi : i < 16) : v.getD i 0 ≤ u.getD i 0 := by
  refine Decidable.byContradiction fun hlt => ?_
  have b1 := h1.bd (u.getD i 0) (getD_mem (by have := h1.len; omega))
  have b2 := h2.bd (v.getD i 0) (getD_mem (by have := h2.len; omega))
  have hr : rightB ((i : Int) + 1, u.getD i 0 + 1) = true := by
    generalize u.getD i 0 = x at b1 hlt
    simp [rightB]; omega
  have eu : ∀ w : List Int, uD w ((i : Int) + 1, u.getD i 0 + 1) = w.getD i 0 := fun w => by
    unfold uD
    show w.getD ((i : Int) + 1 - 1).toNat 0 = _
    rw [show ((i : Int) + 1 - 1).toNat = i by omega]
  have e2 : hasC v m ((i : Int) + 1, u.getD i 0 + 1) = true := by
    unfold hasC
    rw [eu, decide_eq_true (by show u.getD i 0 + 1 ≤ _; omega)]; rfl
  have e1 := hs _ hr e2
  unfold hasC at e1
  rw [eu, decide_eq_false (by show ¬ u.getD i 0 + 1 ≤ _; omega), Bool.false_or, decide_eq_true_iff] at e1
  have := (h1.mor _ e1).2
  rw [eu] at this
  exact absurd this (by show ¬ u.getD i 0 + 1 < u.getD i 0 + 1; omega)

theorem ctx_uniq {u v : List Int} {l m : List Dt} (h1 : Inv u l) (h2 : Inv v m) (hs : ∀ x, rightB x = true → hasC u l x = hasC v m x) : u = v ∧ l = m := by
  have hu := h1.len
  have hv := h2.len
  have e : u = v := by
    refine List.ext_getElem (by omega) fun i hi hj => ?_
    have a1 := up_le h1 h2 (fun x hx hy => (hs x hx).trans hy) i (by omega)
    have a2 := up_le h2 h1 (fun x hx hy => (hs x hx).symm.trans hy) i (by omega)
    rw [List.getD_eq_getElem?_getD, List.getD_eq_getElem?_getD, List.getElem?_eq_getElem hi, List.getElem?_eq_getElem hj] at a1 a2
    simp only [Option.getD_some] at a1 a2
    omega
  subst e
  refine ⟨rfl, ?_⟩
  have hmem : ∀ {l m : List Dt}, Inv u l → Inv u m → (∀ x, rightB x = true → hasC u l x = hasC u m x) → ∀ x ∈ l, x ∈ m := fun {l m} k1 k2 k3 x hx => by
    have hm := k1.mor x hx
    have := k3 x hm.1
    unfold hasC at this
    rw [decide_eq_false (by omega : ¬ x.2 ≤ uD u x), Bool.false_or, Bool.false_or, decide_eq_true hx] at this
    exact of_decide_eq_true this.symm
  have hnd : ∀ {l : List Dt}, Inv u l → l.Nodup := fun k => k.srt.imp fun {x y} h hxy => by
    rw [hxy, ord_iff] at h; omega
  have hsd : ∀ {l : List Dt}, Inv u l → SortedD l := fun k => k.srt.imp fun {x y} h => by
    rw [ord_iff] at h ⊢; omega
  have hp : l.Perm m := (List.perm_ext_iff_of_nodup (hnd h1) (hnd h2)).2 fun x => ⟨hmem h1 h2 hs x, hmem h2 h1 (fun x hx => (hs x hx).symm) x⟩
  exact sorted_uniq hp (hsd h1) (List.Perm.refl _) (hsd h2)

theorem fold_len : ∀ (l : List Dt) (u : List Int) (o : List Dt), (l.foldl tstep (u, o)).2.length ≤ o.length + l.length := by
  intro l
  induction l with
  | nil => intro u o; simp
  | cons d l ih =>
    intro u o
    rw [List.foldl_cons]
    have h := ih (tstep (u, o) d).1 (tstep (u, o) d).2
    have : (tstep (u, o) d).2.length ≤ o.length + 1 := by
      rw [tstep_eq]
      split
      · simp
      · split
        · simp
        · simp
    have e : ((tstep (u, o) d).1, (tstep (u, o) d).2) = tstep (u, o) d := rfl
    rw [e] at h
    simp only [List.length_cons]
    omega

/-- A dot more: behind tidy the context is one, and has just that one more. -/
theorem add_inv {u : List Int} {l srt : List Dt} {d : Dt} (hu : u.length = 16) (hk : checkC u l = 0) (hd : rightB d = true) (hp : srt.Perm (l ++ [d])) (hs : SortedD srt) :
    Inv (tfold u srt).1 (tfold u srt).2 ∧ (tfold u srt).2.length ≤ l.length + 1 ∧ ∀ x, rightB x = true → hasC (tfold u srt).1 (tfold u srt).2 x = (hasC u l x || decide (x = d)) := by
  have hi := inv_check hu hk
  obtain ⟨_, _, h3⟩ := check_right hk
  have hr : ∀ x ∈ srt, rightB x = true := fun x hx => by
    rcases List.mem_append.1 (hp.mem_iff.1 hx) with hx | hx
    · exact h3 x hx
    · rw [List.mem_singleton.1 hx]; exact hd
  obtain ⟨g1, g2⟩ := fold_inv srt u [] ⟨hu, hi.bd, by simp, by simp⟩ (by simp) hs hr
  refine ⟨g1, ?_, fun x hx => ?_⟩
  · have := fold_len srt u []
    have e := hp.length_eq
    simp at this e
    unfold tfold
    omega
  · show hasC (srt.foldl tstep (u, [])).1 (srt.foldl tstep (u, [])).2 x = _
    rw [g2 x hx]
    unfold hasC
    have : decide (x ∈ srt) = (decide (x ∈ l) || decide (x = d)) := by
      rw [← Bool.decide_or, decide_eq_decide, hp.mem_iff, List.mem_append, List.mem_singleton]
    rw [this, decide_eq_false (List.not_mem_nil (a := x)), Bool.or_false, Bool.or_assoc]
end Go.Proofs.Ytkkjppeaaicgaaa
end

section
namespace Go.Ck
open Go
set_option linter.unusedVariables false
set_option linter.unusedSimpArgs false
section
variable {P : Program} {n : Nat} {K : Bs} {F : List (Nat × Value)} {h : View} {L : List Res} {Q : Exit → Act → World → Prop}
variable {dst : Option Nat} {ty : Nat} {pos : String} {af : Array Edge} {gd : Option (Nat × Bool)}

theorem own_cut {w : World} {e : TypeId} {sz m cap g j : Nat} {xs : List Value} (ho : w.ownsRow 0 e sz (.slice (some ⟨g, 0, none⟩) m cap) m xs) (hj : j ≤ m) : w.ownsRow 0 e sz (.slice (some ⟨g, 0, none⟩) j cap) j (xs.take (j * sz)) := by
  have hjm : j * sz ≤ m * sz := Nat.mul_le_mul_right _ hj
  refine ⟨by rw [List.length_take, ho.1]; omega, ?_⟩
  rcases ho.2 with ⟨q1, q2⟩ | ⟨g', cap', cur, q1, q2, q3, q4, q5, q6, q7⟩
  · cases q1
  · cases q1
    refine .inr ⟨g, cap, cur, rfl, q2, q3, by omega, q5, q6, ?_⟩
    rw [← q7, List.take_take]
    congr 1
    omega
theorem St.cut {w : World} {e : TypeId} {sz m cap g j k : Nat} {xs : List Value} (s : St K h L w) (hk : L[k]? = some (Res.row e sz (.slice (some ⟨g, 0, none⟩) m cap) m xs)) (hj : j ≤ m) : St K h (L.set k (Res.row e sz (.slice (some ⟨g, 0, none⟩) j cap) j (xs.take (j * sz)))) w := by
  have ho : w.ownsRow 0 e sz (.slice (some ⟨g, 0, none⟩) m cap) m xs := s.hd.own _ (List.mem_of_getElem? hk)
  refine s.swap hk rfl rfl rfl (Nat.le_refl _) (Nat.le_refl _) (fun _ _ _ => rfl) (own_cut ho hj) ?_ (fun b hb => .inl ?_)
  · simp [Res.row, Value.ownBlock]
  · have hb : b = g := by simpa [Res.row, Value.ownBlock] using hb
    subst hb
    simp [Res.row, Value.ownBlock]
theorem rx_cut {g' : Rg} {prs : List (Nat × Oper)} {e : TypeId} {sz m cap g : Nat} {xs : List Value} (k j : Nat) (hk : L[k]? = some (Res.row e sz (.slice (some ⟨g, 0, none⟩) m cap) m xs)) (hj : j ≤ m)
    (hx : RX P n K g' prs F h (L.set k (Res.row e sz (.slice (some ⟨g, 0, none⟩) j cap) j (xs.take (j * sz)))) Q) : RX P n K g' prs F h L Q := by
  unfold RX at *
  exact fun a w f s => hx a w f (s.cut hk hj)

theorem rx_row {g' : Rg} {prs : List (Nat × Oper)} (e : TypeId) (k : Nat) (hx : RX P n K g' prs F h (Res.row e k (.slice none 0 0) 0 [] :: L) Q) : RX P n K g' prs F h L Q := by
  unfold RX at *
  exact fun a w f s => hx a w f (s.rowNil e k)
theorem rx_grow_nil {g : Rg} {i : Nat} {r : List (Nat × Oper)} {T Ti e : Nat} {x y : Operand} {z : Value} {sz by' m : Nat} {kn : IntKind} (k : Nat) [tu : TyU P T (.slice e)] [ti : TyU P Ti (.int kn)] [tb : TyB P e z sz by'] (hx : ev F x = some (.slice none 0 0)) (hy : ev F y = some (.int .i64 m))
    (hk : L[k]? = some (Res.row e sz (.slice none 0 0) 0 [])) (hm : 0 < m) (hzs : z.cells.size = sz) (hsz : 0 < sz) (h63 : m ≤ maxLen) (hbytes : m * by' ≤ 140737488355328)
    (hw : wantedF g.ops F ⟨dst, .call ⟨.builtin .append, #[x, y], #[T, Ti]⟩, ty, pos, af, gd⟩ = some true) (hd : okd n dst = true) (hlo : g.lo i = true) (o1 : Owe g i h L)
    (o2 : ∀ b cap, Owe g i h (L.set k (Res.row e sz (.slice (some ⟨b, 0, none⟩) m cap) m (Builtin.zeroCells z.cells m).toList)))
    (hn : ∀ b cap, m ≤ cap → cap ≤ maxLen → RX P n K g r (putF dst (.slice (some ⟨b, 0, none⟩) m cap) F) h (L.set k (Res.row e sz (.slice (some ⟨b, 0, none⟩) m cap) m (Builtin.zeroCells z.cells m).toList)) Q) :
    RX P n K g ((i, ⟨dst, .call ⟨.builtin .append, #[x, y], #[T, Ti]⟩, ty, pos, af, gd⟩) :: r) F h L Q := by
  unfold RX at *
  intro a w f s
  obtain ⟨ii, hi, hz, hsize, hby⟩ := tb.ex
  subst hsize
  subst hby
  have h63i : (m : Int) ≤ 9223372036854775807 := by simp only [maxLen] at h63; omega
  have hr := Lib.run_append_nil_zeros (P := P) w T Ti ty e ii z .i64 kn tu.u ti.u hi hz m hm hsz h63i (by omega)
  have hge := grownCap_ge w m 0 e
  have hcm : grownCap w m 0 e ≤ maxLen := grownCap_le_maxLen w m 0 e h63
  generalize grownCap w m 0 e = cap at hr hge hcm
  have s' : St K h (L.set k (Res.row e ii.size (.slice (some ⟨w.heap.size, 0, none⟩) m cap) m (Builtin.zeroCells z.cells m).toList)) (w.drew.alloc (.cells (Builtin.zeroCells z.cells m ++ Builtin.zeroCells z.cells (cap - m)) e)) := by
    refine s.swap hk rfl rfl rfl (Nat.le_succ _) (by simp) (fun j hj _ => Go.RowKit.Below.heap_alloc w.drew _ j hj) ⟨?_, .inr ⟨w.heap.size, cap, _, rfl, Nat.zero_le _, heap_alloc_new w.drew _, hge, hcm, ?_, ?_⟩⟩ ?_ (fun b hb => .inr ?_)
    · simp [size_zeroCells, hzs]
    · simp only [Array.size_append, size_zeroCells, hzs, ← Nat.add_mul]
      congr 1
      omega
    · simp only [Array.toList_append]
      have : (Builtin.zeroCells z.cells m).toList.length = m * ii.size := by simp [size_zeroCells, hzs]
      rw [← this]
      exact List.take_left
    · simp [Res.row, Value.ownBlock]
    · have hb : b = w.heap.size := by simpa [Res.row, Value.ownBlock] using hb
      omega
  refine .inr (.inr ⟨wantedF_ok f hw, hlo, o1.out s, ?_⟩)
  unfold Oper.wp
  have : (execOp a.eval ⟨dst, .call ⟨.builtin .append, #[x, y], #[T, Ti]⟩, ty, pos, af, gd⟩).run P w = .ok (.value (.slice (some ⟨w.heap.size, 0, none⟩) m cap)) (w.drew.alloc (.cells (Builtin.zeroCells z.cells m ++ Builtin.zeroCells z.cells (cap - m)) e)) := by
    simp [execOp, resolve, invoke, builtin, f.ev hx, f.ev hy, hr]
  rw [this]
  exact ⟨(o2 _ cap).out s', hn _ cap hge hcm _ _ (f.put hd _) s'⟩
end
end Go.Ck
end

section
namespace Go.Proofs.Ytkkjppeaaicgaaa
open Go Go.Ck
set_option maxRecDepth 100000
set_option maxHeartbeats 1000000
set_option linter.unusedVariables false

def flatP (parts : List (Value × List Dt)) (k : Nat) : List Dt := (parts.take k).flatMap (·.2)
theorem flatP_succ {parts : List (Value × List Dt)} {k : Nat} (hk : k < parts.length) : flatP parts (k + 1) = flatP parts k ++ parts[k].2 := by
  unfold flatP
  rw [List.take_succ_eq_append_getElem hk, List.flatMap_append]
  simp
theorem flatP_le {parts : List (Value × List Dt)} {k : Nat} (hk : k ≤ parts.length) : (flatP parts k).length ≤ (flatP parts parts.length).length := by
  unfold flatP
  rw [List.take_length]
  conv => rhs; rw [← List.take_append_drop k parts]
  rw [List.flatMap_append, List.length_append]
  omega

end Go.Proofs.Ytkkjppeaaicgaaa
end

section
namespace Go.Proofs.Ytkkjppeaaicgaaa
open Go Go.Ck
set_option maxRecDepth 100000
set_option maxHeartbeats 1000000
set_option linter.unusedVariables false

theorem qv_max' {P : Program} {n : Nat} {F : List (Nat × Value)} {h : View} {L : List Res} {dst : Option Nat} {ty : Nat} {pos : String} {af : Array Edge} {gd : Option (Nat × Bool)} {ts : Array TypeId} {x y : Operand} {k : IntKind} {i j r : Int} (hx : ev F x = some (.int k i)) (hy : ev F y = some (.int k j)) (hr : (if j > i then j else i) = r) :
    QV P n F h L ⟨dst, .call ⟨.builtin .max, #[x, y], ts⟩, ty, pos, af, gd⟩ (.int k r) := by
  subst hr
  exact .mk fun a w f s => by simp [execOp, resolve, invoke, builtin, Builtin.max_, f.ev hx, f.ev hy, Builtin.max2]

def maxI (i j : Int) : Int := if j > i then j else i
def maxU (u v : List Int) : List Int := List.zipWith maxI u v
def maxK (u v : List Int) (k : Nat) : List Int := (maxU u v).take k ++ u.drop k
theorem maxU_len {u v : List Int} (hu : u.length = 16) (hv : v.length = 16) : (maxU u v).length = 16 := by simp [maxU, hu, hv]
theorem maxU_at {u v : List Int} (hu : u.length = 16) (hv : v.length = 16) (i : Nat) : (maxU u v).getD i 0 = maxI (u.getD i 0) (v.getD i 0) := by
  by_cases hi : i < 16
  · have h1 : i < u.length := by omega
    have h2 : i < v.length := by omega
    simp [maxU, List.getElem?_zipWith, h1, h2]
  · have h1 : u[i]? = none := List.getElem?_eq_none (by omega)
    have h2 : v[i]? = none := List.getElem?_eq_none (by omega)
    have h3 : (maxU u v)[i]? = none := List.getElem?_eq_none (by rw [maxU_len hu hv]; omega)
    simp [List.getD_eq_getElem?_getD, h1, h2, h3, maxI]
theorem maxK_len {u v : List Int} {k : Nat} (hu : u.length = 16) (hv : v.length = 16) (hk : k ≤ 16) : (maxK u v k).length = 16 := by
  simp [maxK, maxU_len hu hv, hu]; omega
theorem maxK_at {u v : List Int} {k : Nat} (hu : u.length = 16) (hv : v.length = 16) (hk : k < 16) : (maxK u v k).getD k 0 = u.getD k 0 := by
  unfold maxK
  have h1 : ((maxU u v).take k).length = k := by simp [maxU_len hu hv]; omega
  rw [List.getD_eq_getElem?_getD, List.getElem?_append_right (by omega), h1, Nat.sub_self, List.getElem?_drop, Nat.add_zero, ← List.getD_eq_getElem?_getD]
theorem maxK_set {u v : List Int} {k : Nat} (hu : u.length = 16) (hv : v.length = 16) (hk : k < 16) : (maxK u v k).set k (maxI (u.getD k 0) (v.getD k 0)) = maxK u v (k + 1) := by
  unfold maxK
  have h1 : ((maxU u v).take k).length = k := by simp [maxU_len hu hv]; omega
  have hkm : k < (maxU u v).length := by rw [maxU_len hu hv]; omega
  rw [List.set_append_right _ _ (by omega), h1, Nat.sub_self, List.drop_eq_getElem_cons (by omega : k < u.length), List.set_cons_zero, List.take_succ_eq_append_getElem hkm, ← maxU_at hu hv k]
  rw [List.getD_eq_getElem?_getD, List.getElem?_eq_getElem hkm, Option.getD_some, List.append_assoc]
  rfl
theorem spl_up {u : List Int} {x : Int} {i o : Nat} (ho : o = i) (hi : i < u.length) : spl (up u).toArray.toList o (Value.int .i64 x).cells.toList = up (u.set i x) := by
  subst ho
  show (up u).take o ++ [Value.int .i64 x] ++ (up u).drop (o + 1) = up (u.set o x)
  have hl : (up u).length = u.length := by simp [up]
  unfold up
  rw [List.map_set, List.set_eq_take_append_cons_drop, if_pos (by simpa using hi)]
  simp
theorem up_sz {u : List Int} (hu : u.length = 16) : (Value.agg (up u).toArray).cells.size = 16 := by
  show (up u).toArray.size = 16
  simp [up, hu]
theorem up_fit {u : List Int} (hu : u.length = 16) : 0 + (Value.agg (up u).toArray).cells.size ≤ 16 := by rw [up_sz hu]; omega
theorem up_all {u : List Int} (hu : u.length = 16) : (Value.agg (up u).toArray).cells.toList.length = 16 := by
  show (up u).toArray.toList.length = 16
  simp [up, hu]
theorem up_one {u : List Int} : (Value.agg (up u).toArray).cells.toList.all Value.oneCell' = true := by
  show (up u).toArray.toList.all Value.oneCell' = true
  simp [up, Value.oneCell']
theorem cell_upx {h : View} {L : List Res} {b o : Nat} {u : List Int} (c : Cells h L ⟨b, 0, none⟩ (up u)) (i : Nat) (ho : o = 0 + i) (hi : i < u.length) : CellAt h L b o (.int .i64 (u.getD i 0)) := by
  rw [ho]
  exact c.cell (by simp [up, hi])
theorem cell_upy {h : View} {L : List Res} {b o i : Nat} {u : List Int} {x : Int} (hx : u.getD i 0 = x) (c : Cells h L ⟨b, 0, none⟩ (up u)) (ho : o = 0 + i) (hi : i < u.length) : CellAt h L b o (.int .i64 x) := by
  rw [← hx]
  exact cell_upx c i ho hi
theorem fit_up {u : List Int} {x : Int} {i o : Nat} (ho : o = i) (hi : i < u.length) : o + (Value.int .i64 x).cells.size ≤ (up u).toArray.size := by
  show o + 1 ≤ _
  simp [up]; omega
theorem max_bd {u v : List Int} (hu : u.length = 16) (hv : v.length = 16) (h1 : ∀ x ∈ u, 0 ≤ x ∧ x ≤ 1099511627776) (h2 : ∀ x ∈ v, 0 ≤ x ∧ x ≤ 1099511627776) : ∀ x ∈ maxU u v, 0 ≤ x ∧ x ≤ 1099511627776 := fun x hx => by
  obtain ⟨i, hi, rfl⟩ := List.getElem_of_mem hx
  have h16 : i < 16 := by rw [maxU_len hu hv] at hi; exact hi
  have e := maxU_at hu hv i
  rw [List.getD_eq_getElem?_getD, List.getElem?_eq_getElem hi] at e
  simp only [Option.getD_some] at e
  rw [e]
  have a := h1 _ (getD_mem (u := u) (i := i) (by omega))
  have b := h2 _ (getD_mem (u := v) (i := i) (by omega))
  unfold maxI
  split <;> assumption

theorem maxK_all {u v : List Int} (hu : u.length = 16) (hv : v.length = 16) : maxK u v 16 = maxU u v := by
  unfold maxK
  rw [List.take_of_length_le (by rw [maxU_len hu hv]; omega), List.drop_eq_nil_of_le (by omega), List.append_nil]

end Go.Proofs.Ytkkjppeaaicgaaa
end

section
namespace Go.Proofs.Ytkkjppeaaicgaaa
open Go Go.Ck Go.Shelf
set_option maxRecDepth 100000
set_option maxHeartbeats 1000000
set_option linter.unusedVariables false

theorem uD_max {u v : List Int} (hu : u.length = 16) (hv : v.length = 16) (x : Dt) : uD (maxU u v) x = maxI (uD u x) (uD v x) := maxU_at hu hv _

theorem join_inv {u v : List Int} {l m srt : List Dt} (h1 : Inv u l) (h2 : Inv v m) (hp : srt.Perm (l ++ m)) (hs : SortedD srt) :
    Inv (tfold (maxU u v) srt).1 (tfold (maxU u v) srt).2 ∧ ∀ x, rightB x = true → hasC (tfold (maxU u v) srt).1 (tfold (maxU u v) srt).2 x = (hasC u l x || hasC v m x) := by
  have hr : ∀ x ∈ srt, rightB x = true := fun x hx => by
    rcases List.mem_append.1 (hp.mem_iff.1 hx) with hx | hx
    · exact (h1.mor x hx).1
    · exact (h2.mor x hx).1
  obtain ⟨g1, g2⟩ := fold_inv srt (maxU u v) [] ⟨maxU_len h1.len h2.len, max_bd h1.len h2.len h1.bd h2.bd, by simp, by simp⟩ (by simp) hs hr
  refine ⟨g1, fun x hx => ?_⟩
  show hasC (srt.foldl tstep (maxU u v, [])).1 (srt.foldl tstep (maxU u v, [])).2 x = _
  rw [g2 x hx]
  unfold hasC
  rw [uD_max h1.len h2.len]
  have e1 : decide (x ∈ srt) = (decide (x ∈ l) || decide (x ∈ m)) := by
    rw [← Bool.decide_or, decide_eq_decide, hp.mem_iff, List.mem_append]
  have e2 : decide (x.2 ≤ maxI (uD u x) (uD v x)) = (decide (x.2 ≤ uD u x) || decide (x.2 ≤ uD v x)) := by
    rw [← Bool.decide_or, decide_eq_decide]
    unfold maxI
    split <;> omega
  rw [e1, e2, decide_eq_false (List.not_mem_nil (a := x)), Bool.or_false]
  cases decide (x.2 ≤ uD u x) <;> cases decide (x.2 ≤ uD v x) <;> cases decide (x ∈ l) <;> cases decide (x ∈ m) <;> rfl

theorem covers_iff {u v : List Int} {l m : List Dt} (h1 : Inv u l) (h2 : Inv v m) (k1 : checkC u l = 0) (k2 : checkC v m = 0) :
    coversC u l v m = true ↔ ∀ x, rightB x = true → hasC v m x = true → hasC u l x = true := by
  unfold coversC
  rw [decide_eq_true k1, decide_eq_true k2]
  simp only [Bool.true_and, Bool.and_eq_true, Bool.not_eq_true', List.any_eq_false, Bool.not_eq_false']
  constructor
  · rintro ⟨hU, hM⟩ x hx hv
    unfold hasC at hv
    rw [Bool.or_eq_true, decide_eq_true_iff, decide_eq_true_iff] at hv
    rcases hv with hv | hv
    · have hr := right_of hx
      have hi : (x.1 - 1).toNat < 16 := by omega
      have := List.all_eq_true.1 hU _ (List.mem_range.2 hi)
      have := of_decide_eq_true this
      unfold hasC
      rw [decide_eq_true (by unfold uD at hv ⊢; omega)]; rfl
    · simpa using hM x hv
  · intro hs
    refine ⟨List.all_eq_true.2 fun i hi => decide_eq_true (up_le h1 h2 hs i (List.mem_range.1 hi)), fun d hd => ?_⟩
    have hm := (h2.mor d hd).1
    have : hasC v m d = true := by unfold hasC; rw [decide_eq_true hd, Bool.or_true]
    simpa using hs d hm this
end Go.Proofs.Ytkkjppeaaicgaaa
end

section
namespace Go.Ck
open Go
set_option linter.unusedVariables false
set_option linter.unusedSimpArgs false
section
variable {P : Program} {n : Nat} {K : Bs} {F : List (Nat × Value)} {h : View} {L : List Res} {Q : Exit → Act → World → Prop}
variable {dst : Option Nat} {ty : Nat} {pos : String} {af : Array Edge} {gd : Option (Nat × Bool)}

theorem spl_len {xs vs : List Value} {o : Nat} (hf : o + vs.length ≤ xs.length) : (spl xs o vs).length = xs.length := by
  unfold spl
  simp only [List.length_append, List.length_take, List.length_drop]
  omega
theorem spl_take {xs vs : List Value} {o m : Nat} (hf : o + vs.length ≤ m) (hm : m ≤ xs.length) : (spl xs o vs).take m = spl (xs.take m) o vs := by
  unfold spl
  have h1 : (xs.take o).length = o := by simp; omega
  rw [List.take_take, Nat.min_eq_left (by omega), List.drop_take, List.append_assoc, List.append_assoc, List.take_append, h1, List.take_append]
  rw [List.take_of_length_le (by rw [h1]; omega), List.take_of_length_le (l := vs) (by omega)]
  congr 3
  omega

theorem rx_rowstore {g : Rg} {i : Nat} {r : List (Nat × Oper)} {T e : Nat} {x y : Operand} {b o sz sz' m cap : Nat} {v : Value} {xs : List Value} (k : Nat) [ts : TyS P T sz'] (hx : ev F x = some (.pointer (some ⟨b, o, none⟩))) (hy : ev F y = some v)
    (hk : L[k]? = some (Res.row e sz (.slice (some ⟨b, 0, none⟩) m cap) m xs)) (hsz : v.cells.size = sz') (hfit : o + v.cells.size ≤ m * sz) (h1 : v.cells.toList.all Value.oneCell' = true) {xs' : List Value} (hcs : spl xs o v.cells.toList = xs')
    (hw : wantedF g.ops F ⟨none, .store T x y, ty, pos, af, gd⟩ = some true) (hl : g.lo i = true) (o1 : Owe g i h L) (o2 : Owe g i h (L.set k (Res.row e sz (.slice (some ⟨b, 0, none⟩) m cap) m xs')))
    (hn : RX P n K g r F h (L.set k (Res.row e sz (.slice (some ⟨b, 0, none⟩) m cap) m xs')) Q) : RX P n K g ((i, ⟨none, .store T x y, ty, pos, af, gd⟩) :: r) F h L Q := by
  unfold RX at *
  intro a w f s
  subst hcs
  have h1 : ∀ u ∈ v.cells.toList, u.oneCell' = true := fun u hu => List.all_eq_true.1 h1 u hu
  have ho : w.ownsRow 0 e sz (.slice (some ⟨b, 0, none⟩) m cap) m xs := s.hd.own _ (List.mem_of_getElem? hk)
  obtain ⟨q0, q1 | ⟨g', cap', cur, q1, q2, q3, q4, q5, q6, q7⟩⟩ := ho
  · cases q1.1
  cases q1
  have hvl : v.cells.toList.length = v.cells.size := by simp
  have hms : m * sz ≤ cap * sz := Nat.mul_le_mul_right _ q4
  have hb : w.heap[b]? = some (.cells cur e (0, 0)) := q3
  have hrun : (execOp a.eval ⟨none, .store T x y, ty, pos, af, gd⟩).run P w = .ok .skip (w.setRow b (spl cur.toList o v.cells.toList).toArray) := by
    have hst := run_storeCells_at P b o e v.cells.toList 0 cur w hb (by simp; omega) h1
    simp only [Nat.add_zero] at hst
    simp [execOp, f.ev hx, f.ev hy, Instr.storeAt, Instr.sureAddr, storeVar, ts.s, hsz, hst, spl]
  have s' : St K h (L.set k (Res.row e sz (.slice (some ⟨b, 0, none⟩) m cap) m (spl xs o v.cells.toList))) (w.setRow b (spl cur.toList o v.cells.toList).toArray) := by
    refine s.swap hk rfl rfl rfl (by simp) (by simp) (fun j hj hjd => setRow_other w b j _ (fun e' => hjd ?_)) ⟨?_, .inr ⟨b, cap, _, rfl, Nat.zero_le _, setRow_heap w b cur _ e _ hb, q4, q5, ?_, ?_⟩⟩ ?_ (fun x hx => .inl ?_)
    · simp [Res.row, Value.ownBlock, e']
    · rw [spl_len (by rw [q0]; omega), q0]
    · simp only [List.size_toArray]
      rw [spl_len (by simp; omega)]
      simp [q6]
    · rw [← q7]
      exact spl_take (by omega) (by simp; omega)
    · simp [Res.row, Value.ownBlock]
    · have hx : x = b := by simpa [Res.row, Value.ownBlock] using hx
      subst hx
      simp [Res.row, Value.ownBlock]
  refine .inr (.inr ⟨wantedF_ok f hw, hl, o1.out s, ?_⟩)
  unfold Oper.wp
  rw [hrun]
  exact ⟨o2.out s', hn _ _ f s'⟩
/-- a slice as a row is -/
theorem rx_rowslice {g : Rg} {prs : List (Nat × Oper)} {e : TypeId} {sz m : Nat} {v : Value} {xs : List Value} (k : Nat) (hk : L[k]? = some (Res.row e sz v m xs)) (hx : ∀ ad cap, v = .slice ad m cap → RX P n K g prs F h L Q) : RX P n K g prs F h L Q :=
  rx_rowform k hk (fun h1 h2 _ => hx none 0 (by rw [h1, h2])) (fun g' cap hv => hx _ cap hv)

/-- some cells of a block -/
def Res.part (g off : Nat) (v : Value) (vs : List Value) : Res where
  dom := [g]
  sat := fun w => ∀ j u, (v :: vs)[j]? = some u → w.cell? ⟨g, off + j, none⟩ = some u
  loc := fun w w' hh hs j u hj => by
    have := hs j u hj
    simp only [World.cell?] at this ⊢
    rw [hh g (by simp)]
    exact this
  lt := fun w hs b hb => by
    have hb : b = g := by simpa using hb
    subst hb
    have := hs 0 v rfl
    simp only [World.cell?] at this
    cases hg : w.heap[b]? with
    | none => rw [hg] at this; simp at this
    | some o => exact (Array.getElem?_eq_some_iff.1 hg).1
theorem part_cells {g off : Nat} {v : Value} {vs : List Value} (k : Nat) (hk : L[k]? = some (Res.part g off v vs)) : Cells h L ⟨g, off, none⟩ (v :: vs) := fun w s j u hj => by
  rw [Addr.add_off]
  exact s.own _ (List.mem_of_getElem? hk) j u hj
/-- a call that takes the first two resources -/
theorem rx_call_2 {g : Rg} {i : Nat} {dst : Option Nat} {op : Op} {ty : Nat} {pos : String} {af : Array Edge} {gd : Option (Nat × Bool)} {r : List (Nat × Oper)} {fn : FuncId} {args : Array Value} {X : Type} {v : X → Value} {hh : X → View} {LL : X → List Res} {p : X → Prop} {R1 R2 : Res} {Lr : List Res} (hc : CallOf P n F ⟨dst, op, ty, pos, af, gd⟩ fn args)
    (hsp : ∀ w, St ⟨w, h, doms [R1, R2]⟩ h [R1, R2] w → Calls P fn args w fun e w' => ∃ x, e = .returned (v x) ∧ St ⟨w, h, doms [R1, R2]⟩ (hh x) (LL x) w' ∧ p x)
    (hw : wantedF g.ops F ⟨dst, op, ty, pos, af, gd⟩ = some true) (hd : okd n dst = true) (hl : g.lo i = true) (h1 : Owe g i h (R1 :: R2 :: Lr)) (h2 : ∀ x, p x → Le h (hh x) → Owe g i (hh x) (LL x ++ Lr))
    (hx : ∀ x, p x → Le h (hh x) → RX P n K g r (putF dst (v x) F) (hh x) (LL x ++ Lr) Q) : RX P n K g ((i, ⟨dst, op, ty, pos, af, gd⟩) :: r) F h (R1 :: R2 :: Lr) Q := by
  unfold RX at *
  unfold CallOf at hc
  exact fun a w f s => .inr (.inr ⟨wantedF_ok f hw, hl, h1.imp (fun k => k w s.hd) id, by
    unfold Oper.wp
    rw [hc a w f]
    have s1 : St K h ([R1, R2] ++ Lr) w := s
    refine (hsp w (St.enter (Li := [R1, R2]) (Lr := Lr) s1)).mono fun e w' he => ?_
    obtain ⟨x, rfl, st, px⟩ := he
    have s' := St.leave (Li := [R1, R2]) (Lr := Lr) s1 st
    have hle : Le h (hh x) := st.grow
    exact ⟨(h2 x px hle).imp (fun k => k _ s'.hd) id, hx x px hle _ _ (f.put hd _) s'⟩⟩)

theorem st_lowerx {h h' : View} {w w' : World} {Lo : List Res} (hh : Hd h [] w') (hle : Le h h') (s : St ⟨w, h', []⟩ h' Lo w') : St ⟨w, h, []⟩ h Lo w' :=
  ⟨s.os, s.tape, s.output, s.drawn, s.size, s.keep, ⟨hh.view, s.hd.own⟩, s.nd, s.src, Le.refl h, fun _ _ hb => hb, fun b hb => by
    have := s.dis b hb
    cases hx : h b with
    | none => rfl
    | some o => rw [hle b o hx] at this; cases this⟩
/-- a call that reads a slice that the caller owns, and gives something new -/
theorem rx_call_lendx {g : Rg} {i : Nat} {dst : Option Nat} {op : Op} {ty : Nat} {pos : String} {af : Array Edge} {gd : Option (Nat × Bool)} {r : List (Nat × Oper)} {fn : FuncId} {args : Array Value} {X : Type} {u : X → Value} {LL : X → List Res} {e : TypeId} {sz m : Nat} {v : Value} {xs : List Value} (k : Nat) (hc : CallOf P n F ⟨dst, op, ty, pos, af, gd⟩ fn args)
    (hk : L[k]? = some (Res.row e sz v m xs))
    (hsp : ∀ h', Le h h' → Sc h' sz v m xs → ∀ w, St ⟨w, h', []⟩ h' [] w → Calls P fn args w fun e w' => ∃ x, e = .returned (u x) ∧ St ⟨w, h', []⟩ h' (LL x) w' ∧ True)
    (hw : wantedF g.ops F ⟨dst, op, ty, pos, af, gd⟩ = some true) (hd : okd n dst = true) (hl : g.lo i = true) (h1 : Owe g i h L) (h2 : ∀ x, Owe g i h (LL x ++ L))
    (hx : ∀ x, RX P n K g r (putF dst (u x) F) h (LL x ++ L) Q) : RX P n K g ((i, ⟨dst, op, ty, pos, af, gd⟩) :: r) F h L Q := by
  unfold RX at *
  unfold CallOf at hc
  exact fun a w f s => .inr (.inr ⟨wantedF_ok f hw, hl, h1.imp (fun k => k w s.hd) id, by
    unfold Oper.wp
    rw [hc a w f]
    obtain ⟨h', hle, hsc, s0⟩ := row_view s hk
    refine (hsp h' hle hsc w s0).mono fun e w' he => ?_
    obtain ⟨x, rfl, st, _⟩ := he
    have s' := St.leave (Li := []) (Lr := L) s (st_lowerx ⟨fun b o hb => st.hd.view b o (hle b o hb), fun r hr => (by cases hr)⟩ hle st)
    exact ⟨(h2 x).imp (fun k => k _ s'.hd) id, hx x _ _ (f.put hd _) s'⟩⟩)
end
end Go.Ck
end

section
namespace Go.Ck
open Go
set_option linter.unusedVariables false
section
variable {P : Program} {n : Nat} {K : Bs} {F : List (Nat × Value)} {h : View} {L : List Res} {Q : Exit → Act → World → Prop}
variable {dst : Option Nat} {ty : Nat} {pos : String} {af : Array Edge} {gd : Option (Nat × Bool)}
theorem run_guard_bool {op : BinOp} {T : Nat} {x y : Operand} {a b : Bool} {w : World} : (eqGuard op T x y (.bool a) (.bool b)).run P w = .ok () w := by
  unfold eqGuard
  by_cases hop : op = .eql ∨ op = .neq
  · rcases hop with rfl | rfl <;> simp
  · have : (!(op matches .eql | .neq)) = true := by cases op <;> first | rfl | exact absurd (Or.inl rfl) hop | exact absurd (Or.inr rfl) hop
    simp [this]
theorem qv_eql_bool {T T' : Nat} {x y : Operand} {a b t : Bool} [tu : TyU P T .bool] (hx : ev F x = some (.bool a)) (hy : ev F y = some (.bool b)) (ht : (a == b) = t) :
    QV P n F h L ⟨dst, .binOp .eql T x y T', ty, pos, af, gd⟩ (.bool t) := .mk fun ac w f s => by
  subst ht
  simp [execOp, f.ev hx, f.ev hy, run_guard_bool, binOp, run_equal_bool w T a b tu.u]
theorem qv_neq_bool {T T' : Nat} {x y : Operand} {a b t : Bool} [tu : TyU P T .bool] (hx : ev F x = some (.bool a)) (hy : ev F y = some (.bool b)) (ht : (!(a == b)) = t) :
    QV P n F h L ⟨dst, .binOp .neq T x y T', ty, pos, af, gd⟩ (.bool t) := .mk fun ac w f s => by
  subst ht
  simp [execOp, f.ev hx, f.ev hy, run_guard_bool, binOp, run_equal_bool w T a b tu.u]
end
end Go.Ck
end
