/-
  Part 17 of a proof: SbRb SbZ CkPer.
  Conditions: each theorem states its own.
-/
import Derived.Test.YtkkjppeaaicgaaaMgAPM16
section
namespace Go.Proofs.Ytkkjppeaaicgaaa
open Go Go.Ck
set_option maxRecDepth 100000
set_option maxHeartbeats 4000000
set_option linter.unusedVariables false

theorem rsame_sp (va vb : Value) (a b : List Sb) (h : View) (ha : Rs h va a) (hb : Rs h vb b) (hl : a.length ≤ 4611686018427387904) (hm : b.length ≤ 4611686018427387904) (lla : ∀ x ∈ a, x.l.length ≤ 4611686018427387904) (llb : ∀ x ∈ b, x.l.length ≤ 4611686018427387904) (w : World) (s : St ⟨w, h, []⟩ h [] w) :
    Calls Try.prog 23 [va, vb].toArray w fun e w' => e = .returned (.bool (decide (a.map Sb.a = b.map Sb.a))) ∧ St ⟨w, h, []⟩ h [] w' := by
  obtain ⟨hs, hsv⟩ := ha
  obtain ⟨hs2, hsv2⟩ := hb
  obtain ⟨_, ad, cap, rfl, hcap, _⟩ := id hs
  obtain ⟨_, ad2, cap2, rfl, hcap2, _⟩ := id hs2
  refine calls_enter Try.func23 rfl Try.ntmps23 rfl s ?_
  by_cases hlm : a.length = b.length
  · repeat' (first | (refine ycf ?_; apply ybk; (· first | (exact tk_)); (· rfl); (· rfl)) | refine t1_ ?_ | (refine ta_ ?_; intro _) | ((fail_if_success (refine ybi rfl ?_)); refine ybj rfl ?_ ?_ <;> (intro ht; rw [ht]; first | replace ht := of_decide_eq_true ht | replace ht := of_decide_eq_false ht | skip)) | (refine ych ?_; first | (refine ybw rfl ?_ ?_ <;> intro ht) | (refine ybx rfl ?_ ?_ <;> intro ht)))
    refine cx_loop (X := Nat) (fun k => [(0, .slice ad a.length cap), (1, .slice ad2 b.length cap2), (5, .int .i64 k)]) (fun _ => h) (fun _ => []) (fun k => k ≤ a.length ∧ (a.take k).map Sb.a = (b.take k).map Sb.a) (fun k => a.length - k) 0 ⟨by omega, by simp⟩ ts_ (fun _ s => s) ?_
    rintro k ⟨hk, hek⟩
    by_cases hkl : k < a.length
    · have hkm : k < b.length := by omega
      obtain ⟨bs, o, rfl⟩ := hs.ad (by omega) (by omega)
      obtain ⟨bs2, o2, rfl⟩ := hs2.ad (by omega) (by omega)
      have hel : ∀ L, Cells h L ⟨bs, o + k * 20, none⟩ (sbc a[k]) := fun L => hs.elem sbc_len k hkl
      have hel2 : ∀ L, Cells h L ⟨bs2, o2 + k * 20, none⟩ (sbc b[k]) := fun L => hs2.elem sbc_len k hkm
      have hx := hsv _ (List.getElem_mem hkl)
      have hy := hsv2 _ (List.getElem_mem hkm)
      have hlx := lla _ (List.getElem_mem hkl)
      have hly := llb _ (List.getElem_mem hkm)
      have ta : a.take (k + 1) = a.take k ++ [a[k]] := List.take_succ_eq_append_getElem hkl
      have tb : b.take (k + 1) = b.take k ++ [b[k]] := List.take_succ_eq_append_getElem hkm
      have hne : a[k].a ≠ b[k].a → a.map Sb.a ≠ b.map Sb.a := fun hn e => hn (by
        have := congrArg (fun l : List Ab => l[k]?) e
        simpa [hkl, hkm] using this)
      have C1 := refSame_sp _ _ a[k].u b[k].u a[k].l b[k].l h ⟨a[k].hu, _, rfl, hx.ds⟩ ⟨b[k].hu, _, rfl, hy.ds⟩ (by omega) (by omega)
      generalize a[k] = x1 at hel ta hne hx C1
      generalize b[k] = y1 at hel2 tb hne hy C1
      have hbe := bstr_eq hx.by8 hy.by8
      have hu1 := x1.hu
      have hu2 := y1.hu
      by_cases hd : x1.d = y1.d
      · have hde : decide (x1.d = y1.d) = true := decide_eq_true hd
        by_cases hp : x1.u = y1.u ∧ x1.l = y1.l
        · rw [decide_eq_true hp.1, decide_eq_true hp.2, Bool.true_and] at C1
          by_cases hb : x1.b = y1.b
          · --
            repeat' (first|(refine ycf ?_;apply ybk;(·first|(first|exact tk_|(refine qv_neq_agg (t := true) rfl rfl (fun w => by rw [← hde];exact dot_eq _ _ w))|(apply yad;(·rfl);(·exact sb_dot (hel _));(·rfl))|(apply yad;(·rfl);(·exact sb_dot (hel2 _));(·rfl))|(apply yad;(·rfl);(·exact sb_past (hel _));(·exact ycj hu1))|(apply yad;(·rfl);(·exact sb_past (hel2 _));(·exact ycj hu2))|(apply qv_neq_str (t := false);(·rfl);(·rfl);(·rw [hbe, decide_eq_true hb];rfl)))|(apply yae;(·rfl);(·(first|exact sb_body' (hel _) hx.bs|exact sb_body' (hel2 _) hy.bs))));(·rfl);(·rfl))|refine t1_ ?_|(refine ta_ ?_;intro _)|((fail_if_success (refine ybi rfl ?_));refine ybj rfl ?_ ?_<;>(intro ht;rw [ht];first|replace ht := of_decide_eq_true ht|replace ht := of_decide_eq_false ht|skip))|(refine ych ?_;first|(refine ybw rfl ?_ ?_<;>intro ht)|(refine ybx rfl ?_ ?_<;>intro ht)))
            refine cx_region_draw' rfl (by kernel_rfl) ?_
            repeat' (refine ycf ?_;(first|(first|(apply ybm;(·(first|(first|exact tk_|(refine qv_neq_agg (t := true) rfl rfl (fun w => by rw [← hde];exact dot_eq _ _ w))|(apply yad;(·rfl);(·exact sb_dot (hel _));(·rfl))|(apply yad;(·rfl);(·exact sb_dot (hel2 _));(·rfl))|(apply yad;(·rfl);(·exact sb_past (hel _));(·exact ycj hu1))|(apply yad;(·rfl);(·exact sb_past (hel2 _));(·exact ycj hu2))|(apply qv_neq_str (t := false);(·rfl);(·rfl);(·rw [hbe, decide_eq_true hb];rfl)))|(apply yae;(·rfl);(·(first|exact sb_body' (hel _) hx.bs|exact sb_body' (hel2 _) hy.bs)))|exact tq_));(·rfl);(·rfl);(·(exact th_)))|refine ybl rfl rfl ?_|((fail_if_success (refine ybi rfl ?_));refine ybj rfl ?_ ?_<;>(intro ht;rw [ht];first|replace ht := of_decide_eq_true ht|replace ht := of_decide_eq_false ht|skip))|(refine tb_ ?_ ?_ ?_;(·(exact to_));(·intro _;(exact to_));intro _)|(first|(refine tqs_ ?_ ?_ ?_;(·(exact to_));(·(exact to_))))|(apply ybn;(·(first|(first|exact tk_|(refine qv_neq_agg (t := true) rfl rfl (fun w => by rw [← hde];exact dot_eq _ _ w))|(apply yad;(·rfl);(·exact sb_dot (hel _));(·rfl))|(apply yad;(·rfl);(·exact sb_dot (hel2 _));(·rfl))|(apply yad;(·rfl);(·exact sb_past (hel _));(·exact ycj hu1))|(apply yad;(·rfl);(·exact sb_past (hel2 _));(·exact ycj hu2))|(apply qv_neq_str (t := false);(·rfl);(·rfl);(·rw [hbe, decide_eq_true hb];rfl)))|(apply yae;(·rfl);(·(first|exact sb_body' (hel _) hx.bs|exact sb_body' (hel2 _) hy.bs)))|exact tq_));(·rfl);(·rfl);(·rfl);(·(exact to_))))|refine ycg ?_))
            (refine ycn (ycp Try.func42 rfl (by kernel_rfl) rfl) (C1) rfl rfl rfl ?_ ?_; (· (exact to_)))
            repeat' (refine ycf ?_;(first|(first|(apply ybm;(·(first|(first|exact tk_|(refine qv_neq_agg (t := true) rfl rfl (fun w => by rw [← hde];exact dot_eq _ _ w))|(apply yad;(·rfl);(·exact sb_dot (hel _));(·rfl))|(apply yad;(·rfl);(·exact sb_dot (hel2 _));(·rfl))|(apply yad;(·rfl);(·exact sb_past (hel _));(·exact ycj hu1))|(apply yad;(·rfl);(·exact sb_past (hel2 _));(·exact ycj hu2))|(apply qv_neq_str (t := false);(·rfl);(·rfl);(·rw [hbe, decide_eq_true hb];rfl)))|(apply yae;(·rfl);(·(first|exact sb_body' (hel _) hx.bs|exact sb_body' (hel2 _) hy.bs)))|exact tq_));(·rfl);(·rfl);(·(exact th_)))|refine ybl rfl rfl ?_|((fail_if_success (refine ybi rfl ?_));refine ybj rfl ?_ ?_<;>(intro ht;rw [ht];first|replace ht := of_decide_eq_true ht|replace ht := of_decide_eq_false ht|skip))|(refine tb_ ?_ ?_ ?_;(·(exact to_));(·intro _;(exact to_));intro _)|(first|(refine tqs_ ?_ ?_ ?_;(·(exact to_));(·(exact to_))))|(apply ybn;(·(first|(first|exact tk_|(refine qv_neq_agg (t := true) rfl rfl (fun w => by rw [← hde];exact dot_eq _ _ w))|(apply yad;(·rfl);(·exact sb_dot (hel _));(·rfl))|(apply yad;(·rfl);(·exact sb_dot (hel2 _));(·rfl))|(apply yad;(·rfl);(·exact sb_past (hel _));(·exact ycj hu1))|(apply yad;(·rfl);(·exact sb_past (hel2 _));(·exact ycj hu2))|(apply qv_neq_str (t := false);(·rfl);(·rfl);(·rw [hbe, decide_eq_true hb];rfl)))|(apply yae;(·rfl);(·(first|exact sb_body' (hel _) hx.bs|exact sb_body' (hel2 _) hy.bs)))|exact tq_));(·rfl);(·rfl);(·rfl);(·(exact to_))))|refine ycg ?_))
            repeat' (first|(refine ycf ?_;apply ybk;(·first|(first|exact tk_|(refine qv_neq_agg (t := true) rfl rfl (fun w => by rw [← hde];exact dot_eq _ _ w))|(apply yad;(·rfl);(·exact sb_dot (hel _));(·rfl))|(apply yad;(·rfl);(·exact sb_dot (hel2 _));(·rfl))|(apply yad;(·rfl);(·exact sb_past (hel _));(·exact ycj hu1))|(apply yad;(·rfl);(·exact sb_past (hel2 _));(·exact ycj hu2))|(apply qv_neq_str (t := false);(·rfl);(·rfl);(·rw [hbe, decide_eq_true hb];rfl)))|(apply yae;(·rfl);(·(first|exact sb_body' (hel _) hx.bs|exact sb_body' (hel2 _) hy.bs))));(·rfl);(·rfl))|refine t1_ ?_|(refine ta_ ?_;intro _)|((fail_if_success (refine ybi rfl ?_));refine ybj rfl ?_ ?_<;>(intro ht;rw [ht];first|replace ht := of_decide_eq_true ht|replace ht := of_decide_eq_false ht|skip))|(refine ych ?_;first|(refine ybw rfl ?_ ?_<;>intro ht)|(refine ybx rfl ?_ ?_<;>intro ht)))
            refine nx_round (k + 1) ⟨by omega, ?_⟩ (by omega) ts_ (fun _ s => s)
            rw [ta, tb, List.map_append, List.map_append, hek]
            congr 1
            show [x1.a] = [y1.a]
            show [(x1.d, x1.u, x1.l, x1.b)] = [(y1.d, y1.u, y1.l, y1.b)]
            rw [hd, hp.1, hp.2, hb]
          · --
            repeat' (first|(refine ycf ?_;apply ybk;(·first|(first|exact tk_|(refine qv_neq_agg (t := true) rfl rfl (fun w => by rw [← hde];exact dot_eq _ _ w))|(apply yad;(·rfl);(·exact sb_dot (hel _));(·rfl))|(apply yad;(·rfl);(·exact sb_dot (hel2 _));(·rfl))|(apply yad;(·rfl);(·exact sb_past (hel _));(·exact ycj hu1))|(apply yad;(·rfl);(·exact sb_past (hel2 _));(·exact ycj hu2))|(apply qv_neq_str (t := true);(·rfl);(·rfl);(·rw [hbe, decide_eq_false hb];rfl)))|(apply yae;(·rfl);(·(first|exact sb_body' (hel _) hx.bs|exact sb_body' (hel2 _) hy.bs))));(·rfl);(·rfl))|refine t1_ ?_|(refine ta_ ?_;intro _)|((fail_if_success (refine ybi rfl ?_));refine ybj rfl ?_ ?_<;>(intro ht;rw [ht];first|replace ht := of_decide_eq_true ht|replace ht := of_decide_eq_false ht|skip))|(refine ych ?_;first|(refine ybw rfl ?_ ?_<;>intro ht)|(refine ybx rfl ?_ ?_<;>intro ht)))
            refine cx_region_draw' rfl (by kernel_rfl) ?_
            repeat' (refine ycf ?_;(first|(first|(apply ybm;(·(first|(first|exact tk_|(refine qv_neq_agg (t := true) rfl rfl (fun w => by rw [← hde];exact dot_eq _ _ w))|(apply yad;(·rfl);(·exact sb_dot (hel _));(·rfl))|(apply yad;(·rfl);(·exact sb_dot (hel2 _));(·rfl))|(apply yad;(·rfl);(·exact sb_past (hel _));(·exact ycj hu1))|(apply yad;(·rfl);(·exact sb_past (hel2 _));(·exact ycj hu2))|(apply qv_neq_str (t := true);(·rfl);(·rfl);(·rw [hbe, decide_eq_false hb];rfl)))|(apply yae;(·rfl);(·(first|exact sb_body' (hel _) hx.bs|exact sb_body' (hel2 _) hy.bs)))|exact tq_));(·rfl);(·rfl);(·(exact th_)))|refine ybl rfl rfl ?_|((fail_if_success (refine ybi rfl ?_));refine ybj rfl ?_ ?_<;>(intro ht;rw [ht];first|replace ht := of_decide_eq_true ht|replace ht := of_decide_eq_false ht|skip))|(refine tb_ ?_ ?_ ?_;(·(exact to_));(·intro _;(exact to_));intro _)|(first|(refine tqs_ ?_ ?_ ?_;(·(exact to_));(·(exact to_))))|(apply ybn;(·(first|(first|exact tk_|(refine qv_neq_agg (t := true) rfl rfl (fun w => by rw [← hde];exact dot_eq _ _ w))|(apply yad;(·rfl);(·exact sb_dot (hel _));(·rfl))|(apply yad;(·rfl);(·exact sb_dot (hel2 _));(·rfl))|(apply yad;(·rfl);(·exact sb_past (hel _));(·exact ycj hu1))|(apply yad;(·rfl);(·exact sb_past (hel2 _));(·exact ycj hu2))|(apply qv_neq_str (t := true);(·rfl);(·rfl);(·rw [hbe, decide_eq_false hb];rfl)))|(apply yae;(·rfl);(·(first|exact sb_body' (hel _) hx.bs|exact sb_body' (hel2 _) hy.bs)))|exact tq_));(·rfl);(·rfl);(·rfl);(·(exact to_))))|refine ycg ?_))
            (refine ycn (ycp Try.func42 rfl (by kernel_rfl) rfl) (C1) rfl rfl rfl ?_ ?_; (· (exact to_)))
            repeat' (refine ycf ?_;(first|(first|(apply ybm;(·(first|(first|exact tk_|(refine qv_neq_agg (t := true) rfl rfl (fun w => by rw [← hde];exact dot_eq _ _ w))|(apply yad;(·rfl);(·exact sb_dot (hel _));(·rfl))|(apply yad;(·rfl);(·exact sb_dot (hel2 _));(·rfl))|(apply yad;(·rfl);(·exact sb_past (hel _));(·exact ycj hu1))|(apply yad;(·rfl);(·exact sb_past (hel2 _));(·exact ycj hu2))|(apply qv_neq_str (t := true);(·rfl);(·rfl);(·rw [hbe, decide_eq_false hb];rfl)))|(apply yae;(·rfl);(·(first|exact sb_body' (hel _) hx.bs|exact sb_body' (hel2 _) hy.bs)))|exact tq_));(·rfl);(·rfl);(·(exact th_)))|refine ybl rfl rfl ?_|((fail_if_success (refine ybi rfl ?_));refine ybj rfl ?_ ?_<;>(intro ht;rw [ht];first|replace ht := of_decide_eq_true ht|replace ht := of_decide_eq_false ht|skip))|(refine tb_ ?_ ?_ ?_;(·(exact to_));(·intro _;(exact to_));intro _)|(first|(refine tqs_ ?_ ?_ ?_;(·(exact to_));(·(exact to_))))|(apply ybn;(·(first|(first|exact tk_|(refine qv_neq_agg (t := true) rfl rfl (fun w => by rw [← hde];exact dot_eq _ _ w))|(apply yad;(·rfl);(·exact sb_dot (hel _));(·rfl))|(apply yad;(·rfl);(·exact sb_dot (hel2 _));(·rfl))|(apply yad;(·rfl);(·exact sb_past (hel _));(·exact ycj hu1))|(apply yad;(·rfl);(·exact sb_past (hel2 _));(·exact ycj hu2))|(apply qv_neq_str (t := true);(·rfl);(·rfl);(·rw [hbe, decide_eq_false hb];rfl)))|(apply yae;(·rfl);(·(first|exact sb_body' (hel _) hx.bs|exact sb_body' (hel2 _) hy.bs)))|exact tq_));(·rfl);(·rfl);(·rfl);(·(exact to_))))|refine ycg ?_))
            repeat' (first|(refine ycf ?_;apply ybk;(·first|(first|exact tk_|(refine qv_neq_agg (t := true) rfl rfl (fun w => by rw [← hde];exact dot_eq _ _ w))|(apply yad;(·rfl);(·exact sb_dot (hel _));(·rfl))|(apply yad;(·rfl);(·exact sb_dot (hel2 _));(·rfl))|(apply yad;(·rfl);(·exact sb_past (hel _));(·exact ycj hu1))|(apply yad;(·rfl);(·exact sb_past (hel2 _));(·exact ycj hu2))|(apply qv_neq_str (t := true);(·rfl);(·rfl);(·rw [hbe, decide_eq_false hb];rfl)))|(apply yae;(·rfl);(·(first|exact sb_body' (hel _) hx.bs|exact sb_body' (hel2 _) hy.bs))));(·rfl);(·rfl))|refine t1_ ?_|(refine ta_ ?_;intro _)|((fail_if_success (refine ybi rfl ?_));refine ybj rfl ?_ ?_<;>(intro ht;rw [ht];first|replace ht := of_decide_eq_true ht|replace ht := of_decide_eq_false ht|skip))|(refine ych ?_;first|(refine ybw rfl ?_ ?_<;>intro ht)|(refine ybx rfl ?_ ?_<;>intro ht)))
            refine nx_ret1 rfl (rv_tmp rfl) (fun w' s' => ⟨?_, s'.nil⟩)
            rw [decide_eq_false (hne fun e => hb (congrArg (·.2.2.2) e))]
        · have hpf : (decide (x1.u = y1.u) && decide (x1.l = y1.l)) = false := by
            rw [← Bool.decide_and]; exact decide_eq_false hp
          rw [hpf] at C1
          repeat' (first|(refine ycf ?_;apply ybk;(·first|(first|exact tk_|(refine qv_neq_agg (t := true) rfl rfl (fun w => by rw [← hde];exact dot_eq _ _ w))|(apply yad;(·rfl);(·exact sb_dot (hel _));(·rfl))|(apply yad;(·rfl);(·exact sb_dot (hel2 _));(·rfl))|(apply yad;(·rfl);(·exact sb_past (hel _));(·exact ycj hu1))|(apply yad;(·rfl);(·exact sb_past (hel2 _));(·exact ycj hu2)))|(apply yae;(·rfl);(·(first|exact sb_body' (hel _) hx.bs|exact sb_body' (hel2 _) hy.bs))));(·rfl);(·rfl))|refine t1_ ?_|(refine ta_ ?_;intro _)|((fail_if_success (refine ybi rfl ?_));refine ybj rfl ?_ ?_<;>(intro ht;rw [ht];first|replace ht := of_decide_eq_true ht|replace ht := of_decide_eq_false ht|skip))|(refine ych ?_;first|(refine ybw rfl ?_ ?_<;>intro ht)|(refine ybx rfl ?_ ?_<;>intro ht)))
          refine cx_region_draw' rfl (by kernel_rfl) ?_
          repeat' (refine ycf ?_;(first|(first|(apply ybm;(·(first|(first|exact tk_|(refine qv_neq_agg (t := true) rfl rfl (fun w => by rw [← hde];exact dot_eq _ _ w))|(apply yad;(·rfl);(·exact sb_dot (hel _));(·rfl))|(apply yad;(·rfl);(·exact sb_dot (hel2 _));(·rfl))|(apply yad;(·rfl);(·exact sb_past (hel _));(·exact ycj hu1))|(apply yad;(·rfl);(·exact sb_past (hel2 _));(·exact ycj hu2)))|(apply yae;(·rfl);(·(first|exact sb_body' (hel _) hx.bs|exact sb_body' (hel2 _) hy.bs)))|exact tq_));(·rfl);(·rfl);(·(exact th_)))|refine ybl rfl rfl ?_|((fail_if_success (refine ybi rfl ?_));refine ybj rfl ?_ ?_<;>(intro ht;rw [ht];first|replace ht := of_decide_eq_true ht|replace ht := of_decide_eq_false ht|skip))|(refine tb_ ?_ ?_ ?_;(·(exact to_));(·intro _;(exact to_));intro _)|(first|(refine tqs_ ?_ ?_ ?_;(·(exact to_));(·(exact to_))))|(apply ybn;(·(first|(first|exact tk_|(refine qv_neq_agg (t := true) rfl rfl (fun w => by rw [← hde];exact dot_eq _ _ w))|(apply yad;(·rfl);(·exact sb_dot (hel _));(·rfl))|(apply yad;(·rfl);(·exact sb_dot (hel2 _));(·rfl))|(apply yad;(·rfl);(·exact sb_past (hel _));(·exact ycj hu1))|(apply yad;(·rfl);(·exact sb_past (hel2 _));(·exact ycj hu2)))|(apply yae;(·rfl);(·(first|exact sb_body' (hel _) hx.bs|exact sb_body' (hel2 _) hy.bs)))|exact tq_));(·rfl);(·rfl);(·rfl);(·(exact to_))))|refine ycg ?_))
          (refine ycn (ycp Try.func42 rfl (by kernel_rfl) rfl) (C1) rfl rfl rfl ?_ ?_; (· (exact to_)))
          repeat' (refine ycf ?_;(first|(first|(apply ybm;(·(first|(first|exact tk_|(refine qv_neq_agg (t := true) rfl rfl (fun w => by rw [← hde];exact dot_eq _ _ w))|(apply yad;(·rfl);(·exact sb_dot (hel _));(·rfl))|(apply yad;(·rfl);(·exact sb_dot (hel2 _));(·rfl))|(apply yad;(·rfl);(·exact sb_past (hel _));(·exact ycj hu1))|(apply yad;(·rfl);(·exact sb_past (hel2 _));(·exact ycj hu2)))|(apply yae;(·rfl);(·(first|exact sb_body' (hel _) hx.bs|exact sb_body' (hel2 _) hy.bs)))|exact tq_));(·rfl);(·rfl);(·(exact th_)))|refine ybl rfl rfl ?_|((fail_if_success (refine ybi rfl ?_));refine ybj rfl ?_ ?_<;>(intro ht;rw [ht];first|replace ht := of_decide_eq_true ht|replace ht := of_decide_eq_false ht|skip))|(refine tb_ ?_ ?_ ?_;(·(exact to_));(·intro _;(exact to_));intro _)|(first|(refine tqs_ ?_ ?_ ?_;(·(exact to_));(·(exact to_))))|(apply ybn;(·(first|(first|exact tk_|(refine qv_neq_agg (t := true) rfl rfl (fun w => by rw [← hde];exact dot_eq _ _ w))|(apply yad;(·rfl);(·exact sb_dot (hel _));(·rfl))|(apply yad;(·rfl);(·exact sb_dot (hel2 _));(·rfl))|(apply yad;(·rfl);(·exact sb_past (hel _));(·exact ycj hu1))|(apply yad;(·rfl);(·exact sb_past (hel2 _));(·exact ycj hu2)))|(apply yae;(·rfl);(·(first|exact sb_body' (hel _) hx.bs|exact sb_body' (hel2 _) hy.bs)))|exact tq_));(·rfl);(·rfl);(·rfl);(·(exact to_))))|refine ycg ?_))
          repeat' (first|(refine ycf ?_;apply ybk;(·first|(first|exact tk_|(refine qv_neq_agg (t := true) rfl rfl (fun w => by rw [← hde];exact dot_eq _ _ w))|(apply yad;(·rfl);(·exact sb_dot (hel _));(·rfl))|(apply yad;(·rfl);(·exact sb_dot (hel2 _));(·rfl))|(apply yad;(·rfl);(·exact sb_past (hel _));(·exact ycj hu1))|(apply yad;(·rfl);(·exact sb_past (hel2 _));(·exact ycj hu2)))|(apply yae;(·rfl);(·(first|exact sb_body' (hel _) hx.bs|exact sb_body' (hel2 _) hy.bs))));(·rfl);(·rfl))|refine t1_ ?_|(refine ta_ ?_;intro _)|((fail_if_success (refine ybi rfl ?_));refine ybj rfl ?_ ?_<;>(intro ht;rw [ht];first|replace ht := of_decide_eq_true ht|replace ht := of_decide_eq_false ht|skip))|(refine ych ?_;first|(refine ybw rfl ?_ ?_<;>intro ht)|(refine ybx rfl ?_ ?_<;>intro ht)))
          refine nx_ret1 rfl (rv_tmp rfl) (fun w' s' => ⟨?_, s'.nil⟩)
          rw [decide_eq_false (hne fun e => hp ⟨congrArg (·.2.1) e, congrArg (·.2.2.1) e⟩)]
      · have hde : decide (x1.d = y1.d) = false := decide_eq_false hd
        repeat' (first|(refine ycf ?_;apply ybk;(·first|(first|exact tk_|(refine qv_neq_agg (t := false) rfl rfl (fun w => by rw [← hde];exact dot_eq _ _ w))|(apply yad;(·rfl);(·exact sb_dot (hel _));(·rfl))|(apply yad;(·rfl);(·exact sb_dot (hel2 _));(·rfl)))|(apply yae;(·rfl);(·(first|exact sb_body' (hel _) hx.bs|exact sb_body' (hel2 _) hy.bs))));(·rfl);(·rfl))|refine t1_ ?_|(refine ta_ ?_;intro _)|((fail_if_success (refine ybi rfl ?_));refine ybj rfl ?_ ?_<;>(intro ht;rw [ht];first|replace ht := of_decide_eq_true ht|replace ht := of_decide_eq_false ht|skip))|(refine ych ?_;first|(refine ybw rfl ?_ ?_<;>intro ht)|(refine ybx rfl ?_ ?_<;>intro ht)))
        refine cx_region_draw' rfl (by kernel_rfl) ?_
        repeat' (refine ycf ?_;(first|(first|(apply ybm;(·(first|(first|exact tk_|(refine qv_neq_agg (t := false) rfl rfl (fun w => by rw [← hde];exact dot_eq _ _ w))|(apply yad;(·rfl);(·exact sb_dot (hel _));(·rfl))|(apply yad;(·rfl);(·exact sb_dot (hel2 _));(·rfl)))|(apply yae;(·rfl);(·(first|exact sb_body' (hel _) hx.bs|exact sb_body' (hel2 _) hy.bs)))|exact tq_));(·rfl);(·rfl);(·(exact th_)))|refine ybl rfl rfl ?_|((fail_if_success (refine ybi rfl ?_));refine ybj rfl ?_ ?_<;>(intro ht;rw [ht];first|replace ht := of_decide_eq_true ht|replace ht := of_decide_eq_false ht|skip))|(refine tb_ ?_ ?_ ?_;(·(exact to_));(·intro _;(exact to_));intro _)|(first|(refine tqs_ ?_ ?_ ?_;(·(exact to_));(·(exact to_))))|(apply ybn;(·(first|(first|exact tk_|(refine qv_neq_agg (t := false) rfl rfl (fun w => by rw [← hde];exact dot_eq _ _ w))|(apply yad;(·rfl);(·exact sb_dot (hel _));(·rfl))|(apply yad;(·rfl);(·exact sb_dot (hel2 _));(·rfl)))|(apply yae;(·rfl);(·(first|exact sb_body' (hel _) hx.bs|exact sb_body' (hel2 _) hy.bs)))|exact tq_));(·rfl);(·rfl);(·rfl);(·(exact to_))))|refine ycg ?_))
        repeat' (first|(refine ycf ?_;apply ybk;(·first|(first|exact tk_|(refine qv_neq_agg (t := false) rfl rfl (fun w => by rw [← hde];exact dot_eq _ _ w))|(apply yad;(·rfl);(·exact sb_dot (hel _));(·rfl))|(apply yad;(·rfl);(·exact sb_dot (hel2 _));(·rfl)))|(apply yae;(·rfl);(·(first|exact sb_body' (hel _) hx.bs|exact sb_body' (hel2 _) hy.bs))));(·rfl);(·rfl))|refine t1_ ?_|(refine ta_ ?_;intro _)|((fail_if_success (refine ybi rfl ?_));refine ybj rfl ?_ ?_<;>(intro ht;rw [ht];first|replace ht := of_decide_eq_true ht|replace ht := of_decide_eq_false ht|skip))|(refine ych ?_;first|(refine ybw rfl ?_ ?_<;>intro ht)|(refine ybx rfl ?_ ?_<;>intro ht)))
        refine nx_ret1 rfl (rv_tmp rfl) (fun w' s' => ⟨?_, s'.nil⟩)
        rw [decide_eq_false (hne fun e => hd (congrArg (·.1) e))]
    · --
      repeat' (first | (refine ycf ?_; apply ybk; (· first | (exact tk_) | (apply yae; (· rfl); (· (first | exact sb_body' (hel _) hx.bs | exact sb_body' (hel2 _) hy.bs)))); (· rfl); (· rfl)) | refine t1_ ?_ | (refine ta_ ?_; intro _) | ((fail_if_success (refine ybi rfl ?_)); refine ybj rfl ?_ ?_ <;> (intro ht; rw [ht]; first | replace ht := of_decide_eq_true ht | replace ht := of_decide_eq_false ht | skip)) | (refine ych ?_; first | (refine ybw rfl ?_ ?_ <;> intro ht) | (refine ybx rfl ?_ ?_ <;> intro ht)))
      refine nx_ret1 rfl (rv_tmp rfl) (fun w' s' => ⟨?_, s'.nil⟩)
      rw [List.take_of_length_le (by omega), List.take_of_length_le (by omega)] at hek
      rw [decide_eq_true hek]
  · repeat' (first | (refine ycf ?_; apply ybk; (· first | (exact tk_) | (apply yae; (· rfl); (· (first | exact sb_body' (hel _) hx.bs | exact sb_body' (hel2 _) hy.bs)))); (· rfl); (· rfl)) | refine t1_ ?_ | (refine ta_ ?_; intro _) | ((fail_if_success (refine ybi rfl ?_)); refine ybj rfl ?_ ?_ <;> (intro ht; rw [ht]; first | replace ht := of_decide_eq_true ht | replace ht := of_decide_eq_false ht | skip)) | (refine ych ?_; first | (refine ybw rfl ?_ ?_ <;> intro ht) | (refine ybx rfl ?_ ?_ <;> intro ht)))
    refine nx_ret1 rfl (rv_tmp rfl) (fun w' s' => ⟨?_, s'.nil⟩)
    rw [decide_eq_false (map_ne_len hlm)]
end Go.Proofs.Ytkkjppeaaicgaaa
end

section
namespace Go.Proofs.Ytkkjppeaaicgaaa
open Go Go.Ck
set_option maxRecDepth 100000
set_option maxHeartbeats 1000000
set_option linter.unusedVariables false

/-- whether the one at i is kept -/
def keepR (L : List Ab) (i : Nat) (x : Ab) : Prop := ∀ (k : Nat) y, L[k]? = some y → hasA y x.1 = false ∧ (i ≤ k ∨ y.1 ≠ x.1)
/-- as far as k -/
def keepK (L : List Ab) (i : Nat) (x : Ab) (k : Nat) : Prop := ∀ (j : Nat) y, j < k → L[j]? = some y → hasA y x.1 = false ∧ (i ≤ j ∨ y.1 ≠ x.1)
theorem keepK_zero {L : List Ab} {i : Nat} {x : Ab} : keepK L i x 0 := fun j y h => by omega
theorem keepK_all {L : List Ab} {i : Nat} {x : Ab} : keepK L i x L.length ↔ keepR L i x :=
  ⟨fun h k y hk => h k y (List.getElem?_eq_some_iff.1 hk).1 hk, fun h j y _ hj => h j y hj⟩
theorem keepK_succ {L : List Ab} {i k : Nat} {x y : Ab} (hk : L[k]? = some y) : keepK L i x (k + 1) ↔ keepK L i x k ∧ hasA y x.1 = false ∧ (i ≤ k ∨ y.1 ≠ x.1) := by
  constructor
  · exact fun h => ⟨fun j z hj hz => h j z (by omega) hz, h k y (by omega) hk⟩
  · rintro ⟨h1, h2⟩ j z hj hz
    by_cases e : j = k
    · subst e
      rw [hk] at hz
      cases hz
      exact h2
    · exact h1 j z (by omega) hz
theorem keepK_out {L : List Ab} {i k : Nat} {x : Ab} (h : ¬ keepK L i x k) (hk : k ≤ L.length) : ¬ keepR L i x := fun hr => h fun j y _ hj => hr j y hj
theorem keep_iff {A B : List Ab} (ca : StrictA A) (cb : StrictA B) {x : Ab} : (∃ j, (A ++ B)[j]? = some x ∧ keepR (A ++ B) j x) ↔ InM A B x := by
  unfold InM
  rw [free_iff]
  constructor
  · rintro ⟨j, hj, hk⟩
    have hf : ∀ y ∈ A ++ B, hasA y x.1 = false := fun y hy => by
      obtain ⟨i, hi, rfl⟩ := List.mem_iff_getElem.1 hy
      exact (hk i _ (List.getElem?_eq_getElem hi)).1
    refine ⟨?_, fun y hy => hf y (List.mem_append_left _ hy), fun y hy => hf y (List.mem_append_right _ hy)⟩
    by_cases hA : j < A.length
    · rw [List.getElem?_append_left hA] at hj
      exact .inl (List.mem_of_getElem? hj)
    · right
      rw [List.getElem?_append_right (by omega)] at hj
      refine ⟨List.mem_of_getElem? hj, fun y hy => ?_⟩
      obtain ⟨i, hi, rfl⟩ := List.mem_iff_getElem.1 hy
      rcases (hk i A[i] (by rw [List.getElem?_append_left hi, List.getElem?_eq_getElem hi])).2 with h | h
      · omega
      · exact h
  · rintro ⟨hx, hA, hB⟩
    have hf : ∀ (k : Nat) y, (A ++ B)[k]? = some y → hasA y x.1 = false := fun k y hy => by
      rcases List.mem_append.1 (List.mem_of_getElem? hy) with h | h
      · exact hA y h
      · exact hB y h
    rcases hx with hx | ⟨hx, hne⟩
    · obtain ⟨i, hi, rfl⟩ := List.mem_iff_getElem.1 hx
      refine ⟨i, by rw [List.getElem?_append_left hi, List.getElem?_eq_getElem hi], fun k y hy => ⟨hf k y hy, ?_⟩⟩
      by_cases hik : i ≤ k
      · exact .inl hik
      · right
        rw [List.getElem?_append_left (by omega), List.getElem?_eq_getElem (by omega)] at hy
        rw [← Option.some.inj hy]
        exact ord_ne (List.pairwise_iff_getElem.1 ca k i (by omega) hi (by omega))
    · obtain ⟨i, hi, rfl⟩ := List.mem_iff_getElem.1 hx
      refine ⟨A.length + i, by rw [List.getElem?_append_right (by omega), Nat.add_sub_cancel_left, List.getElem?_eq_getElem hi], fun k y hy => ⟨hf k y hy, ?_⟩⟩
      by_cases hik : A.length + i ≤ k
      · exact .inl hik
      · right
        by_cases hk : k < A.length
        · rw [List.getElem?_append_left hk] at hy
          exact hne y (List.mem_of_getElem? hy)
        · rw [List.getElem?_append_right (by omega), List.getElem?_eq_getElem (by omega)] at hy
          rw [← Option.some.inj hy]
          exact ord_ne (List.pairwise_iff_getElem.1 cb (k - A.length) i (by omega) hi (by omega))
/-- what the first i come to -/
structure OutR (L : List Ab) (i : Nat) (O : List Ab) : Prop where
  st : StrictA O
  mem : ∀ x, x ∈ O ↔ ∃ j, j < i ∧ L[j]? = some x ∧ keepR L j x
theorem OutR.zero {L : List Ab} : OutR L 0 [] := ⟨List.Pairwise.nil, fun x => by simp⟩
theorem OutR.skip {L O : List Ab} {i : Nat} {x : Ab} (h : OutR L i O) (hx : L[i]? = some x) (hk : ¬ keepR L i x) : OutR L (i + 1) O := ⟨h.st, fun z => by
  rw [h.mem z]
  constructor
  · rintro ⟨j, h1, h2⟩
    exact ⟨j, by omega, h2⟩
  · rintro ⟨j, h1, h2, h3⟩
    by_cases e : j = i
    · subst e
      rw [hx] at h2
      cases h2
      exact absurd h3 hk
    · exact ⟨j, by omega, h2, h3⟩⟩
theorem OutR.ne {L O : List Ab} {i : Nat} {x : Ab} (h : OutR L i O) (hx : L[i]? = some x) (hk : keepR L i x) : ∀ y ∈ O, y.1 ≠ x.1 := fun y hy => by
  obtain ⟨j, h1, h2, _⟩ := (h.mem y).1 hy
  rcases (hk j y h2).2 with h3 | h3
  · omega
  · exact h3
theorem OutR.add {L O O' : List Ab} {i : Nat} {x : Ab} (h : OutR L i O) (hx : L[i]? = some x) (hk : keepR L i x) (hs : StrictA O') (hm : ∀ z, z ∈ O' ↔ z = x ∨ z ∈ O) : OutR L (i + 1) O' := ⟨hs, fun z => by
  rw [hm z, h.mem z]
  constructor
  · rintro (rfl | ⟨j, h1, h2⟩)
    · exact ⟨i, by omega, hx, hk⟩
    · exact ⟨j, by omega, h2⟩
  · rintro ⟨j, h1, h2, h3⟩
    by_cases e : j = i
    · subst e
      rw [hx] at h2
      cases h2
      exact .inl rfl
    · exact .inr ⟨j, by omega, h2, h3⟩⟩
theorem OutR.done {A B O : List Ab} (h : OutR (A ++ B) (A ++ B).length O) (ca : checkA A = 0) (cb : checkA B = 0) : mergeF A B = if 64 < O.length then ([], 5) else (O, 0) :=
  mergeF_uniq ca cb h.st fun x => by
    rw [h.mem x, ← keep_iff (checkA_strict ca) (checkA_strict cb)]
    exact ⟨fun ⟨j, _, h2⟩ => ⟨j, h2⟩, fun ⟨j, h2, h3⟩ => ⟨j, (List.getElem?_eq_some_iff.1 h2).1, h2, h3⟩⟩

/-- x put in at k -/
def insS (M : List Sb) (k : Nat) (x : Sb) : List Sb := M.take k ++ x :: M.drop k
theorem insS_len {M : List Sb} {k : Nat} {x : Sb} : (insS M k x).length = M.length + 1 := by
  simp [insS]; omega
theorem insS_all {M : List Sb} {x : Sb} : insS M M.length x = M ++ [x] := by simp [insS]
theorem insS_mem {M : List Sb} {k : Nat} {x z : Sb} : z ∈ insS M k x ↔ z = x ∨ z ∈ M := by
  unfold insS
  rw [List.mem_append, List.mem_cons]
  constructor
  · rintro (h | h | h)
    · exact .inr (List.mem_of_mem_take h)
    · exact .inl h
    · exact .inr (List.mem_of_mem_drop h)
  · rintro (h | h)
    · exact .inr (.inl h)
    · rw [← List.take_append_drop k M, List.mem_append] at h
      rcases h with h | h
      · exact .inl h
      · exact .inr (.inr h)
theorem insS_at {M : List Sb} {k j : Nat} {x : Sb} (hj : j < k) (hk : k ≤ M.length) : (insS M k x)[j]? = some (M[j]'(by omega)) := by
  unfold insS
  rw [List.getElem?_append_left (by simp; omega), List.getElem?_take, if_pos hj, List.getElem?_eq_getElem]
theorem insS_set {M : List Sb} {k : Nat} {x : Sb} (h0 : 0 < k) (hk : k ≤ M.length) : ((insS M k x).set k (M[k - 1]'(by omega))).set (k - 1) x = insS M (k - 1) x := by
  have e1 : M.take k = M.take (k - 1) ++ [M[k - 1]'(by omega)] := by
    have := List.take_succ_eq_append_getElem (l := M) (i := k - 1) (by omega)
    rwa [show k - 1 + 1 = k by omega] at this
  have e2 : M.drop (k - 1) = M[k - 1]'(by omega) :: M.drop k := by
    have := List.drop_eq_getElem_cons (l := M) (i := k - 1) (by omega)
    rwa [show k - 1 + 1 = k by omega] at this
  have l1 : (M.take (k - 1)).length = k - 1 := by simp; omega
  unfold insS
  rw [e1, e2, List.append_assoc, List.set_append_right _ _ (by omega), l1, show k - (k - 1) = 1 by omega]
  rw [List.set_append_right _ _ (by omega), l1, Nat.sub_self]
  rfl
theorem insS_strict {M : List Sb} {k : Nat} {x : Sb} (hs : StrictA (M.map Sb.a)) (hk : k ≤ M.length) (hd : ∀ e ∈ M.drop k, ordD x.d e.d < 0) (hl : ∀ (h0 : 0 < k), ordD (M[k - 1]'(by omega)).d x.d < 0) : StrictA ((insS M k x).map Sb.a) := by
  unfold StrictA at hs ⊢
  rw [List.pairwise_map] at hs ⊢
  unfold insS
  rw [← List.take_append_drop k M, List.pairwise_append] at hs
  obtain ⟨q1, q2, q3⟩ := hs
  refine List.pairwise_append.2 ⟨q1, List.pairwise_cons.2 ⟨hd, q2⟩, fun e he z hz => ?_⟩
  rcases List.mem_cons.1 hz with rfl | hz
  · obtain ⟨i, hi, rfl⟩ := List.getElem_of_mem he
    have hik : i < k := by simp at hi; omega
    rw [List.getElem_take]
    have hl' := hl (by omega)
    by_cases hc : i = k - 1
    · subst hc; exact hl'
    · have := List.pairwise_iff_getElem.1 q1 i (k - 1) hi (by simp; omega) (by omega)
      rw [List.getElem_take, List.getElem_take] at this
      exact ord_tr this hl'
  · exact q3 e he z hz
end Go.Proofs.Ytkkjppeaaicgaaa
end

section
namespace Go.Ck
open Go
set_option linter.unusedVariables false
theorem St.persistA {K : Bs} {h : View} {b : Nat} {o : Obj} {L : List Res} {w : World} (s : St K h (Res.blk b o :: L) w) (hA : ∀ x ∈ K.A, x ∈ doms L) : St K (addV h b o) L w := by
  have hmem : b ∈ doms (Res.blk b o :: L) := by rw [doms_cons]; exact List.mem_append_left _ (List.mem_singleton.2 rfl)
  have nd := s.nd
  rw [doms_cons] at nd
  obtain ⟨_, n2, n3⟩ := List.nodup_append.1 nd
  have hnot : b ∉ doms L := fun hb => n3 b (List.mem_singleton.2 rfl) b hb rfl
  have hb0 : K.w0.heap.size ≤ b := by
    rcases s.src b hmem with h1 | h1
    · exact absurd (hA b h1) hnot
    · exact h1
  refine ⟨s.os, s.tape, s.output, s.drawn, s.size, s.keep, ⟨fun x o' hx => ?_, fun r hr => s.hd.own r (List.mem_cons_of_mem _ hr)⟩, n2, fun x hx => s.src x (by rw [doms_cons]; exact List.mem_append_right _ hx), fun x o' hx => ?_, fun x hx hx0 => ?_, fun x hx => ?_⟩
  · unfold addV at hx
    split at hx
    · rename_i e; subst e; cases hx
      exact s.hd.own _ (List.mem_cons_self ..)
    · exact s.hd.view x o' hx
  · unfold addV
    split
    · rename_i e; subst e
      have h1 := s.grow x o' hx
      rw [s.dis x hmem] at h1; cases h1
    · exact s.grow x o' hx
  · unfold addV
    rw [if_neg (by omega)]
    exact s.new x hx hx0
  · unfold addV
    rw [if_neg (fun e => hnot (by rw [← e]; exact hx))]
    exact s.dis x (by rw [doms_cons]; exact List.mem_append_right _ hx)

section
variable {P : Program} {n : Nat} {K : Bs} {F : List (Nat × Value)} {h : View} {L : List Res} {Q : Exit → Act → World → Prop}
theorem St.rowPersistA {e : TypeId} {k m : Nat} {v : Value} {xs : List Value} {w : World} (s : St K h (Res.row e k v m xs :: L) w) (hA : ∀ x ∈ K.A, x ∈ doms L) : ∃ h', Le h h' ∧ Sc h' k v m xs ∧ St K h' L w := by
  have ho : w.ownsRow 0 e k v m xs := s.hd.own _ (List.mem_cons_self ..)
  rcases ho.2 with ⟨rfl, rfl⟩ | ⟨g, cap, cur, rfl, _, hg, hn, _, hcs, htake⟩
  · have : xs = [] := List.eq_nil_of_length_eq_zero (by rw [ho.1]; simp)
    subst this
    exact ⟨h, Le.refl h, Sc.nil h k Option.none 0, s.tl⟩
  · have hd : doms (Res.row e k (.slice (some ⟨g, 0, Option.none⟩) m cap) m xs :: L) = doms (Res.blk g (.cells cur e (0, 0)) :: L) := by simp [doms_cons, Res.row, Res.blk, Value.ownBlock]
    have s2 : St K h (Res.blk g (.cells cur e (0, 0)) :: L) w := ⟨s.os, s.tape, s.output, s.drawn, s.size, s.keep, ⟨s.hd.view, fun r hr => by
      rcases List.mem_cons.1 hr with rfl | hr
      · exact hg
      · exact s.hd.own r (List.mem_cons_of_mem _ hr)⟩, by rw [← hd]; exact s.nd, fun b hb => s.src b (by rw [hd]; exact hb), s.grow, s.new, fun b hb => s.dis b (by rw [hd]; exact hb)⟩
    refine ⟨addV h g (.cells cur e (0, 0)), Le.addV (s2.dis g (by rw [doms_cons]; exact List.mem_append_left _ (List.mem_singleton.2 rfl))), ⟨ho.1, some ⟨g, 0, Option.none⟩, cap, rfl, hn, .inr ⟨g, 0, cur, e, (0, 0), rfl, addV_same, fun j u hj => ?_⟩⟩, s2.persistA hA⟩
    rw [← htake, List.getElem?_take] at hj
    split at hj
    · simpa using hj
    · cases hj
theorem rx_persistA {g : Rg} {prs : List (Nat × Oper)} {e : TypeId} {sz m : Nat} {v : Value} {xs : List Value} (hA : ∀ x ∈ K.A, x ∈ doms L) (hx : ∀ h', Le h h' → Sc h' sz v m xs → RX P n K g prs F h' L Q) : RX P n K g prs F h (Res.row e sz v m xs :: L) Q := by
  unfold RX at *
  intro a w f s
  obtain ⟨h', h1, h2, h3⟩ := s.rowPersistA hA
  exact hx h' h1 h2 a w f h3
end
end Go.Ck
end
