/-
  Part 21 of a proof: SbRb MgA CkLess.
  Conditions: each theorem states its own.
-/
import Derived.Test.YtkkjppeaaicgaaaHsEPM20
section
namespace Go.Proofs.Ytkkjppeaaicgaaa
open Go Go.Ck
set_option maxRecDepth 100000
set_option maxHeartbeats 4000000
set_option linter.unusedVariables false

theorem rsame_sp (va vb : Value) (a b : List Sb) (h : View) (ha : Rs h va a) (hb : Rs h vb b) (hl : a.length ≤ 4611686018427387904) (hm : b.length ≤ 4611686018427387904) (lla : ∀ x ∈ a, x.l.length ≤ 4611686018427387904) (llb : ∀ x ∈ b, x.l.length ≤ 4611686018427387904) (w : World) (s : St ⟨w, h, []⟩ h [] w) :
    Calls Try.prog 23 [va, vb].toArray w fun e w' => e = .returned (.bool (decide (a.map Sb.a = b.map Sb.a))) ∧ St ⟨w, h, []⟩ h [] w' := by
  obtain ⟨hs, hsv⟩ := ha
  obtain ⟨hs2, hsv2⟩ := hb
  obtain ⟨_, ad, cap, rfl, hcap, _⟩ := id hs
  obtain ⟨_, ad2, cap2, rfl, hcap2, _⟩ := id hs2
  refine calls_enter Try.func23 rfl Try.ntmps23 rfl s ?_
  by_cases hlm : a.length = b.length
  · repeat' (first | (refine ycf ?_; apply ybk; (· first | (exact tk_)); (· rfl); (· rfl)) | refine t1_ ?_ | (refine ta_ ?_; intro _) | ((fail_if_success (refine ybi rfl ?_)); refine ybj rfl ?_ ?_ <;> (intro ht; rw [ht]; first | replace ht := of_decide_eq_true ht | replace ht := of_decide_eq_false ht | skip)) | (refine ych ?_; first | (refine ybw rfl ?_ ?_ <;> intro ht) | (refine ybx rfl ?_ ?_ <;> intro ht)))
    refine cx_loop (X := Nat) (fun k => [(0, .slice ad a.length cap), (1, .slice ad2 b.length cap2), (5, .int .i64 k)]) (fun _ => h) (fun _ => []) (fun k => k ≤ a.length ∧ (a.take k).map Sb.a = (b.take k).map Sb.a) (fun k => a.length - k) 0 ⟨by omega, by simp⟩ ts_ (fun _ s => s) ?_
    rintro k ⟨hk, hek⟩
    by_cases hkl : k < a.length
    · have hkm : k < b.length := by omega
      obtain ⟨bs, o, rfl⟩ := hs.ad (by omega) (by omega)
      obtain ⟨bs2, o2, rfl⟩ := hs2.ad (by omega) (by omega)
      have hel : ∀ L, Cells h L ⟨bs, o + k * 20, none⟩ (sbc a[k]) := fun L => hs.elem sbc_len k hkl
      have hel2 : ∀ L, Cells h L ⟨bs2, o2 + k * 20, none⟩ (sbc b[k]) := fun L => hs2.elem sbc_len k hkm
      have hx := hsv _ (List.getElem_mem hkl)
      have hy := hsv2 _ (List.getElem_mem hkm)
      have hlx := lla _ (List.getElem_mem hkl)
      have hly := llb _ (List.getElem_mem hkm)
      have ta : a.take (k + 1) = a.take k ++ [a[k]] := List.take_succ_eq_append_getElem hkl
      have tb : b.take (k + 1) = b.take k ++ [b[k]] := List.take_succ_eq_append_getElem hkm
      have hne : a[k].a ≠ b[k].a → a.map Sb.a ≠ b.map Sb.a := fun hn e => hn (by
        have := congrArg (fun l : List Ab => l[k]?) e
        simpa [hkl, hkm] using this)
      have C1 := refSame_sp _ _ a[k].u b[k].u a[k].l b[k].l h ⟨a[k].hu, _, rfl, hx.ds⟩ ⟨b[k].hu, _, rfl, hy.ds⟩ (by omega) (by omega)
      generalize a[k] = x1 at hel ta hne hx C1
      generalize b[k] = y1 at hel2 tb hne hy C1
      have hbe := bstr_eq hx.by8 hy.by8
      have hu1 := x1.hu
      have hu2 := y1.hu
      by_cases hd : x1.d = y1.d
      · have hde : decide (x1.d = y1.d) = true := decide_eq_true hd
        by_cases hp : x1.u = y1.u ∧ x1.l = y1.l
        · rw [decide_eq_true hp.1, decide_eq_true hp.2, Bool.true_and] at C1
          by_cases hb : x1.b = y1.b
          · --
            repeat' (first|(refine ycf ?_;apply ybk;(·first|(first|exact tk_|(refine qv_neq_agg (t := true) rfl rfl (fun w => by rw [← hde];exact dot_eq _ _ w))|(apply yad;(·rfl);(·exact sb_dot (hel _));(·rfl))|(apply yad;(·rfl);(·exact sb_dot (hel2 _));(·rfl))|(apply yad;(·rfl);(·exact sb_past (hel _));(·exact ycj hu1))|(apply yad;(·rfl);(·exact sb_past (hel2 _));(·exact ycj hu2))|(apply qv_neq_str (t := false);(·rfl);(·rfl);(·rw [hbe, decide_eq_true hb];rfl)))|(apply yae;(·rfl);(·(first|exact sb_body' (hel _) hx.bs|exact sb_body' (hel2 _) hy.bs))));(·rfl);(·rfl))|refine t1_ ?_|(refine ta_ ?_;intro _)|((fail_if_success (refine ybi rfl ?_));refine ybj rfl ?_ ?_<;>(intro ht;rw [ht];first|replace ht := of_decide_eq_true ht|replace ht := of_decide_eq_false ht|skip))|(refine ych ?_;first|(refine ybw rfl ?_ ?_<;>intro ht)|(refine ybx rfl ?_ ?_<;>intro ht)))
            refine cx_region_draw' rfl (by kernel_rfl) ?_
            repeat' (refine ycf ?_;(first|(first|(apply ybm;(·(first|(first|exact tk_|(refine qv_neq_agg (t := true) rfl rfl (fun w => by rw [← hde];exact dot_eq _ _ w))|(apply yad;(·rfl);(·exact sb_dot (hel _));(·rfl))|(apply yad;(·rfl);(·exact sb_dot (hel2 _));(·rfl))|(apply yad;(·rfl);(·exact sb_past (hel _));(·exact ycj hu1))|(apply yad;(·rfl);(·exact sb_past (hel2 _));(·exact ycj hu2))|(apply qv_neq_str (t := false);(·rfl);(·rfl);(·rw [hbe, decide_eq_true hb];rfl)))|(apply yae;(·rfl);(·(first|exact sb_body' (hel _) hx.bs|exact sb_body' (hel2 _) hy.bs)))|exact tq_));(·rfl);(·rfl);(·(exact th_)))|refine ybl rfl rfl ?_|((fail_if_success (refine ybi rfl ?_));refine ybj rfl ?_ ?_<;>(intro ht;rw [ht];first|replace ht := of_decide_eq_true ht|replace ht := of_decide_eq_false ht|skip))|(refine tb_ ?_ ?_ ?_;(·(exact to_));(·intro _;(exact to_));intro _)|(first|(refine tqs_ ?_ ?_ ?_;(·(exact to_));(·(exact to_))))|(apply ybn;(·(first|(first|exact tk_|(refine qv_neq_agg (t := true) rfl rfl (fun w => by rw [← hde];exact dot_eq _ _ w))|(apply yad;(·rfl);(·exact sb_dot (hel _));(·rfl))|(apply yad;(·rfl);(·exact sb_dot (hel2 _));(·rfl))|(apply yad;(·rfl);(·exact sb_past (hel _));(·exact ycj hu1))|(apply yad;(·rfl);(·exact sb_past (hel2 _));(·exact ycj hu2))|(apply qv_neq_str (t := false);(·rfl);(·rfl);(·rw [hbe, decide_eq_true hb];rfl)))|(apply yae;(·rfl);(·(first|exact sb_body' (hel _) hx.bs|exact sb_body' (hel2 _) hy.bs)))|exact tq_));(·rfl);(·rfl);(·rfl);(·(exact to_))))|refine ycg ?_))
            (refine ycn (ycp Try.func42 rfl (by kernel_rfl) rfl) (C1) rfl rfl rfl ?_ ?_; (· (exact to_)))
            repeat' (refine ycf ?_;(first|(first|(apply ybm;(·(first|(first|exact tk_|(refine qv_neq_agg (t := true) rfl rfl (fun w => by rw [← hde];exact dot_eq _ _ w))|(apply yad;(·rfl);(·exact sb_dot (hel _));(·rfl))|(apply yad;(·rfl);(·exact sb_dot (hel2 _));(·rfl))|(apply yad;(·rfl);(·exact sb_past (hel _));(·exact ycj hu1))|(apply yad;(·rfl);(·exact sb_past (hel2 _));(·exact ycj hu2))|(apply qv_neq_str (t := false);(·rfl);(·rfl);(·rw [hbe, decide_eq_true hb];rfl)))|(apply yae;(·rfl);(·(first|exact sb_body' (hel _) hx.bs|exact sb_body' (hel2 _) hy.bs)))|exact tq_));(·rfl);(·rfl);(·(exact th_)))|refine ybl rfl rfl ?_|((fail_if_success (refine ybi rfl ?_));refine ybj rfl ?_ ?_<;>(intro ht;rw [ht];first|replace ht := of_decide_eq_true ht|replace ht := of_decide_eq_false ht|skip))|(refine tb_ ?_ ?_ ?_;(·(exact to_));(·intro _;(exact to_));intro _)|(first|(refine tqs_ ?_ ?_ ?_;(·(exact to_));(·(exact to_))))|(apply ybn;(·(first|(first|exact tk_|(refine qv_neq_agg (t := true) rfl rfl (fun w => by rw [← hde];exact dot_eq _ _ w))|(apply yad;(·rfl);(·exact sb_dot (hel _));(·rfl))|(apply yad;(·rfl);(·exact sb_dot (hel2 _));(·rfl))|(apply yad;(·rfl);(·exact sb_past (hel _));(·exact ycj hu1))|(apply yad;(·rfl);(·exact sb_past (hel2 _));(·exact ycj hu2))|(apply qv_neq_str (t := false);(·rfl);(·rfl);(·rw [hbe, decide_eq_true hb];rfl)))|(apply yae;(·rfl);(·(first|exact sb_body' (hel _) hx.bs|exact sb_body' (hel2 _) hy.bs)))|exact tq_));(·rfl);(·rfl);(·rfl);(·(exact to_))))|refine ycg ?_))
            repeat' (first|(refine ycf ?_;apply ybk;(·first|(first|exact tk_|(refine qv_neq_agg (t := true) rfl rfl (fun w => by rw [← hde];exact dot_eq _ _ w))|(apply yad;(·rfl);(·exact sb_dot (hel _));(·rfl))|(apply yad;(·rfl);(·exact sb_dot (hel2 _));(·rfl))|(apply yad;(·rfl);(·exact sb_past (hel _));(·exact ycj hu1))|(apply yad;(·rfl);(·exact sb_past (hel2 _));(·exact ycj hu2))|(apply qv_neq_str (t := false);(·rfl);(·rfl);(·rw [hbe, decide_eq_true hb];rfl)))|(apply yae;(·rfl);(·(first|exact sb_body' (hel _) hx.bs|exact sb_body' (hel2 _) hy.bs))));(·rfl);(·rfl))|refine t1_ ?_|(refine ta_ ?_;intro _)|((fail_if_success (refine ybi rfl ?_));refine ybj rfl ?_ ?_<;>(intro ht;rw [ht];first|replace ht := of_decide_eq_true ht|replace ht := of_decide_eq_false ht|skip))|(refine ych ?_;first|(refine ybw rfl ?_ ?_<;>intro ht)|(refine ybx rfl ?_ ?_<;>intro ht)))
            refine nx_round (k + 1) ⟨by omega, ?_⟩ (by omega) ts_ (fun _ s => s)
            rw [ta, tb, List.map_append, List.map_append, hek]
            congr 1
            show [x1.a] = [y1.a]
            show [(x1.d, x1.u, x1.l, x1.b)] = [(y1.d, y1.u, y1.l, y1.b)]
            rw [hd, hp.1, hp.2, hb]
          · --
            repeat' (first|(refine ycf ?_;apply ybk;(·first|(first|exact tk_|(refine qv_neq_agg (t := true) rfl rfl (fun w => by rw [← hde];exact dot_eq _ _ w))|(apply yad;(·rfl);(·exact sb_dot (hel _));(·rfl))|(apply yad;(·rfl);(·exact sb_dot (hel2 _));(·rfl))|(apply yad;(·rfl);(·exact sb_past (hel _));(·exact ycj hu1))|(apply yad;(·rfl);(·exact sb_past (hel2 _));(·exact ycj hu2))|(apply qv_neq_str (t := true);(·rfl);(·rfl);(·rw [hbe, decide_eq_false hb];rfl)))|(apply yae;(·rfl);(·(first|exact sb_body' (hel _) hx.bs|exact sb_body' (hel2 _) hy.bs))));(·rfl);(·rfl))|refine t1_ ?_|(refine ta_ ?_;intro _)|((fail_if_success (refine ybi rfl ?_));refine ybj rfl ?_ ?_<;>(intro ht;rw [ht];first|replace ht := of_decide_eq_true ht|replace ht := of_decide_eq_false ht|skip))|(refine ych ?_;first|(refine ybw rfl ?_ ?_<;>intro ht)|(refine ybx rfl ?_ ?_<;>intro ht)))
            refine cx_region_draw' rfl (by kernel_rfl) ?_
            repeat' (refine ycf ?_;(first|(first|(apply ybm;(·(first|(first|exact tk_|(refine qv_neq_agg (t := true) rfl rfl (fun w => by rw [← hde];exact dot_eq _ _ w))|(apply yad;(·rfl);(·exact sb_dot (hel _));(·rfl))|(apply yad;(·rfl);(·exact sb_dot (hel2 _));(·rfl))|(apply yad;(·rfl);(·exact sb_past (hel _));(·exact ycj hu1))|(apply yad;(·rfl);(·exact sb_past (hel2 _));(·exact ycj hu2))|(apply qv_neq_str (t := true);(·rfl);(·rfl);(·rw [hbe, decide_eq_false hb];rfl)))|(apply yae;(·rfl);(·(first|exact sb_body' (hel _) hx.bs|exact sb_body' (hel2 _) hy.bs)))|exact tq_));(·rfl);(·rfl);(·(exact th_)))|refine ybl rfl rfl ?_|((fail_if_success (refine ybi rfl ?_));refine ybj rfl ?_ ?_<;>(intro ht;rw [ht];first|replace ht := of_decide_eq_true ht|replace ht := of_decide_eq_false ht|skip))|(refine tb_ ?_ ?_ ?_;(·(exact to_));(·intro _;(exact to_));intro _)|(first|(refine tqs_ ?_ ?_ ?_;(·(exact to_));(·(exact to_))))|(apply ybn;(·(first|(first|exact tk_|(refine qv_neq_agg (t := true) rfl rfl (fun w => by rw [← hde];exact dot_eq _ _ w))|(apply yad;(·rfl);(·exact sb_dot (hel _));(·rfl))|(apply yad;(·rfl);(·exact sb_dot (hel2 _));(·rfl))|(apply yad;(·rfl);(·exact sb_past (hel _));(·exact ycj hu1))|(apply yad;(·rfl);(·exact sb_past (hel2 _));(·exact ycj hu2))|(apply qv_neq_str (t := true);(·rfl);(·rfl);(·rw [hbe, decide_eq_false hb];rfl)))|(apply yae;(·rfl);(·(first|exact sb_body' (hel _) hx.bs|exact sb_body' (hel2 _) hy.bs)))|exact tq_));(·rfl);(·rfl);(·rfl);(·(exact to_))))|refine ycg ?_))
            (refine ycn (ycp Try.func42 rfl (by kernel_rfl) rfl) (C1) rfl rfl rfl ?_ ?_; (· (exact to_)))
            repeat' (refine ycf ?_;(first|(first|(apply ybm;(·(first|(first|exact tk_|(refine qv_neq_agg (t := true) rfl rfl (fun w => by rw [← hde];exact dot_eq _ _ w))|(apply yad;(·rfl);(·exact sb_dot (hel _));(·rfl))|(apply yad;(·rfl);(·exact sb_dot (hel2 _));(·rfl))|(apply yad;(·rfl);(·exact sb_past (hel _));(·exact ycj hu1))|(apply yad;(·rfl);(·exact sb_past (hel2 _));(·exact ycj hu2))|(apply qv_neq_str (t := true);(·rfl);(·rfl);(·rw [hbe, decide_eq_false hb];rfl)))|(apply yae;(·rfl);(·(first|exact sb_body' (hel _) hx.bs|exact sb_body' (hel2 _) hy.bs)))|exact tq_));(·rfl);(·rfl);(·(exact th_)))|refine ybl rfl rfl ?_|((fail_if_success (refine ybi rfl ?_));refine ybj rfl ?_ ?_<;>(intro ht;rw [ht];first|replace ht := of_decide_eq_true ht|replace ht := of_decide_eq_false ht|skip))|(refine tb_ ?_ ?_ ?_;(·(exact to_));(·intro _;(exact to_));intro _)|(first|(refine tqs_ ?_ ?_ ?_;(·(exact to_));(·(exact to_))))|(apply ybn;(·(first|(first|exact tk_|(refine qv_neq_agg (t := true) rfl rfl (fun w => by rw [← hde];exact dot_eq _ _ w))|(apply yad;(·rfl);(·exact sb_dot (hel _));(·rfl))|(apply yad;(·rfl);(·exact sb_dot (hel2 _));(·rfl))|(apply yad;(·rfl);(·exact sb_past (hel _));(·exact ycj hu1))|(apply yad;(·rfl);(·exact sb_past (hel2 _));(·exact ycj hu2))|(apply qv_neq_str (t := true);(·rfl);(·rfl);(·rw [hbe, decide_eq_false hb];rfl)))|(apply yae;(·rfl);(·(first|exact sb_body' (hel _) hx.bs|exact sb_body' (hel2 _) hy.bs)))|exact tq_));(·rfl);(·rfl);(·rfl);(·(exact to_))))|refine ycg ?_))
            repeat' (first|(refine ycf ?_;apply ybk;(·first|(first|exact tk_|(refine qv_neq_agg (t := true) rfl rfl (fun w => by rw [← hde];exact dot_eq _ _ w))|(apply yad;(·rfl);(·exact sb_dot (hel _));(·rfl))|(apply yad;(·rfl);(·exact sb_dot (hel2 _));(·rfl))|(apply yad;(·rfl);(·exact sb_past (hel _));(·exact ycj hu1))|(apply yad;(·rfl);(·exact sb_past (hel2 _));(·exact ycj hu2))|(apply qv_neq_str (t := true);(·rfl);(·rfl);(·rw [hbe, decide_eq_false hb];rfl)))|(apply yae;(·rfl);(·(first|exact sb_body' (hel _) hx.bs|exact sb_body' (hel2 _) hy.bs))));(·rfl);(·rfl))|refine t1_ ?_|(refine ta_ ?_;intro _)|((fail_if_success (refine ybi rfl ?_));refine ybj rfl ?_ ?_<;>(intro ht;rw [ht];first|replace ht := of_decide_eq_true ht|replace ht := of_decide_eq_false ht|skip))|(refine ych ?_;first|(refine ybw rfl ?_ ?_<;>intro ht)|(refine ybx rfl ?_ ?_<;>intro ht)))
            refine nx_ret1 rfl (rv_tmp rfl) (fun w' s' => ⟨?_, s'.nil⟩)
            rw [decide_eq_false (hne fun e => hb (congrArg (·.2.2.2) e))]
        · have hpf : (decide (x1.u = y1.u) && decide (x1.l = y1.l)) = false := by
            rw [← Bool.decide_and]; exact decide_eq_false hp
          rw [hpf] at C1
          repeat' (first|(refine ycf ?_;apply ybk;(·first|(first|exact tk_|(refine qv_neq_agg (t := true) rfl rfl (fun w => by rw [← hde];exact dot_eq _ _ w))|(apply yad;(·rfl);(·exact sb_dot (hel _));(·rfl))|(apply yad;(·rfl);(·exact sb_dot (hel2 _));(·rfl))|(apply yad;(·rfl);(·exact sb_past (hel _));(·exact ycj hu1))|(apply yad;(·rfl);(·exact sb_past (hel2 _));(·exact ycj hu2)))|(apply yae;(·rfl);(·(first|exact sb_body' (hel _) hx.bs|exact sb_body' (hel2 _) hy.bs))));(·rfl);(·rfl))|refine t1_ ?_|(refine ta_ ?_;intro _)|((fail_if_success (refine ybi rfl ?_));refine ybj rfl ?_ ?_<;>(intro ht;rw [ht];first|replace ht := of_decide_eq_true ht|replace ht := of_decide_eq_false ht|skip))|(refine ych ?_;first|(refine ybw rfl ?_ ?_<;>intro ht)|(refine ybx rfl ?_ ?_<;>intro ht)))
          refine cx_region_draw' rfl (by kernel_rfl) ?_
          repeat' (refine ycf ?_;(first|(first|(apply ybm;(·(first|(first|exact tk_|(refine qv_neq_agg (t := true) rfl rfl (fun w => by rw [← hde];exact dot_eq _ _ w))|(apply yad;(·rfl);(·exact sb_dot (hel _));(·rfl))|(apply yad;(·rfl);(·exact sb_dot (hel2 _));(·rfl))|(apply yad;(·rfl);(·exact sb_past (hel _));(·exact ycj hu1))|(apply yad;(·rfl);(·exact sb_past (hel2 _));(·exact ycj hu2)))|(apply yae;(·rfl);(·(first|exact sb_body' (hel _) hx.bs|exact sb_body' (hel2 _) hy.bs)))|exact tq_));(·rfl);(·rfl);(·(exact th_)))|refine ybl rfl rfl ?_|((fail_if_success (refine ybi rfl ?_));refine ybj rfl ?_ ?_<;>(intro ht;rw [ht];first|replace ht := of_decide_eq_true ht|replace ht := of_decide_eq_false ht|skip))|(refine tb_ ?_ ?_ ?_;(·(exact to_));(·intro _;(exact to_));intro _)|(first|(refine tqs_ ?_ ?_ ?_;(·(exact to_));(·(exact to_))))|(apply ybn;(·(first|(first|exact tk_|(refine qv_neq_agg (t := true) rfl rfl (fun w => by rw [← hde];exact dot_eq _ _ w))|(apply yad;(·rfl);(·exact sb_dot (hel _));(·rfl))|(apply yad;(·rfl);(·exact sb_dot (hel2 _));(·rfl))|(apply yad;(·rfl);(·exact sb_past (hel _));(·exact ycj hu1))|(apply yad;(·rfl);(·exact sb_past (hel2 _));(·exact ycj hu2)))|(apply yae;(·rfl);(·(first|exact sb_body' (hel _) hx.bs|exact sb_body' (hel2 _) hy.bs)))|exact tq_));(·rfl);(·rfl);(·rfl);(·(exact to_))))|refine ycg ?_))
          (refine ycn (ycp Try.func42 rfl (by kernel_rfl) rfl) (C1) rfl rfl rfl ?_ ?_; (· (exact to_)))
          repeat' (refine ycf ?_;(first|(first|(apply ybm;(·(first|(first|exact tk_|(refine qv_neq_agg (t := true) rfl rfl (fun w => by rw [← hde];exact dot_eq _ _ w))|(apply yad;(·rfl);(·exact sb_dot (hel _));(·rfl))|(apply yad;(·rfl);(·exact sb_dot (hel2 _));(·rfl))|(apply yad;(·rfl);(·exact sb_past (hel _));(·exact ycj hu1))|(apply yad;(·rfl);(·exact sb_past (hel2 _));(·exact ycj hu2)))|(apply yae;(·rfl);(·(first|exact sb_body' (hel _) hx.bs|exact sb_body' (hel2 _) hy.bs)))|exact tq_));(·rfl);(·rfl);(·(exact th_)))|refine ybl rfl rfl ?_|((fail_if_success (refine ybi rfl ?_));refine ybj rfl ?_ ?_<;>(intro ht;rw [ht];first|replace ht := of_decide_eq_true ht|replace ht := of_decide_eq_false ht|skip))|(refine tb_ ?_ ?_ ?_;(·(exact to_));(·intro _;(exact to_));intro _)|(first|(refine tqs_ ?_ ?_ ?_;(·(exact to_));(·(exact to_))))|(apply ybn;(·(first|(first|exact tk_|(refine qv_neq_agg (t := true) rfl rfl (fun w => by rw [← hde];exact dot_eq _ _ w))|(apply yad;(·rfl);(·exact sb_dot (hel _));(·rfl))|(apply yad;(·rfl);(·exact sb_dot (hel2 _));(·rfl))|(apply yad;(·rfl);(·exact sb_past (hel _));(·exact ycj hu1))|(apply yad;(·rfl);(·exact sb_past (hel2 _));(·exact ycj hu2)))|(apply yae;(·rfl);(·(first|exact sb_body' (hel _) hx.bs|exact sb_body' (hel2 _) hy.bs)))|exact tq_));(·rfl);(·rfl);(·rfl);(·(exact to_))))|refine ycg ?_))
          repeat' (first|(refine ycf ?_;apply ybk;(·first|(first|exact tk_|(refine qv_neq_agg (t := true) rfl rfl (fun w => by rw [← hde];exact dot_eq _ _ w))|(apply yad;(·rfl);(·exact sb_dot (hel _));(·rfl))|(apply yad;(·rfl);(·exact sb_dot (hel2 _));(·rfl))|(apply yad;(·rfl);(·exact sb_past (hel _));(·exact ycj hu1))|(apply yad;(·rfl);(·exact sb_past (hel2 _));(·exact ycj hu2)))|(apply yae;(·rfl);(·(first|exact sb_body' (hel _) hx.bs|exact sb_body' (hel2 _) hy.bs))));(·rfl);(·rfl))|refine t1_ ?_|(refine ta_ ?_;intro _)|((fail_if_success (refine ybi rfl ?_));refine ybj rfl ?_ ?_<;>(intro ht;rw [ht];first|replace ht := of_decide_eq_true ht|replace ht := of_decide_eq_false ht|skip))|(refine ych ?_;first|(refine ybw rfl ?_ ?_<;>intro ht)|(refine ybx rfl ?_ ?_<;>intro ht)))
          refine nx_ret1 rfl (rv_tmp rfl) (fun w' s' => ⟨?_, s'.nil⟩)
          rw [decide_eq_false (hne fun e => hp ⟨congrArg (·.2.1) e, congrArg (·.2.2.1) e⟩)]
      · have hde : decide (x1.d = y1.d) = false := decide_eq_false hd
        repeat' (first|(refine ycf ?_;apply ybk;(·first|(first|exact tk_|(refine qv_neq_agg (t := false) rfl rfl (fun w => by rw [← hde];exact dot_eq _ _ w))|(apply yad;(·rfl);(·exact sb_dot (hel _));(·rfl))|(apply yad;(·rfl);(·exact sb_dot (hel2 _));(·rfl)))|(apply yae;(·rfl);(·(first|exact sb_body' (hel _) hx.bs|exact sb_body' (hel2 _) hy.bs))));(·rfl);(·rfl))|refine t1_ ?_|(refine ta_ ?_;intro _)|((fail_if_success (refine ybi rfl ?_));refine ybj rfl ?_ ?_<;>(intro ht;rw [ht];first|replace ht := of_decide_eq_true ht|replace ht := of_decide_eq_false ht|skip))|(refine ych ?_;first|(refine ybw rfl ?_ ?_<;>intro ht)|(refine ybx rfl ?_ ?_<;>intro ht)))
        refine cx_region_draw' rfl (by kernel_rfl) ?_
        repeat' (refine ycf ?_;(first|(first|(apply ybm;(·(first|(first|exact tk_|(refine qv_neq_agg (t := false) rfl rfl (fun w => by rw [← hde];exact dot_eq _ _ w))|(apply yad;(·rfl);(·exact sb_dot (hel _));(·rfl))|(apply yad;(·rfl);(·exact sb_dot (hel2 _));(·rfl)))|(apply yae;(·rfl);(·(first|exact sb_body' (hel _) hx.bs|exact sb_body' (hel2 _) hy.bs)))|exact tq_));(·rfl);(·rfl);(·(exact th_)))|refine ybl rfl rfl ?_|((fail_if_success (refine ybi rfl ?_));refine ybj rfl ?_ ?_<;>(intro ht;rw [ht];first|replace ht := of_decide_eq_true ht|replace ht := of_decide_eq_false ht|skip))|(refine tb_ ?_ ?_ ?_;(·(exact to_));(·intro _;(exact to_));intro _)|(first|(refine tqs_ ?_ ?_ ?_;(·(exact to_));(·(exact to_))))|(apply ybn;(·(first|(first|exact tk_|(refine qv_neq_agg (t := false) rfl rfl (fun w => by rw [← hde];exact dot_eq _ _ w))|(apply yad;(·rfl);(·exact sb_dot (hel _));(·rfl))|(apply yad;(·rfl);(·exact sb_dot (hel2 _));(·rfl)))|(apply yae;(·rfl);(·(first|exact sb_body' (hel _) hx.bs|exact sb_body' (hel2 _) hy.bs)))|exact tq_));(·rfl);(·rfl);(·rfl);(·(exact to_))))|refine ycg ?_))
        repeat' (first|(refine ycf ?_;apply ybk;(·first|(first|exact tk_|(refine qv_neq_agg (t := false) rfl rfl (fun w => by rw [← hde];exact dot_eq _ _ w))|(apply yad;(·rfl);(·exact sb_dot (hel _));(·rfl))|(apply yad;(·rfl);(·exact sb_dot (hel2 _));(·rfl)))|(apply yae;(·rfl);(·(first|exact sb_body' (hel _) hx.bs|exact sb_body' (hel2 _) hy.bs))));(·rfl);(·rfl))|refine t1_ ?_|(refine ta_ ?_;intro _)|((fail_if_success (refine ybi rfl ?_));refine ybj rfl ?_ ?_<;>(intro ht;rw [ht];first|replace ht := of_decide_eq_true ht|replace ht := of_decide_eq_false ht|skip))|(refine ych ?_;first|(refine ybw rfl ?_ ?_<;>intro ht)|(refine ybx rfl ?_ ?_<;>intro ht)))
        refine nx_ret1 rfl (rv_tmp rfl) (fun w' s' => ⟨?_, s'.nil⟩)
        rw [decide_eq_false (hne fun e => hd (congrArg (·.1) e))]
    · --
      repeat' (first | (refine ycf ?_; apply ybk; (· first | (exact tk_) | (apply yae; (· rfl); (· (first | exact sb_body' (hel _) hx.bs | exact sb_body' (hel2 _) hy.bs)))); (· rfl); (· rfl)) | refine t1_ ?_ | (refine ta_ ?_; intro _) | ((fail_if_success (refine ybi rfl ?_)); refine ybj rfl ?_ ?_ <;> (intro ht; rw [ht]; first | replace ht := of_decide_eq_true ht | replace ht := of_decide_eq_false ht | skip)) | (refine ych ?_; first | (refine ybw rfl ?_ ?_ <;> intro ht) | (refine ybx rfl ?_ ?_ <;> intro ht)))
      refine nx_ret1 rfl (rv_tmp rfl) (fun w' s' => ⟨?_, s'.nil⟩)
      rw [List.take_of_length_le (by omega), List.take_of_length_le (by omega)] at hek
      rw [decide_eq_true hek]
  · repeat' (first | (refine ycf ?_; apply ybk; (· first | (exact tk_) | (apply yae; (· rfl); (· (first | exact sb_body' (hel _) hx.bs | exact sb_body' (hel2 _) hy.bs)))); (· rfl); (· rfl)) | refine t1_ ?_ | (refine ta_ ?_; intro _) | ((fail_if_success (refine ybi rfl ?_)); refine ybj rfl ?_ ?_ <;> (intro ht; rw [ht]; first | replace ht := of_decide_eq_true ht | replace ht := of_decide_eq_false ht | skip)) | (refine ych ?_; first | (refine ybw rfl ?_ ?_ <;> intro ht) | (refine ybx rfl ?_ ?_ <;> intro ht)))
    refine nx_ret1 rfl (rv_tmp rfl) (fun w' s' => ⟨?_, s'.nil⟩)
    rw [decide_eq_false (map_ne_len hlm)]
end Go.Proofs.Ytkkjppeaaicgaaa
end

section
namespace Go.Proofs.Ytkkjppeaaicgaaa
open Go Go.Ck
set_option maxRecDepth 100000
set_option maxHeartbeats 4000000
set_option linter.unusedVariables false

theorem stame_fits {T l : List Sb} (e : T.map Sb.a = (l.take 20).map fun x => cutA 40 100 x.a) : Fits T := by
  refine ⟨?_, fun x hx => ?_⟩
  · have := congrArg List.length e
    simp at this
    omega
  · have h2 : x.a ∈ (l.take 20).map fun x => cutA 40 100 x.a := by rw [← e]; exact List.mem_map_of_mem hx
    obtain ⟨y, _, e⟩ := List.mem_map.1 h2
    have e1 : x.l = y.l.take 40 := (congrArg (·.2.2.1) e).symm
    have e2 : x.b = y.b.take 100 := (congrArg (·.2.2.2) e).symm
    rw [e1, e2]
    simp
    omega
theorem fits_eq {T I : List Sb} (e : I.map Sb.a = T.map Sb.a) (f : Fits T) : Fits I := by
  refine ⟨?_, fun x hx => ?_⟩
  · have := congrArg List.length e
    simp at this
    rw [this]
    exact f.1
  · have h2 : x.a ∈ T.map Sb.a := by rw [← e]; exact List.mem_map_of_mem hx
    obtain ⟨y, hy, e⟩ := List.mem_map.1 h2
    have e1 : x.l = y.l := (congrArg (·.2.2.1) e).symm
    have e2 : x.b = y.b := (congrArg (·.2.2.2) e).symm
    rw [e1, e2]
    exact f.2 y hy
theorem fits_set {l : List Sb} (h : checkA (l.map Sb.a) = 0) : Fits l := by
  obtain ⟨c1, c2, _, _⟩ := checkA_ok h
  refine ⟨by rw [List.length_map] at c1; omega, fun x hx => ?_⟩
  obtain ⟨_, h2, _, h4⟩ := rightA_ok (c2 x.a (List.mem_map_of_mem hx))
  have h5 : x.l.length ≤ 32 := (check_right h2).2.1
  exact ⟨by omega, by have : x.b.length ≤ 16384 := h4; omega⟩
theorem mergeF_err {A B : List Ab} (h : (mergeF A B).2 ≠ 0) : (mergeF A B).1 = [] := by
  unfold mergeF at h ⊢
  split
  · rfl
  · split
    · rfl
    · split
      · rfl
      · rename_i h1 h2 h3
        simp [h1, h2, h3] at h
theorem fits_merged {M : List Sb} {A B : List Ab} (e : M.map Sb.a = (mergeF A B).1) : Fits M := by
  by_cases h : (mergeF A B).2 = 0
  · exact fits_set (by rw [e]; exact mergeF_set h)
  · rw [mergeF_err h] at e
    rw [List.map_eq_nil_iff.1 e]
    exact ⟨by simp, fun x hx => by cases hx⟩
theorem same_of {va vb : Value} {a b : List Sb} {h : View} (ha : Rs h va a) (hb : Rs h vb b) (fa : Fits a) (fb : Fits b) (w : World) (s : St ⟨w, h, []⟩ h [] w) :
    Calls Try.prog 23 [va, vb].toArray w fun e w' => e = .returned (.bool (decide (a.map Sb.a = b.map Sb.a))) ∧ St ⟨w, h, []⟩ h [] w' :=
  rsame_sp va vb a b h ha hb (by have := fa.1; omega) (by have := fb.1; omega) (fun x hx => by have := (fa.2 x hx).1; omega) (fun x hx => by have := (fb.2 x hx).1; omega) w s
theorem sme_of {va vb : Value} {a b : List Sb} {h : View} (ha : Ss h va a) (hb : Ss h vb b) (fa : Fits a) (fb : Fits b) (w : World) (s : St ⟨w, h, []⟩ h [] w) :
    Calls Try.prog 25 [va, vb].toArray w fun e w' => e = .returned (.bool (decide (a.map Sb.a = b.map Sb.a))) ∧ St ⟨w, h, []⟩ h [] w' :=
  sSame_sp va vb a b h ha hb (by have := fa.1; omega) (by have := fb.1; omega) (fun x hx => by have := (fa.2 x hx).1; omega) (fun x hx => by have := (fb.2 x hx).1; omega) w s
theorem sputF_sp (va : Value) (a : List Sb) (y : Sb) (h : View) (ha : Ss h va a) (hy : Sv h y) (fa : Fits a) (fy : y.l.length ≤ 1000000 ∧ y.b.length ≤ 1000000) (w : World) (s : St ⟨w, h, []⟩ h [] w) :
    Calls Try.prog 15 [va, sbv y].toArray w fun e w' => ∃ z : View × Value × List Sb, e = .returned (.tuple #[z.2.1, .int .i64 (mergeF (a.map Sb.a) [y.a]).2]) ∧ St ⟨w, h, []⟩ z.1 [] w' ∧ Ss z.1 z.2.1 z.2.2 ∧ z.2.2.map Sb.a = (mergeF (a.map Sb.a) [y.a]).1 := by
  refine (put_sp va a y h ha hy fa fy w s).mono ?_
  rintro e w' ⟨⟨h2, v2, M, er⟩, he, hs, hS, hM⟩
  have hf := merge_fun hM
  refine ⟨(h2, v2, M), ?_, hs, hS, ?_⟩
  · rw [show mergeF (a.map Sb.a) [y.a] = mergeF (a.map Sb.a) ([y].map Sb.a) from rfl, hf]; exact he
  · rw [show mergeF (a.map Sb.a) [y.a] = mergeF (a.map Sb.a) ([y].map Sb.a) from rfl, hf]

theorem SiblingMerges_sp (av bv : Value) (la lb : List Sb) (h : View) (ha : Rs h av la) (hb : Rs h bv lb) (hla : la.length ≤ 9223372036854775807) (hlla : ∀ x ∈ la, x.l.length ≤ 9223372036854775807 ∧ x.b.length ≤ 9223372036854775807)
    (hlb : lb.length ≤ 9223372036854775807) (hllb : ∀ x ∈ lb, x.l.length ≤ 9223372036854775807 ∧ x.b.length ≤ 9223372036854775807) (w : World) (s : St ⟨w, h, []⟩ h [] w) :
    Calls Try.prog 6 [av, bv].toArray w fun e w' => ∃ h', e = .returned (.bool true) ∧ St ⟨w, h, []⟩ h' [] w' := by
  refine calls_enter Try.func6 rfl Try.ntmps6 rfl s ?_
  repeat' (first | refine tw_ ?_ | (refine ta_ ?_; intro _) | ((fail_if_success (refine ybi rfl ?_)); refine ybj rfl ?_ ?_ <;> (intro ht; rw [ht]; first | replace ht := of_decide_eq_true ht | replace ht := of_decide_eq_false ht | skip)) | (refine ych ?_; first | (refine ybw rfl ?_ ?_ <;> intro ht) | (refine ybx rfl ?_ ?_ <;> intro ht)))
  (refine yco (ycp Try.func9 rfl (by kernel_rfl) rfl) (stame_sp av la h ha hla hlla) rfl rfl rfl ?_ ?_ ?_; (· (exact to_)); (· intro _ _ hle; (exact to_)); intro x px hle)
  obtain ⟨h1, v1, A⟩ := x
  obtain ⟨hA, eA⟩ := px
  dsimp only at hA eA
  have hle1 : Le h h1 := hle
  clear hle
  have fA := stame_fits eA
  repeat' (first | refine tw_ ?_ | (refine ta_ ?_; intro _) | ((fail_if_success (refine ybi rfl ?_)); refine ybj rfl ?_ ?_ <;> (intro ht; rw [ht]; first | replace ht := of_decide_eq_true ht | replace ht := of_decide_eq_false ht | skip)) | (refine ych ?_; first | (refine ybw rfl ?_ ?_ <;> intro ht) | (refine ybx rfl ?_ ?_ <;> intro ht)))
  (refine yco (ycp Try.func9 rfl (by kernel_rfl) rfl) (stame_sp bv lb h1 (hb.mono hle1) hlb hllb) rfl rfl rfl ?_ ?_ ?_; (· (exact to_)); (· intro _ _ hle; (exact to_)); intro x px hle)
  obtain ⟨h2, v2, B⟩ := x
  obtain ⟨hB, eB⟩ := px
  dsimp only at hB eB
  have hle2 : Le h1 h2 := hle
  clear hle
  have fB := stame_fits eB
  repeat' (first | refine tw_ ?_ | (refine ta_ ?_; intro _) | ((fail_if_success (refine ybi rfl ?_)); refine ybj rfl ?_ ?_ <;> (intro ht; rw [ht]; first | replace ht := of_decide_eq_true ht | replace ht := of_decide_eq_false ht | skip)) | (refine ych ?_; first | (refine ybw rfl ?_ ?_ <;> intro ht) | (refine ybx rfl ?_ ?_ <;> intro ht)))
  (refine yco (ycp Try.func10 rfl (by kernel_rfl) rfl) (sto_sp v1 A h2 (hA.mono hle2) fA) rfl rfl rfl ?_ ?_ ?_; (· (exact to_)); (· intro _ _ hle; (exact to_)); intro x px hle)
  obtain ⟨h3, v3, X⟩ := x
  obtain ⟨hX, eX⟩ := px
  dsimp only at hX eX
  have hle3 : Le h2 h3 := hle
  clear hle
  have fX := fits_eq eX fA
  repeat' (first | refine tw_ ?_ | (refine ta_ ?_; intro _) | ((fail_if_success (refine ybi rfl ?_)); refine ybj rfl ?_ ?_ <;> (intro ht; rw [ht]; first | replace ht := of_decide_eq_true ht | replace ht := of_decide_eq_false ht | skip)) | (refine ych ?_; first | (refine ybw rfl ?_ ?_ <;> intro ht) | (refine ybx rfl ?_ ?_ <;> intro ht)))
  (refine yco (ycp Try.func10 rfl (by kernel_rfl) rfl) (sto_sp v2 B h3 (hB.mono hle3) fB) rfl rfl rfl ?_ ?_ ?_; (· (exact to_)); (· intro _ _ hle; (exact to_)); intro x px hle)
  obtain ⟨h4, v4, Y⟩ := x
  obtain ⟨hY, eY⟩ := px
  dsimp only at hY eY
  have hle4 : Le h3 h4 := hle
  clear hle
  have fY := fits_eq eY fB
  have MG := smergeF_sp v3 v4 X Y h4 (hX.mono hle4) hY fX fY
  rw [eX, eY] at MG
  repeat' (first | refine tw_ ?_ | (refine ta_ ?_; intro _) | ((fail_if_success (refine ybi rfl ?_)); refine ybj rfl ?_ ?_ <;> (intro ht; rw [ht]; first | replace ht := of_decide_eq_true ht | replace ht := of_decide_eq_false ht | skip)) | (refine ych ?_; first | (refine ybw rfl ?_ ?_ <;> intro ht) | (refine ybx rfl ?_ ?_ <;> intro ht)))
  (refine yco (ycp Try.func26 rfl (by kernel_rfl) rfl) (MG) rfl rfl rfl ?_ ?_ ?_; (· (exact to_)); (· intro _ _ hle; (exact to_)); intro x px hle)
  obtain ⟨h5, v5, M⟩ := x
  obtain ⟨hM, eM⟩ := px
  dsimp only at hM eM
  have hle5 : Le h4 h5 := hle
  clear hle
  have fM := fits_merged eM
  have A5 := hA.mono (hle2.trans (hle3.trans (hle4.trans hle5)))
  have B5 := hB.mono (hle3.trans (hle4.trans hle5))
  have X5 := hX.mono (hle4.trans hle5)
  have Y5 := hY.mono hle5
  have MR := rmerge_sp v1 v2 A B h5 A5 B5 fA fB
  obtain ⟨⟨WM, er⟩, hW⟩ : ∃ p, p = mergeF (A.map Sb.a) (B.map Sb.a) := ⟨_, rfl⟩
  rw [← hW] at MR eM
  rw [← hW]
  repeat' (first | refine tw_ ?_ | (refine ta_ ?_; intro _) | ((fail_if_success (refine ybi rfl ?_)); refine ybj rfl ?_ ?_ <;> (intro ht; rw [ht]; first | replace ht := of_decide_eq_true ht | replace ht := of_decide_eq_false ht | skip)) | (refine ych ?_; first | (refine ybw rfl ?_ ?_ <;> intro ht) | (refine ybx rfl ?_ ?_ <;> intro ht)))
  (refine yco (ycp Try.func27 rfl (by kernel_rfl) rfl) (MR) rfl rfl rfl ?_ ?_ ?_; (· (exact to_)); (· intro _ _ hle; (exact to_)); intro x px hle)
  obtain ⟨h6, v6, M'⟩ := x
  obtain ⟨hM', eM'⟩ := px
  dsimp only at hM' eM' eM
  have hle6 : Le h5 h6 := hle
  clear hle
  have fM' : Fits M' := fits_eq (T := M) (by rw [eM', eM]) fM
  repeat' (first | (refine ycf ?_; apply ybk; (· first | (exact tk_)); (· rfl); (· rfl)) | refine t1_ ?_ | (refine ta_ ?_; intro _) | ((fail_if_success (refine ybi rfl ?_)); refine ybj rfl ?_ ?_ <;> (intro ht; rw [ht]; first | replace ht := of_decide_eq_true ht | replace ht := of_decide_eq_false ht | skip)) | (refine ych ?_; first | (refine ybw rfl ?_ ?_ <;> intro ht) | (refine ybx rfl ?_ ?_ <;> intro ht)))
  (refine ycn (ycp Try.func11 rfl (by kernel_rfl) rfl) (sets_sp h6) rfl rfl rfl ?_ ?_; (· (exact to_)))
  repeat' (first | (refine ycf ?_; apply ybk; (· first | (exact tk_)); (· rfl); (· rfl)) | refine t1_ ?_ | (refine ta_ ?_; intro _) | ((fail_if_success (refine ybi rfl ?_)); refine ybj rfl ?_ ?_ <;> (intro ht; rw [ht]; first | replace ht := of_decide_eq_true ht | replace ht := of_decide_eq_false ht | skip)) | (refine ych ?_; first | (refine ybw rfl ?_ ?_ <;> intro ht) | (refine ybx rfl ?_ ?_ <;> intro ht)))
  (refine yco (ycp Try.func28 rfl (by kernel_rfl) rfl) (sfrom_sp v5 M h6 (hM.mono hle6) fM) rfl rfl rfl ?_ ?_ ?_; (· (exact to_)); (· intro _ _ hle; (exact to_)); intro x px hle)
  obtain ⟨h7, v7, N⟩ := x
  obtain ⟨hN, eN⟩ := px
  dsimp only at hN eN
  have hle7 : Le h6 h7 := hle
  clear hle
  have fN := fits_eq eN fM
  have SM := same_of hN (hM'.mono hle7) fN fM'
  rw [decide_eq_true (show N.map Sb.a = M'.map Sb.a by rw [eN, eM, eM'])] at SM
  repeat' (first | (refine ycf ?_; apply ybk; (· first | (exact tk_)); (· rfl); (· rfl)) | refine t1_ ?_ | (refine ta_ ?_; intro _) | ((fail_if_success (refine ybi rfl ?_)); refine ybj rfl ?_ ?_ <;> (intro ht; rw [ht]; first | replace ht := of_decide_eq_true ht | replace ht := of_decide_eq_false ht | skip)) | (refine ych ?_; first | (refine ybw rfl ?_ ?_ <;> intro ht) | (refine ybx rfl ?_ ?_ <;> intro ht)))
  (refine ycn (ycp Try.func23 rfl (by kernel_rfl) rfl) (SM) rfl rfl rfl ?_ ?_; (· (exact to_)))
  repeat' (first | (refine ycf ?_; apply ybk; (· first | (exact tk_)); (· rfl); (· rfl)) | refine t1_ ?_ | (refine ta_ ?_; intro _) | ((fail_if_success (refine ybi rfl ?_)); refine ybj rfl ?_ ?_ <;> (intro ht; rw [ht]; first | replace ht := of_decide_eq_true ht | replace ht := of_decide_eq_false ht | skip)) | (refine ych ?_; first | (refine ybw rfl ?_ ?_ <;> intro ht) | (refine ybx rfl ?_ ?_ <;> intro ht)))
  have l57 := hle6.trans hle7
  have SX := sme_of (X5.mono l57) (Y5.mono l57) fX fY
  rw [eX, eY] at SX
  have SA := same_of (A5.mono l57) (B5.mono l57) fA fB
  generalize decide (A.map Sb.a = B.map Sb.a) = bb at SX SA
  (refine ycn (ycp Try.func25 rfl (by kernel_rfl) rfl) (SX) rfl rfl rfl ?_ ?_; (· (exact to_)))
  repeat' (first | (refine ycf ?_; apply ybk; (· first | (first | exact tk_ | (refine qv_neq_bool rfl rfl (by cases bb <;> rfl)))); (· rfl); (· rfl)) | refine t1_ ?_ | (refine ta_ ?_; intro _) | ((fail_if_success (refine ybi rfl ?_)); refine ybj rfl ?_ ?_ <;> (intro ht; rw [ht]; first | replace ht := of_decide_eq_true ht | replace ht := of_decide_eq_false ht | skip)) | (refine ych ?_; first | (refine ybw rfl ?_ ?_ <;> intro ht) | (refine ybx rfl ?_ ?_ <;> intro ht)))
  (refine ycn (ycp Try.func23 rfl (by kernel_rfl) rfl) (SA) rfl rfl rfl ?_ ?_; (· (exact to_)))
  repeat' (first | (refine ycf ?_; apply ybk; (· first | (first | exact tk_ | (refine qv_neq_bool rfl rfl (by cases bb <;> rfl)))); (· rfl); (· rfl)) | refine t1_ ?_ | (refine ta_ ?_; intro _) | ((fail_if_success (refine ybi rfl ?_)); refine ybj rfl ?_ ?_ <;> (intro ht; rw [ht]; first | replace ht := of_decide_eq_true ht | replace ht := of_decide_eq_false ht | skip)) | (refine ych ?_; first | (refine ybw rfl ?_ ?_ <;> intro ht) | (refine ybx rfl ?_ ?_ <;> intro ht)))
  (refine yco (ycp Try.func28 rfl (by kernel_rfl) rfl) (sfrom_sp v3 X h7 (X5.mono l57) fX) rfl rfl rfl ?_ ?_ ?_; (· (exact to_)); (· intro _ _ hle; (exact to_)); intro x px hle)
  obtain ⟨h8, v8, X'⟩ := x
  obtain ⟨hX', eX'⟩ := px
  dsimp only at hX' eX'
  have hle8 : Le h7 h8 := hle
  clear hle
  have fX' := fits_eq eX' fX
  have l58 := l57.trans hle8
  have SX' := same_of hX' (A5.mono l58) fX' fA
  rw [decide_eq_true (show X'.map Sb.a = A.map Sb.a by rw [eX', eX])] at SX'
  repeat' (first | (refine ycf ?_; apply ybk; (· first | (first | exact tk_ | (refine qv_neq_bool rfl rfl (by cases bb <;> rfl)))); (· rfl); (· rfl)) | refine t1_ ?_ | (refine ta_ ?_; intro _) | ((fail_if_success (refine ybi rfl ?_)); refine ybj rfl ?_ ?_ <;> (intro ht; rw [ht]; first | replace ht := of_decide_eq_true ht | replace ht := of_decide_eq_false ht | skip)) | (refine ych ?_; first | (refine ybw rfl ?_ ?_ <;> intro ht) | (refine ybx rfl ?_ ?_ <;> intro ht)))
  (refine ycn (ycp Try.func23 rfl (by kernel_rfl) rfl) (SX') rfl rfl rfl ?_ ?_; (· (exact to_)))
  repeat' (first | (refine ycf ?_; apply ybk; (· first | (first | exact tk_ | (refine qv_neq_bool rfl rfl (by cases bb <;> rfl)))); (· rfl); (· rfl)) | refine t1_ ?_ | (refine ta_ ?_; intro _) | ((fail_if_success (refine ybi rfl ?_)); refine ybj rfl ?_ ?_ <;> (intro ht; rw [ht]; first | replace ht := of_decide_eq_true ht | replace ht := of_decide_eq_false ht | skip)) | (refine ych ?_; first | (refine ybw rfl ?_ ?_ <;> intro ht) | (refine ybx rfl ?_ ?_ <;> intro ht)))
  (refine yco (ycp Try.func28 rfl (by kernel_rfl) rfl) (sfrom_sp v4 Y h8 (Y5.mono l58) fY) rfl rfl rfl ?_ ?_ ?_; (· (exact to_)); (· intro _ _ hle; (exact to_)); intro x px hle)
  obtain ⟨h9, v9, Y'⟩ := x
  obtain ⟨hY', eY'⟩ := px
  dsimp only at hY' eY'
  have hle9 : Le h8 h9 := hle
  clear hle
  have fY' := fits_eq eY' fY
  have l59 := l58.trans hle9
  have SY' := same_of hY' (B5.mono l59) fY' fB
  rw [decide_eq_true (show Y'.map Sb.a = B.map Sb.a by rw [eY', eY])] at SY'
  obtain ⟨_, adB, capB, hvB, _, _⟩ := id hB.1
  subst hvB
  obtain ⟨_, adY, capY, hvY, _, _⟩ := id hY.1
  subst hvY
  repeat' (first | (refine ycf ?_; apply ybk; (· first | (first | exact tk_ | (refine qv_neq_bool rfl rfl (by cases bb <;> rfl)))); (· rfl); (· rfl)) | refine t1_ ?_ | (refine ta_ ?_; intro _) | ((fail_if_success (refine ybi rfl ?_)); refine ybj rfl ?_ ?_ <;> (intro ht; rw [ht]; first | replace ht := of_decide_eq_true ht | replace ht := of_decide_eq_false ht | skip)) | (refine ych ?_; first | (refine ybw rfl ?_ ?_ <;> intro ht) | (refine ybx rfl ?_ ?_ <;> intro ht)))
  (refine ycn (ycp Try.func23 rfl (by kernel_rfl) rfl) (SY') rfl rfl rfl ?_ ?_; (· (exact to_)))
  by_cases h1 : B.length = 1
  · have hY9 := Y5.mono l59
    have lY : Y.length = 1 := by
      have := congrArg List.length eY
      simpa [h1] using this
    obtain ⟨y, hYy⟩ : ∃ y, Y = [y] := List.length_eq_one_iff.1 lY
    have hyv : Sv h9 y := hY9.2 y (by rw [hYy]; exact List.mem_singleton.2 rfl)
    have fy := fY.2 y (by rw [hYy]; exact List.mem_singleton.2 rfl)
    obtain ⟨bs, o, rfl⟩ := hY9.1.ad (by omega) (by omega)
    have hel : ∀ L, Cells h9 L ⟨bs, o + 0 * 20, none⟩ (sbc y) := fun L => by
      have := hY9.1.elem (L := L) sbc_len 0 (by omega)
      simp only [hYy, List.getElem_cons_zero] at this
      exact this
    have hyl := sbc_len y
    have PT := sputF_sp v3 X y h9 (X5.mono l59) hyv fX fy
    have eyB : [y.a] = B.map Sb.a := by rw [← eY, hYy]; rfl
    rw [eX, eyB, ← hW] at PT
    repeat' (first | (refine ycf ?_; apply ybk; (· first | (first | exact tk_ | (apply yad; (· rfl); (· exact hel _); (· exact hyl)))); (· rfl); (· rfl)) | refine t1_ ?_ | (refine ta_ ?_; intro _) | ((fail_if_success (refine ybi rfl ?_)); refine ybj rfl ?_ ?_ <;> (intro ht; rw [ht]; first | replace ht := of_decide_eq_true ht | replace ht := of_decide_eq_false ht | skip)) | (refine ych ?_; first | (refine ybw rfl ?_ ?_ <;> intro ht) | (refine ybx rfl ?_ ?_ <;> intro ht)))
    (refine yco (ycp Try.func15 rfl (by kernel_rfl) rfl) (PT) rfl rfl rfl ?_ ?_ ?_; (· (exact to_)); (· intro _ _ hle; (exact to_)); intro x px hle)
    obtain ⟨h10, v10, P⟩ := x
    obtain ⟨hP, eP⟩ := px
    dsimp only at hP eP
    have hle10 : Le h9 h10 := hle
    clear hle
    have fP : Fits P := fits_eq (T := M) (by rw [eP, eM]) fM
    have SP := sme_of hP (hM.mono (l59.trans hle10)) fP fM
    rw [decide_eq_true (show P.map Sb.a = M.map Sb.a by rw [eP, eM])] at SP
    repeat' (first | (refine ycf ?_; apply ybk; (· first | (first | exact tk_ | (apply yad; (· rfl); (· exact hel _); (· exact hyl)))); (· rfl); (· rfl)) | refine t1_ ?_ | (refine ta_ ?_; intro _) | ((fail_if_success (refine ybi rfl ?_)); refine ybj rfl ?_ ?_ <;> (intro ht; rw [ht]; first | replace ht := of_decide_eq_true ht | replace ht := of_decide_eq_false ht | skip)) | (refine ych ?_; first | (refine ybw rfl ?_ ?_ <;> intro ht) | (refine ybx rfl ?_ ?_ <;> intro ht)))
    (refine ycn (ycp Try.func25 rfl (by kernel_rfl) rfl) (SP) rfl rfl rfl ?_ ?_; (· (exact to_)))
    repeat' (first | (refine ycf ?_; apply ybk; (· first | (first | exact tk_ | (apply yad; (· rfl); (· exact hel _); (· exact hyl)))); (· rfl); (· rfl)) | refine t1_ ?_ | (refine ta_ ?_; intro _) | ((fail_if_success (refine ybi rfl ?_)); refine ybj rfl ?_ ?_ <;> (intro ht; rw [ht]; first | replace ht := of_decide_eq_true ht | replace ht := of_decide_eq_false ht | skip)) | (refine ych ?_; first | (refine ybw rfl ?_ ?_ <;> intro ht) | (refine ybx rfl ?_ ?_ <;> intro ht)))
    exact nx_ret1 rfl (rv_tmp rfl) (fun w' s' => ⟨h, rfl, s'.nil.base⟩)
  · --
    repeat' (first | (refine ycf ?_; apply ybk; (· first | (exact tk_)); (· rfl); (· rfl)) | refine t1_ ?_ | (refine ta_ ?_; intro _) | ((fail_if_success (refine ybi rfl ?_)); refine ybj rfl ?_ ?_ <;> (intro ht; rw [ht]; first | replace ht := of_decide_eq_true ht | replace ht := of_decide_eq_false ht | skip)) | (refine ych ?_; first | (refine ybw rfl ?_ ?_ <;> intro ht) | (refine ybx rfl ?_ ?_ <;> intro ht)))
    exact nx_ret1 rfl (rv_tmp rfl) (fun w' s' => ⟨h, rfl, s'.nil.base⟩)
end Go.Proofs.Ytkkjppeaaicgaaa
end

section
namespace Go.Ck
open Go
section
variable {P : Program} {n : Nat} {K : Bs} {F : List (Nat × Value)} {h : View} {L : List Res} {Q : Exit → Act → World → Prop}
theorem cx_less {c : Code} (F' : List (Nat × Value)) (hs : Sub F' F) (hx : CX P n K c F' h L Q) : CX P n K c F h L Q := by
  unfold CX at *
  exact fun a w f s => hx a w (f.sub hs) s
theorem rx_less {g : Rg} {prs : List (Nat × Oper)} (F' : List (Nat × Value)) (hs : Sub F' F) (hx : RX P n K g prs F' h L Q) : RX P n K g prs F h L Q := by
  unfold RX at *
  exact fun a w f s => hx a w (f.sub hs) s
end
end Go.Ck
end
