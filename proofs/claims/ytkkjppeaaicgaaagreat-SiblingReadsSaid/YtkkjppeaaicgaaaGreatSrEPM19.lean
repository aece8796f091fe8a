/-
  The statement SiblingReadsSaid is proved: the law SiblingReads returns true for every input, and its argument reads as it did.
  Conditions: none.
-/
import Derived.Deep.Slices
import Derived.Carry
import Derived.DataReads
import Derived.DataShut
import Derived.Test.YtkkjppeaaicgaaaGreatRows
import Derived.WalkKit
import Derived.ProofKit
import Derived.OpenShut
import Derived.Test.YtkkjppeaaicgaaaGreatSrEPM18
section
namespace Go.Proofs.YtkkjppeaaicgaaaGreat
open Go Go.Ck
set_option maxRecDepth 100000
set_option maxHeartbeats 4000000
set_option linter.unusedVariables false

theorem rsame_sp (va vb : Value) (a b : List Sb) (h : View) (ha : Rs h va a) (hb : Rs h vb b) (hl : a.length ≤ 4611686018427387904) (hm : b.length ≤ 4611686018427387904) (lla : ∀ x ∈ a, x.l.length ≤ 4611686018427387904) (llb : ∀ x ∈ b, x.l.length ≤ 4611686018427387904) (w : World) (s : St ⟨w, h, []⟩ h [] w) :
    Calls Tryz.prog 7 [va, vb].toArray w fun e w' => e = .returned (.bool (decide (a.map Sb.a = b.map Sb.a))) ∧ St ⟨w, h, []⟩ h [] w' := by
  obtain ⟨hs, hsv⟩ := ha
  obtain ⟨hs2, hsv2⟩ := hb
  obtain ⟨_, ad, cap, rfl, hcap, _⟩ := id hs
  obtain ⟨_, ad2, cap2, rfl, hcap2, _⟩ := id hs2
  refine calls_enter Tryz.func7 rfl Tryz.ntmps7 rfl s ?_
  by_cases hlm : a.length = b.length
  · repeat' (first | (refine ycf ?_; apply ybk; (· first | (exact tk_)); (· rfl); (· rfl)) | refine t1_ ?_ | (refine ta_ ?_; intro _) | ((fail_if_success (refine ybi rfl ?_)); refine ybj rfl ?_ ?_ <;> (intro ht; rw [ht]; first | replace ht := of_decide_eq_true ht | replace ht := of_decide_eq_false ht | skip)) | (refine ych ?_; first | (refine ybw rfl ?_ ?_ <;> intro ht) | (refine ybx rfl ?_ ?_ <;> intro ht)))
    refine cx_loop (X := Nat) (fun k => [(0, .slice ad a.length cap), (1, .slice ad2 b.length cap2), (5, .int .i64 k)]) (fun _ => h) (fun _ => []) (fun k => k ≤ a.length ∧ (a.take k).map Sb.a = (b.take k).map Sb.a) (fun k => a.length - k) 0 ⟨by omega, by simp⟩ ts_ (fun _ s => s) ?_
    rintro k ⟨hk, hek⟩
    by_cases hkl : k < a.length
    · have hkm : k < b.length := by omega
      obtain ⟨bs, o, rfl⟩ := hs.ad (by omega) (by omega)
      obtain ⟨bs2, o2, rfl⟩ := hs2.ad (by omega) (by omega)
      have hel : ∀ L, Cells h L ⟨bs, o + k * 20, none⟩ (sbc a[k]) := fun L => hs.elem sbc_len k hkl
      have hel2 : ∀ L, Cells h L ⟨bs2, o2 + k * 20, none⟩ (sbc b[k]) := fun L => hs2.elem sbc_len k hkm
      have hx := hsv _ (List.getElem_mem hkl)
      have hy := hsv2 _ (List.getElem_mem hkm)
      have hlx := lla _ (List.getElem_mem hkl)
      have hly := llb _ (List.getElem_mem hkm)
      have ta : a.take (k + 1) = a.take k ++ [a[k]] := List.take_succ_eq_append_getElem hkl
      have tb : b.take (k + 1) = b.take k ++ [b[k]] := List.take_succ_eq_append_getElem hkm
      have hne : a[k].a ≠ b[k].a → a.map Sb.a ≠ b.map Sb.a := fun hn e => hn (by
        have := congrArg (fun l : List Ab => l[k]?) e
        simpa [hkl, hkm] using this)
      have C1 := refSame_sp _ _ a[k].u b[k].u a[k].l b[k].l h ⟨a[k].hu, _, rfl, hx.ds⟩ ⟨b[k].hu, _, rfl, hy.ds⟩ (by omega) (by omega)
      generalize a[k] = x1 at hel ta hne hx C1
      generalize b[k] = y1 at hel2 tb hne hy C1
      have hbe := bstr_eq hx.by8 hy.by8
      have hu1 := x1.hu
      have hu2 := y1.hu
      by_cases hd : x1.d = y1.d
      · have hde : decide (x1.d = y1.d) = true := decide_eq_true hd
        by_cases hp : x1.u = y1.u ∧ x1.l = y1.l
        · rw [decide_eq_true hp.1, decide_eq_true hp.2, Bool.true_and] at C1
          by_cases hb : x1.b = y1.b
          · --
            repeat' (first|(refine ycf ?_;apply ybk;(·first|(first|exact tk_|(refine qv_neq_agg (t := true) rfl rfl (fun w => by rw [← hde];exact dot_eq _ _ w))|(apply yad;(·rfl);(·exact sb_dot (hel _));(·rfl))|(apply yad;(·rfl);(·exact sb_dot (hel2 _));(·rfl))|(apply yad;(·rfl);(·exact sb_past (hel _));(·exact ycj hu1))|(apply yad;(·rfl);(·exact sb_past (hel2 _));(·exact ycj hu2))|(apply qv_neq_str (t := false);(·rfl);(·rfl);(·rw [hbe, decide_eq_true hb];rfl)))|(apply yae;(·rfl);(·(first|exact sb_body' (hel _) hx.bs|exact sb_body' (hel2 _) hy.bs))));(·rfl);(·rfl))|refine t1_ ?_|(refine ta_ ?_;intro _)|((fail_if_success (refine ybi rfl ?_));refine ybj rfl ?_ ?_<;>(intro ht;rw [ht];first|replace ht := of_decide_eq_true ht|replace ht := of_decide_eq_false ht|skip))|(refine ych ?_;first|(refine ybw rfl ?_ ?_<;>intro ht)|(refine ybx rfl ?_ ?_<;>intro ht)))
            refine cx_region_draw' rfl (by kernel_rfl) ?_
            repeat' (refine ycf ?_;(first|(first|(apply ybm;(·(first|(first|exact tk_|(refine qv_neq_agg (t := true) rfl rfl (fun w => by rw [← hde];exact dot_eq _ _ w))|(apply yad;(·rfl);(·exact sb_dot (hel _));(·rfl))|(apply yad;(·rfl);(·exact sb_dot (hel2 _));(·rfl))|(apply yad;(·rfl);(·exact sb_past (hel _));(·exact ycj hu1))|(apply yad;(·rfl);(·exact sb_past (hel2 _));(·exact ycj hu2))|(apply qv_neq_str (t := false);(·rfl);(·rfl);(·rw [hbe, decide_eq_true hb];rfl)))|(apply yae;(·rfl);(·(first|exact sb_body' (hel _) hx.bs|exact sb_body' (hel2 _) hy.bs)))|exact tq_));(·rfl);(·rfl);(·(exact th_)))|refine ybl rfl rfl ?_|((fail_if_success (refine ybi rfl ?_));refine ybj rfl ?_ ?_<;>(intro ht;rw [ht];first|replace ht := of_decide_eq_true ht|replace ht := of_decide_eq_false ht|skip))|(refine tb_ ?_ ?_ ?_;(·(exact to_));(·intro _;(exact to_));intro _)|(first|(refine tqs_ ?_ ?_ ?_;(·(exact to_));(·(exact to_))))|(apply ybn;(·(first|(first|exact tk_|(refine qv_neq_agg (t := true) rfl rfl (fun w => by rw [← hde];exact dot_eq _ _ w))|(apply yad;(·rfl);(·exact sb_dot (hel _));(·rfl))|(apply yad;(·rfl);(·exact sb_dot (hel2 _));(·rfl))|(apply yad;(·rfl);(·exact sb_past (hel _));(·exact ycj hu1))|(apply yad;(·rfl);(·exact sb_past (hel2 _));(·exact ycj hu2))|(apply qv_neq_str (t := false);(·rfl);(·rfl);(·rw [hbe, decide_eq_true hb];rfl)))|(apply yae;(·rfl);(·(first|exact sb_body' (hel _) hx.bs|exact sb_body' (hel2 _) hy.bs)))|exact tq_));(·rfl);(·rfl);(·rfl);(·(exact to_))))|refine ycg ?_))
            (refine ycn (ycp Tryz.func25 rfl (by kernel_rfl) rfl) (C1) rfl rfl rfl ?_ ?_; (· (exact to_)))
            repeat' (refine ycf ?_;(first|(first|(apply ybm;(·(first|(first|exact tk_|(refine qv_neq_agg (t := true) rfl rfl (fun w => by rw [← hde];exact dot_eq _ _ w))|(apply yad;(·rfl);(·exact sb_dot (hel _));(·rfl))|(apply yad;(·rfl);(·exact sb_dot (hel2 _));(·rfl))|(apply yad;(·rfl);(·exact sb_past (hel _));(·exact ycj hu1))|(apply yad;(·rfl);(·exact sb_past (hel2 _));(·exact ycj hu2))|(apply qv_neq_str (t := false);(·rfl);(·rfl);(·rw [hbe, decide_eq_true hb];rfl)))|(apply yae;(·rfl);(·(first|exact sb_body' (hel _) hx.bs|exact sb_body' (hel2 _) hy.bs)))|exact tq_));(·rfl);(·rfl);(·(exact th_)))|refine ybl rfl rfl ?_|((fail_if_success (refine ybi rfl ?_));refine ybj rfl ?_ ?_<;>(intro ht;rw [ht];first|replace ht := of_decide_eq_true ht|replace ht := of_decide_eq_false ht|skip))|(refine tb_ ?_ ?_ ?_;(·(exact to_));(·intro _;(exact to_));intro _)|(first|(refine tqs_ ?_ ?_ ?_;(·(exact to_));(·(exact to_))))|(apply ybn;(·(first|(first|exact tk_|(refine qv_neq_agg (t := true) rfl rfl (fun w => by rw [← hde];exact dot_eq _ _ w))|(apply yad;(·rfl);(·exact sb_dot (hel _));(·rfl))|(apply yad;(·rfl);(·exact sb_dot (hel2 _));(·rfl))|(apply yad;(·rfl);(·exact sb_past (hel _));(·exact ycj hu1))|(apply yad;(·rfl);(·exact sb_past (hel2 _));(·exact ycj hu2))|(apply qv_neq_str (t := false);(·rfl);(·rfl);(·rw [hbe, decide_eq_true hb];rfl)))|(apply yae;(·rfl);(·(first|exact sb_body' (hel _) hx.bs|exact sb_body' (hel2 _) hy.bs)))|exact tq_));(·rfl);(·rfl);(·rfl);(·(exact to_))))|refine ycg ?_))
            repeat' (first|(refine ycf ?_;apply ybk;(·first|(first|exact tk_|(refine qv_neq_agg (t := true) rfl rfl (fun w => by rw [← hde];exact dot_eq _ _ w))|(apply yad;(·rfl);(·exact sb_dot (hel _));(·rfl))|(apply yad;(·rfl);(·exact sb_dot (hel2 _));(·rfl))|(apply yad;(·rfl);(·exact sb_past (hel _));(·exact ycj hu1))|(apply yad;(·rfl);(·exact sb_past (hel2 _));(·exact ycj hu2))|(apply qv_neq_str (t := false);(·rfl);(·rfl);(·rw [hbe, decide_eq_true hb];rfl)))|(apply yae;(·rfl);(·(first|exact sb_body' (hel _) hx.bs|exact sb_body' (hel2 _) hy.bs))));(·rfl);(·rfl))|refine t1_ ?_|(refine ta_ ?_;intro _)|((fail_if_success (refine ybi rfl ?_));refine ybj rfl ?_ ?_<;>(intro ht;rw [ht];first|replace ht := of_decide_eq_true ht|replace ht := of_decide_eq_false ht|skip))|(refine ych ?_;first|(refine ybw rfl ?_ ?_<;>intro ht)|(refine ybx rfl ?_ ?_<;>intro ht)))
            refine nx_round (k + 1) ⟨by omega, ?_⟩ (by omega) ts_ (fun _ s => s)
            rw [ta, tb, List.map_append, List.map_append, hek]
            congr 1
            show [x1.a] = [y1.a]
            show [(x1.d, x1.u, x1.l, x1.b)] = [(y1.d, y1.u, y1.l, y1.b)]
            rw [hd, hp.1, hp.2, hb]
          · --
            repeat' (first|(refine ycf ?_;apply ybk;(·first|(first|exact tk_|(refine qv_neq_agg (t := true) rfl rfl (fun w => by rw [← hde];exact dot_eq _ _ w))|(apply yad;(·rfl);(·exact sb_dot (hel _));(·rfl))|(apply yad;(·rfl);(·exact sb_dot (hel2 _));(·rfl))|(apply yad;(·rfl);(·exact sb_past (hel _));(·exact ycj hu1))|(apply yad;(·rfl);(·exact sb_past (hel2 _));(·exact ycj hu2))|(apply qv_neq_str (t := true);(·rfl);(·rfl);(·rw [hbe, decide_eq_false hb];rfl)))|(apply yae;(·rfl);(·(first|exact sb_body' (hel _) hx.bs|exact sb_body' (hel2 _) hy.bs))));(·rfl);(·rfl))|refine t1_ ?_|(refine ta_ ?_;intro _)|((fail_if_success (refine ybi rfl ?_));refine ybj rfl ?_ ?_<;>(intro ht;rw [ht];first|replace ht := of_decide_eq_true ht|replace ht := of_decide_eq_false ht|skip))|(refine ych ?_;first|(refine ybw rfl ?_ ?_<;>intro ht)|(refine ybx rfl ?_ ?_<;>intro ht)))
            refine cx_region_draw' rfl (by kernel_rfl) ?_
            repeat' (refine ycf ?_;(first|(first|(apply ybm;(·(first|(first|exact tk_|(refine qv_neq_agg (t := true) rfl rfl (fun w => by rw [← hde];exact dot_eq _ _ w))|(apply yad;(·rfl);(·exact sb_dot (hel _));(·rfl))|(apply yad;(·rfl);(·exact sb_dot (hel2 _));(·rfl))|(apply yad;(·rfl);(·exact sb_past (hel _));(·exact ycj hu1))|(apply yad;(·rfl);(·exact sb_past (hel2 _));(·exact ycj hu2))|(apply qv_neq_str (t := true);(·rfl);(·rfl);(·rw [hbe, decide_eq_false hb];rfl)))|(apply yae;(·rfl);(·(first|exact sb_body' (hel _) hx.bs|exact sb_body' (hel2 _) hy.bs)))|exact tq_));(·rfl);(·rfl);(·(exact th_)))|refine ybl rfl rfl ?_|((fail_if_success (refine ybi rfl ?_));refine ybj rfl ?_ ?_<;>(intro ht;rw [ht];first|replace ht := of_decide_eq_true ht|replace ht := of_decide_eq_false ht|skip))|(refine tb_ ?_ ?_ ?_;(·(exact to_));(·intro _;(exact to_));intro _)|(first|(refine tqs_ ?_ ?_ ?_;(·(exact to_));(·(exact to_))))|(apply ybn;(·(first|(first|exact tk_|(refine qv_neq_agg (t := true) rfl rfl (fun w => by rw [← hde];exact dot_eq _ _ w))|(apply yad;(·rfl);(·exact sb_dot (hel _));(·rfl))|(apply yad;(·rfl);(·exact sb_dot (hel2 _));(·rfl))|(apply yad;(·rfl);(·exact sb_past (hel _));(·exact ycj hu1))|(apply yad;(·rfl);(·exact sb_past (hel2 _));(·exact ycj hu2))|(apply qv_neq_str (t := true);(·rfl);(·rfl);(·rw [hbe, decide_eq_false hb];rfl)))|(apply yae;(·rfl);(·(first|exact sb_body' (hel _) hx.bs|exact sb_body' (hel2 _) hy.bs)))|exact tq_));(·rfl);(·rfl);(·rfl);(·(exact to_))))|refine ycg ?_))
            (refine ycn (ycp Tryz.func25 rfl (by kernel_rfl) rfl) (C1) rfl rfl rfl ?_ ?_; (· (exact to_)))
            repeat' (refine ycf ?_;(first|(first|(apply ybm;(·(first|(first|exact tk_|(refine qv_neq_agg (t := true) rfl rfl (fun w => by rw [← hde];exact dot_eq _ _ w))|(apply yad;(·rfl);(·exact sb_dot (hel _));(·rfl))|(apply yad;(·rfl);(·exact sb_dot (hel2 _));(·rfl))|(apply yad;(·rfl);(·exact sb_past (hel _));(·exact ycj hu1))|(apply yad;(·rfl);(·exact sb_past (hel2 _));(·exact ycj hu2))|(apply qv_neq_str (t := true);(·rfl);(·rfl);(·rw [hbe, decide_eq_false hb];rfl)))|(apply yae;(·rfl);(·(first|exact sb_body' (hel _) hx.bs|exact sb_body' (hel2 _) hy.bs)))|exact tq_));(·rfl);(·rfl);(·(exact th_)))|refine ybl rfl rfl ?_|((fail_if_success (refine ybi rfl ?_));refine ybj rfl ?_ ?_<;>(intro ht;rw [ht];first|replace ht := of_decide_eq_true ht|replace ht := of_decide_eq_false ht|skip))|(refine tb_ ?_ ?_ ?_;(·(exact to_));(·intro _;(exact to_));intro _)|(first|(refine tqs_ ?_ ?_ ?_;(·(exact to_));(·(exact to_))))|(apply ybn;(·(first|(first|exact tk_|(refine qv_neq_agg (t := true) rfl rfl (fun w => by rw [← hde];exact dot_eq _ _ w))|(apply yad;(·rfl);(·exact sb_dot (hel _));(·rfl))|(apply yad;(·rfl);(·exact sb_dot (hel2 _));(·rfl))|(apply yad;(·rfl);(·exact sb_past (hel _));(·exact ycj hu1))|(apply yad;(·rfl);(·exact sb_past (hel2 _));(·exact ycj hu2))|(apply qv_neq_str (t := true);(·rfl);(·rfl);(·rw [hbe, decide_eq_false hb];rfl)))|(apply yae;(·rfl);(·(first|exact sb_body' (hel _) hx.bs|exact sb_body' (hel2 _) hy.bs)))|exact tq_));(·rfl);(·rfl);(·rfl);(·(exact to_))))|refine ycg ?_))
            repeat' (first|(refine ycf ?_;apply ybk;(·first|(first|exact tk_|(refine qv_neq_agg (t := true) rfl rfl (fun w => by rw [← hde];exact dot_eq _ _ w))|(apply yad;(·rfl);(·exact sb_dot (hel _));(·rfl))|(apply yad;(·rfl);(·exact sb_dot (hel2 _));(·rfl))|(apply yad;(·rfl);(·exact sb_past (hel _));(·exact ycj hu1))|(apply yad;(·rfl);(·exact sb_past (hel2 _));(·exact ycj hu2))|(apply qv_neq_str (t := true);(·rfl);(·rfl);(·rw [hbe, decide_eq_false hb];rfl)))|(apply yae;(·rfl);(·(first|exact sb_body' (hel _) hx.bs|exact sb_body' (hel2 _) hy.bs))));(·rfl);(·rfl))|refine t1_ ?_|(refine ta_ ?_;intro _)|((fail_if_success (refine ybi rfl ?_));refine ybj rfl ?_ ?_<;>(intro ht;rw [ht];first|replace ht := of_decide_eq_true ht|replace ht := of_decide_eq_false ht|skip))|(refine ych ?_;first|(refine ybw rfl ?_ ?_<;>intro ht)|(refine ybx rfl ?_ ?_<;>intro ht)))
            refine nx_ret1 rfl (rv_tmp rfl) (fun w' s' => ⟨?_, s'.nil⟩)
            rw [decide_eq_false (hne fun e => hb (congrArg (·.2.2.2) e))]
        · have hpf : (decide (x1.u = y1.u) && decide (x1.l = y1.l)) = false := by
            rw [← Bool.decide_and]; exact decide_eq_false hp
          rw [hpf] at C1
          repeat' (first|(refine ycf ?_;apply ybk;(·first|(first|exact tk_|(refine qv_neq_agg (t := true) rfl rfl (fun w => by rw [← hde];exact dot_eq _ _ w))|(apply yad;(·rfl);(·exact sb_dot (hel _));(·rfl))|(apply yad;(·rfl);(·exact sb_dot (hel2 _));(·rfl))|(apply yad;(·rfl);(·exact sb_past (hel _));(·exact ycj hu1))|(apply yad;(·rfl);(·exact sb_past (hel2 _));(·exact ycj hu2)))|(apply yae;(·rfl);(·(first|exact sb_body' (hel _) hx.bs|exact sb_body' (hel2 _) hy.bs))));(·rfl);(·rfl))|refine t1_ ?_|(refine ta_ ?_;intro _)|((fail_if_success (refine ybi rfl ?_));refine ybj rfl ?_ ?_<;>(intro ht;rw [ht];first|replace ht := of_decide_eq_true ht|replace ht := of_decide_eq_false ht|skip))|(refine ych ?_;first|(refine ybw rfl ?_ ?_<;>intro ht)|(refine ybx rfl ?_ ?_<;>intro ht)))
          refine cx_region_draw' rfl (by kernel_rfl) ?_
          repeat' (refine ycf ?_;(first|(first|(apply ybm;(·(first|(first|exact tk_|(refine qv_neq_agg (t := true) rfl rfl (fun w => by rw [← hde];exact dot_eq _ _ w))|(apply yad;(·rfl);(·exact sb_dot (hel _));(·rfl))|(apply yad;(·rfl);(·exact sb_dot (hel2 _));(·rfl))|(apply yad;(·rfl);(·exact sb_past (hel _));(·exact ycj hu1))|(apply yad;(·rfl);(·exact sb_past (hel2 _));(·exact ycj hu2)))|(apply yae;(·rfl);(·(first|exact sb_body' (hel _) hx.bs|exact sb_body' (hel2 _) hy.bs)))|exact tq_));(·rfl);(·rfl);(·(exact th_)))|refine ybl rfl rfl ?_|((fail_if_success (refine ybi rfl ?_));refine ybj rfl ?_ ?_<;>(intro ht;rw [ht];first|replace ht := of_decide_eq_true ht|replace ht := of_decide_eq_false ht|skip))|(refine tb_ ?_ ?_ ?_;(·(exact to_));(·intro _;(exact to_));intro _)|(first|(refine tqs_ ?_ ?_ ?_;(·(exact to_));(·(exact to_))))|(apply ybn;(·(first|(first|exact tk_|(refine qv_neq_agg (t := true) rfl rfl (fun w => by rw [← hde];exact dot_eq _ _ w))|(apply yad;(·rfl);(·exact sb_dot (hel _));(·rfl))|(apply yad;(·rfl);(·exact sb_dot (hel2 _));(·rfl))|(apply yad;(·rfl);(·exact sb_past (hel _));(·exact ycj hu1))|(apply yad;(·rfl);(·exact sb_past (hel2 _));(·exact ycj hu2)))|(apply yae;(·rfl);(·(first|exact sb_body' (hel _) hx.bs|exact sb_body' (hel2 _) hy.bs)))|exact tq_));(·rfl);(·rfl);(·rfl);(·(exact to_))))|refine ycg ?_))
          (refine ycn (ycp Tryz.func25 rfl (by kernel_rfl) rfl) (C1) rfl rfl rfl ?_ ?_; (· (exact to_)))
          repeat' (refine ycf ?_;(first|(first|(apply ybm;(·(first|(first|exact tk_|(refine qv_neq_agg (t := true) rfl rfl (fun w => by rw [← hde];exact dot_eq _ _ w))|(apply yad;(·rfl);(·exact sb_dot (hel _));(·rfl))|(apply yad;(·rfl);(·exact sb_dot (hel2 _));(·rfl))|(apply yad;(·rfl);(·exact sb_past (hel _));(·exact ycj hu1))|(apply yad;(·rfl);(·exact sb_past (hel2 _));(·exact ycj hu2)))|(apply yae;(·rfl);(·(first|exact sb_body' (hel _) hx.bs|exact sb_body' (hel2 _) hy.bs)))|exact tq_));(·rfl);(·rfl);(·(exact th_)))|refine ybl rfl rfl ?_|((fail_if_success (refine ybi rfl ?_));refine ybj rfl ?_ ?_<;>(intro ht;rw [ht];first|replace ht := of_decide_eq_true ht|replace ht := of_decide_eq_false ht|skip))|(refine tb_ ?_ ?_ ?_;(·(exact to_));(·intro _;(exact to_));intro _)|(first|(refine tqs_ ?_ ?_ ?_;(·(exact to_));(·(exact to_))))|(apply ybn;(·(first|(first|exact tk_|(refine qv_neq_agg (t := true) rfl rfl (fun w => by rw [← hde];exact dot_eq _ _ w))|(apply yad;(·rfl);(·exact sb_dot (hel _));(·rfl))|(apply yad;(·rfl);(·exact sb_dot (hel2 _));(·rfl))|(apply yad;(·rfl);(·exact sb_past (hel _));(·exact ycj hu1))|(apply yad;(·rfl);(·exact sb_past (hel2 _));(·exact ycj hu2)))|(apply yae;(·rfl);(·(first|exact sb_body' (hel _) hx.bs|exact sb_body' (hel2 _) hy.bs)))|exact tq_));(·rfl);(·rfl);(·rfl);(·(exact to_))))|refine ycg ?_))
          repeat' (first|(refine ycf ?_;apply ybk;(·first|(first|exact tk_|(refine qv_neq_agg (t := true) rfl rfl (fun w => by rw [← hde];exact dot_eq _ _ w))|(apply yad;(·rfl);(·exact sb_dot (hel _));(·rfl))|(apply yad;(·rfl);(·exact sb_dot (hel2 _));(·rfl))|(apply yad;(·rfl);(·exact sb_past (hel _));(·exact ycj hu1))|(apply yad;(·rfl);(·exact sb_past (hel2 _));(·exact ycj hu2)))|(apply yae;(·rfl);(·(first|exact sb_body' (hel _) hx.bs|exact sb_body' (hel2 _) hy.bs))));(·rfl);(·rfl))|refine t1_ ?_|(refine ta_ ?_;intro _)|((fail_if_success (refine ybi rfl ?_));refine ybj rfl ?_ ?_<;>(intro ht;rw [ht];first|replace ht := of_decide_eq_true ht|replace ht := of_decide_eq_false ht|skip))|(refine ych ?_;first|(refine ybw rfl ?_ ?_<;>intro ht)|(refine ybx rfl ?_ ?_<;>intro ht)))
          refine nx_ret1 rfl (rv_tmp rfl) (fun w' s' => ⟨?_, s'.nil⟩)
          rw [decide_eq_false (hne fun e => hp ⟨congrArg (·.2.1) e, congrArg (·.2.2.1) e⟩)]
      · have hde : decide (x1.d = y1.d) = false := decide_eq_false hd
        repeat' (first|(refine ycf ?_;apply ybk;(·first|(first|exact tk_|(refine qv_neq_agg (t := false) rfl rfl (fun w => by rw [← hde];exact dot_eq _ _ w))|(apply yad;(·rfl);(·exact sb_dot (hel _));(·rfl))|(apply yad;(·rfl);(·exact sb_dot (hel2 _));(·rfl)))|(apply yae;(·rfl);(·(first|exact sb_body' (hel _) hx.bs|exact sb_body' (hel2 _) hy.bs))));(·rfl);(·rfl))|refine t1_ ?_|(refine ta_ ?_;intro _)|((fail_if_success (refine ybi rfl ?_));refine ybj rfl ?_ ?_<;>(intro ht;rw [ht];first|replace ht := of_decide_eq_true ht|replace ht := of_decide_eq_false ht|skip))|(refine ych ?_;first|(refine ybw rfl ?_ ?_<;>intro ht)|(refine ybx rfl ?_ ?_<;>intro ht)))
        refine cx_region_draw' rfl (by kernel_rfl) ?_
        repeat' (refine ycf ?_;(first|(first|(apply ybm;(·(first|(first|exact tk_|(refine qv_neq_agg (t := false) rfl rfl (fun w => by rw [← hde];exact dot_eq _ _ w))|(apply yad;(·rfl);(·exact sb_dot (hel _));(·rfl))|(apply yad;(·rfl);(·exact sb_dot (hel2 _));(·rfl)))|(apply yae;(·rfl);(·(first|exact sb_body' (hel _) hx.bs|exact sb_body' (hel2 _) hy.bs)))|exact tq_));(·rfl);(·rfl);(·(exact th_)))|refine ybl rfl rfl ?_|((fail_if_success (refine ybi rfl ?_));refine ybj rfl ?_ ?_<;>(intro ht;rw [ht];first|replace ht := of_decide_eq_true ht|replace ht := of_decide_eq_false ht|skip))|(refine tb_ ?_ ?_ ?_;(·(exact to_));(·intro _;(exact to_));intro _)|(first|(refine tqs_ ?_ ?_ ?_;(·(exact to_));(·(exact to_))))|(apply ybn;(·(first|(first|exact tk_|(refine qv_neq_agg (t := false) rfl rfl (fun w => by rw [← hde];exact dot_eq _ _ w))|(apply yad;(·rfl);(·exact sb_dot (hel _));(·rfl))|(apply yad;(·rfl);(·exact sb_dot (hel2 _));(·rfl)))|(apply yae;(·rfl);(·(first|exact sb_body' (hel _) hx.bs|exact sb_body' (hel2 _) hy.bs)))|exact tq_));(·rfl);(·rfl);(·rfl);(·(exact to_))))|refine ycg ?_))
        repeat' (first|(refine ycf ?_;apply ybk;(·first|(first|exact tk_|(refine qv_neq_agg (t := false) rfl rfl (fun w => by rw [← hde];exact dot_eq _ _ w))|(apply yad;(·rfl);(·exact sb_dot (hel _));(·rfl))|(apply yad;(·rfl);(·exact sb_dot (hel2 _));(·rfl)))|(apply yae;(·rfl);(·(first|exact sb_body' (hel _) hx.bs|exact sb_body' (hel2 _) hy.bs))));(·rfl);(·rfl))|refine t1_ ?_|(refine ta_ ?_;intro _)|((fail_if_success (refine ybi rfl ?_));refine ybj rfl ?_ ?_<;>(intro ht;rw [ht];first|replace ht := of_decide_eq_true ht|replace ht := of_decide_eq_false ht|skip))|(refine ych ?_;first|(refine ybw rfl ?_ ?_<;>intro ht)|(refine ybx rfl ?_ ?_<;>intro ht)))
        refine nx_ret1 rfl (rv_tmp rfl) (fun w' s' => ⟨?_, s'.nil⟩)
        rw [decide_eq_false (hne fun e => hd (congrArg (·.1) e))]
    · --
      repeat' (first | (refine ycf ?_; apply ybk; (· first | (exact tk_) | (apply yae; (· rfl); (· (first | exact sb_body' (hel _) hx.bs | exact sb_body' (hel2 _) hy.bs)))); (· rfl); (· rfl)) | refine t1_ ?_ | (refine ta_ ?_; intro _) | ((fail_if_success (refine ybi rfl ?_)); refine ybj rfl ?_ ?_ <;> (intro ht; rw [ht]; first | replace ht := of_decide_eq_true ht | replace ht := of_decide_eq_false ht | skip)) | (refine ych ?_; first | (refine ybw rfl ?_ ?_ <;> intro ht) | (refine ybx rfl ?_ ?_ <;> intro ht)))
      refine nx_ret1 rfl (rv_tmp rfl) (fun w' s' => ⟨?_, s'.nil⟩)
      rw [List.take_of_length_le (by omega), List.take_of_length_le (by omega)] at hek
      rw [decide_eq_true hek]
  · repeat' (first | (refine ycf ?_; apply ybk; (· first | (exact tk_) | (apply yae; (· rfl); (· (first | exact sb_body' (hel _) hx.bs | exact sb_body' (hel2 _) hy.bs)))); (· rfl); (· rfl)) | refine t1_ ?_ | (refine ta_ ?_; intro _) | ((fail_if_success (refine ybi rfl ?_)); refine ybj rfl ?_ ?_ <;> (intro ht; rw [ht]; first | replace ht := of_decide_eq_true ht | replace ht := of_decide_eq_false ht | skip)) | (refine ych ?_; first | (refine ybw rfl ?_ ?_ <;> intro ht) | (refine ybx rfl ?_ ?_ <;> intro ht)))
    refine nx_ret1 rfl (rv_tmp rfl) (fun w' s' => ⟨?_, s'.nil⟩)
    rw [decide_eq_false (map_ne_len hlm)]
end Go.Proofs.YtkkjppeaaicgaaaGreat
end

section
namespace Go.Proofs.YtkkjppeaaicgaaaGreat
open Go Go.Ck
set_option maxRecDepth 100000
set_option maxHeartbeats 4000000
set_option linter.unusedVariables false

theorem fill3s {d : Dt} {u : List Int} {mv : Value} {b : List Int} (hu : u.length = 16) : fillL (fun i : Nat => ([(0, 2), (2, 17), (19, 1)] : List (Nat × Nat))[i]?) ([.int .i64 0, .int .i64 0] ++ (up zeroU ++ [.slice none 0 0, .string ⟨#[]⟩])) [(0, .agg (dcs d).toArray), (1, .agg (cxc u mv).toArray), (2, .string (bstr b))] = some (dcs d ++ (cxc u mv ++ [.string (bstr b)])) := by
  obtain ⟨a0, a1, a2, a3, a4, a5, a6, a7, a8, a9, a10, a11, a12, a13, a14, a15, rfl⟩ := list16 u hu
  unfold fillL fillL fillL fillL
  rfl
theorem sfrom_sp (v : Value) (l : List Sb) (h : View) (hs : Ss h v l) (fl : Fits l) (w : World) (s : St ⟨w, h, []⟩ h [] w) :
    Calls Tryz.prog 8 [v].toArray w fun e w' => ∃ z : View × Value × List Sb, e = .returned z.2.1 ∧ St ⟨w, h, []⟩ z.1 [] w' ∧ Rs z.1 z.2.1 z.2.2 ∧ z.2.2.map Sb.a = l.map Sb.a := by
  obtain ⟨hs, hsv⟩ := hs
  obtain ⟨_, ad, cap, rfl, hcap, _⟩ := id hs
  have lenl := fl.1
  refine calls_enter Tryz.func8 rfl Tryz.ntmps8 rfl s ?_
  repeat' (first | refine tw_ ?_ | (refine ta_ ?_; intro _) | ((fail_if_success (refine ybi rfl ?_)); refine ybj rfl ?_ ?_ <;> (intro ht; rw [ht]; first | replace ht := of_decide_eq_true ht | replace ht := of_decide_eq_false ht | skip)) | (refine ych ?_; first | (refine ybw rfl ?_ ?_ <;> intro ht) | (refine ybx rfl ?_ ?_ <;> intro ht)))
  refine cx_row 57 20 ?_
  refine cx_loop (X := Nat × Value × List Sb) (fun y => [(0, .slice ad l.length cap), (3, y.2.1), (4, .int .i64 (y.1 : Nat))]) (fun y => h) (fun y => [Res.row 57 20 y.2.1 y.2.2.length (y.2.2.flatMap sbc)])
    (fun y => y.1 ≤ l.length ∧ (∀ o ∈ y.2.2, Rv h o) ∧ y.2.2.map Sb.a = (l.take y.1).map Sb.a) (fun y => l.length - y.1) (0, .slice none 0 0, []) ⟨Nat.zero_le _, fun o ho => (by cases ho), rfl⟩ ts_ (fun _ s => s) ?_
  rintro ⟨k, vo, O⟩ ⟨p1, p3, p4⟩
  dsimp only at p1 p3 p4 ⊢
  have hOl : O.length = k := by
    have := congrArg List.length p4
    simp at this
    omega
  by_cases hkl : k < l.length
  · obtain ⟨bs, o, rfl⟩ := hs.ad (by omega) (by omega)
    have hel : ∀ L, Cells h L ⟨bs, o + k * 20, none⟩ (sbc l[k]) := fun L => hs.elem sbc_len k hkl
    have hxv : Sv h l[k] := hsv _ (List.getElem_mem hkl)
    have hlim := fl.2 _ (List.getElem_mem hkl)
    have htk : (l.take (k + 1)).map Sb.a = O.map Sb.a ++ [l[k].a] := by rw [List.take_succ_eq_append_getElem hkl, List.map_append, ← p4]; rfl
    generalize l[k] = e0 at hel hxv hlim htk
    have hxl := sbc_len e0
    have hone := hxv.one
    obtain ⟨_, adm, capm, hmv, _, _⟩ := id hxv.ds
    obtain ⟨_, adb, capb, hbv, _, _⟩ := id hxv.bs
    have hbs := hxv.bs
    rw [hbv] at hbs
    have hds := hxv.ds
    rw [hmv] at hds
    obtain ⟨z, hz⟩ : ∃ z : Sb, z = ⟨e0.d, e0.u, e0.hu, e0.l, .slice adm e0.l.length capm, e0.b, .string (bstr e0.b)⟩ := ⟨_, rfl⟩
    have hfu := fill2 (ad := adm) (m := e0.l.length) (c := capm) e0.hu
    have hfz : fillL (fun i : Nat => ([(0, 2), (2, 17), (19, 1)] : List (Nat × Nat))[i]?) ([.int .i64 0, .int .i64 0] ++ (up zeroU ++ [.slice none 0 0, .string ⟨#[]⟩])) [(0, .agg (dcs e0.d).toArray), (1, .agg (cxc e0.u (.slice adm e0.l.length capm)).toArray), (2, .string (bstr e0.b))] = some (sbc z) := by
      rw [hz]; exact fill3s e0.hu
    have hzv : Rv h z := by rw [hz]; exact ⟨hds, rfl, hxv.by8⟩
    have hza : z.a = e0.a := by rw [hz]; rfl
    have hzo := hzv.one
    have hzl := sbc_len z
    repeat' (first|(refine ycf ?_;apply ybk;(·first|(first|exact tk_|(apply yad;(·rfl);(·exact hel _);(·exact hxl))|(apply yad;(·rfl);(·exact sb_dot (yaz 0 rfl));(·rfl))|(apply yad (vs := up e0.u);(·rfl);(·exact cells_up2 (sb_past (yaz 0 rfl)));(·simp [up, e0.hu]))|(refine qv_str_bs rfl hbs)|(apply yax (cs := cxc e0.u (.slice adm e0.l.length capm));(·rfl);(·exact hfu))|(apply yax (cs := sbc z);(·rfl);(·exact hfz)))|(apply yae;(·rfl);(·(first|exact sb_more (yaz 0 rfl) hmv|exact sb_body0 (yaz 0 rfl) hbv))));(·rfl);(·rfl))|(refine ybg 0 rfl rfl rfl (sbc_sz e0) (sbc_fit rfl) (sbc_one hone.1 hone.2) (ybh (sbc_all rfl)) rfl rfl ?_ ?_ ?_;(·(exact to_));(·(exact to_)))|refine t1_ ?_|(refine ta_ ?_;intro _)|((fail_if_success (refine ybi rfl ?_));refine ybj rfl ?_ ?_<;>(intro ht;rw [ht];first|replace ht := of_decide_eq_true ht|replace ht := of_decide_eq_false ht|skip))|(refine ych ?_;first|(refine ybw rfl ?_ ?_<;>intro ht)|(refine ybx rfl ?_ ?_<;>intro ht)))
    refine yba (ybd rfl rfl rfl (ybe rfl (sbc_sz z))) rfl rfl rfl ybf (fun _ => ybf) ?_
    intro b32
    refine rx_append (sz := 20) 2 rfl rfl rfl (yaz 0 rfl) (by show (sbc z).length = 1 * 20; exact sbc_len z) (fun u hu => List.all_eq_true.1 (sbc_one hzo.1 hzo.2) u hu) rfl (by omega) (by unfold maxLen; omega) (by omega) rfl rfl rfl ybf (fun _ => ybf) ?_
    intro v9 _
    repeat' (first | (refine ycf ?_; apply ybk; (· first | (exact tk_)); (· rfl); (· rfl)) | refine t1_ ?_ | (refine ta_ ?_; intro _) | ((fail_if_success (refine ybi rfl ?_)); refine ybj rfl ?_ ?_ <;> (intro ht; rw [ht]; first | replace ht := of_decide_eq_true ht | replace ht := of_decide_eq_false ht | skip)) | (refine ych ?_; first | (refine ybw rfl ?_ ?_ <;> intro ht) | (refine ybx rfl ?_ ?_ <;> intro ht)))
    refine nx_round (k + 1, v9, O ++ [z]) ⟨by show k + 1 ≤ _; omega, fun o ho => ?_, ?_⟩ (by show l.length - (k + 1) < l.length - k; omega) ts_ (fun _ s => ?_)
    · rcases List.mem_append.1 ho with ho | ho
      · exact p3 o ho
      · rw [List.mem_singleton.1 ho]; exact hzv
    · dsimp only
      rw [htk, List.map_append]
      simp [hza]
    · have s2 := s.tl.tl
      dsimp only
      show St _ _ [Res.row _ _ v9 (O ++ [z]).length ((O ++ [z]).flatMap sbc)] _
      rw [List.length_append, List.flatMap_append, show [z].flatMap sbc = sbc z by simp]
      exact s2
  · have hkk : k = l.length := by omega
    rw [hkk, List.take_length] at p4
    repeat' (first | (refine ycf ?_; apply ybk; (· first | (exact tk_)); (· rfl); (· rfl)) | refine t1_ ?_ | (refine ta_ ?_; intro _) | ((fail_if_success (refine ybi rfl ?_)); refine ybj rfl ?_ ?_ <;> (intro ht; rw [ht]; first | replace ht := of_decide_eq_true ht | replace ht := of_decide_eq_false ht | skip)) | (refine ych ?_; first | (refine ybw rfl ?_ ?_ <;> intro ht) | (refine ybx rfl ?_ ?_ <;> intro ht)))
    refine nx_ret1 rfl (rv_tmp rfl) (fun w' s' => ?_)
    obtain ⟨h2, hle2, hs2, s2⟩ := s'.rowPersistA (by intro x hx; cases hx)
    exact ⟨(h2, vo, O), rfl, s2.nil, ⟨hs2, fun z hz => (p3 z hz).mono hle2⟩, p4⟩
end Go.Proofs.YtkkjppeaaicgaaaGreat
end

section
namespace Go.Proofs.YtkkjppeaaicgaaaGreat
open Go Go.Ck
set_option maxRecDepth 100000
set_option maxHeartbeats 4000000
set_option linter.unusedVariables false

theorem srS_no {l : List Int} (h : (srS l).1 = false) : (srS l).2 = [] := by
  unfold srS at h ⊢
  split
  · rename_i hx; rw [if_pos hx] at h; cases h
  · rfl
theorem srS_fits {l : List Int} (hb : Bytes l) (hl : l.length ≤ 1000000) {zs : List Sb} (hz : zs.map Sb.a = (srS l).2) : Fits zs := by
  by_cases h : (srC l).1.2 = true ∧ endC (srC l).2 = 0 ∧ checkA (srC l).1.1 = 0
  · have e : (srS l).2 = (srC l).1.1 := by unfold srS; rw [if_pos h]
    rw [e] at hz
    have := smS_bd hb hl
    exact fits_sbs (smS_ok hb hl) hz (by omega)
  · have e : (srS l).2 = [] := by unfold srS; rw [if_neg h]
    rw [e] at hz
    have : zs = [] := List.map_eq_nil_iff.1 hz
    subst this
    exact ⟨by simp, fun x hx => by cases hx⟩
theorem SiblingReads_sp (bv : Value) (l : List Int) (h : View) (hb : Bytes l) (hs : Bs8 h bv l) (hl : l.length ≤ 9223372036854775807) (w : World) (s : St ⟨w, h, []⟩ h [] w) :
    Calls Tryz.prog 3 [bv].toArray w fun e w' => ∃ h', e = .returned (.bool true) ∧ St ⟨w, h, []⟩ h' [] w' := by
  obtain ⟨_, ad, cap, rfl, hcap, _⟩ := id hs
  refine calls_enter Tryz.func3 rfl Tryz.ntmps3 rfl s ?_
  have hj : (if (1500 : Int) < (l.length : Int) then (1500 : Int) else (l.length : Int)) = ((min l.length 1500 : Nat) : Int) := by split <;> omega
  generalize hJ : min l.length 1500 = j at hj
  have hjl : j ≤ l.length := by omega
  have hj1500 : j ≤ 1500 := by omega
  have hst : Bs8 h (.slice ad j cap) (l.take j) := by
    have htl : (l.take j).length = j := by simp; omega
    have := sc_take hs hjl
    unfold Bs8
    rw [htl]
    simpa [bcs, List.map_take] using this
  have hbm : Bytes (l.take j) := fun b hb' => hb b (List.mem_of_mem_take hb')
  have hml : (l.take j).length ≤ 1500 := by simp; omega
  have hjm : (l.take j).length = j := by simp; omega
  generalize l.take j = m at hst hbm hml hjm
  subst hjm
  repeat' (first | (refine ycf ?_; apply ybk; (· first | (first | (refine qv_min' rfl rfl hj) | (apply qv_slice_to; (· rfl); (· rfl); (· omega); (· omega)))); (· rfl); (· rfl)) | refine t1_ ?_ | (refine ta_ ?_; intro _) | ((fail_if_success (refine ybi rfl ?_)); refine ybj rfl ?_ ?_ <;> (intro ht; rw [ht]; first | replace ht := of_decide_eq_true ht | replace ht := of_decide_eq_false ht | skip)) | (refine ych ?_; first | (refine ybw rfl ?_ ?_ <;> intro ht) | (refine ybx rfl ?_ ?_ <;> intro ht)))
  (refine yco (ycp Tryz.func4 rfl (by kernel_rfl) rfl) (sRead_sp _ m hbm (by omega) h hst) rfl rfl rfl ?_ ?_ ?_; (· (exact to_)); (· intro _ _ hle; (exact to_)); intro x px hle)
  obtain ⟨h1, v1, zs⟩ := x
  have hle1 : Le h h1 := hle
  obtain ⟨S1, e1⟩ := px
  dsimp only at S1 e1
  clear hle
  have b1 : Bs8 h1 (.slice ad m.length cap) m := hst.mono hle1
  have F1 := srS_fits hbm (by omega) e1
  have R1 := rsRead_sp m hbm (by omega) h1
  obtain ⟨_, p1, q1, rfl, _, _⟩ := id S1.1
  repeat' (first | (refine ycf ?_; apply ybk; (· first | (exact qv_str_bs rfl b1)); (· rfl); (· rfl)) | refine t1_ ?_ | (refine ta_ ?_; intro _) | ((fail_if_success (refine ybi rfl ?_)); refine ybj rfl ?_ ?_ <;> (intro ht; rw [ht]; first | replace ht := of_decide_eq_true ht | replace ht := of_decide_eq_false ht | skip)) | (refine ych ?_; first | (refine ybw rfl ?_ ?_ <;> intro ht) | (refine ybx rfl ?_ ?_ <;> intro ht)))
  (refine yco (ycp Tryz.func5 rfl (by kernel_rfl) rfl) (R1) rfl rfl rfl ?_ ?_ ?_; (· (exact to_)); (· intro _ _ hle; (exact to_)); intro x px hle)
  obtain ⟨h2, v2, ws⟩ := x
  have hle2 : Le h1 h2 := hle
  obtain ⟨S2, e2⟩ := px
  dsimp only at S2 e2
  clear hle
  obtain ⟨_, p2, q2, rfl, _, _⟩ := id S2.1
  have b2 := b1.mono hle2
  have S12 := S1.mono hle2
  have F2 := srS_fits hbm (by omega) e2
  have ew : zs.map Sb.a = ws.map Sb.a := by rw [e1, e2]
  have TK := @srS_took m hbm (by omega)
  have NO := @srS_no m
  clear R1
  have hn : zs.length ≤ 1000000 := by have := F1.1; omega
  have EQ : ∀ (va vb : Value) (a b : List Sb) (h : View), Rs h va a → Rs h vb b → Fits a → Fits b → ∀ w, St ⟨w, h, []⟩ h [] w → Calls Tryz.prog 7 [va, vb].toArray w fun e w' => e = .returned (.bool (decide (a.map Sb.a = b.map Sb.a))) ∧ St ⟨w, h, []⟩ h [] w' := fun va vb a b h ha hb fa fb =>
    rsame_sp va vb a b h ha hb (by have := fa.1; omega) (by have := fb.1; omega) (fun x hx => by have := (fa.2 x hx).1; omega) (fun x hx => by have := (fb.2 x hx).1; omega)
  generalize srS m = R at e1 e2 TK NO ⊢
  obtain ⟨t, A⟩ := R
  dsimp only at e1 e2 TK NO ⊢
  have F1 := F1
  repeat' (first | refine tw_ ?_ | (refine ta_ ?_; intro _) | ((fail_if_success (refine ybi rfl ?_)); refine ybj rfl ?_ ?_ <;> (intro ht; rw [ht]; first | replace ht := of_decide_eq_true ht | replace ht := of_decide_eq_false ht | skip)) | (refine ych ?_; first | (refine ybw rfl ?_ ?_ <;> intro ht) | (refine ybx rfl ?_ ?_ <;> intro ht)))
  (refine ycn (ycp Tryz.func6 rfl (by kernel_rfl) rfl) (sets_sp h2) rfl rfl rfl ?_ ?_; (· (exact to_)))
  have fz : ∀ x : View × Value × List Sb, x.2.2.map Sb.a = zs.map Sb.a → Fits x.2.2 := fun x hx => by
    refine ⟨?_, fun y hy => ?_⟩
    · have := congrArg List.length hx
      rw [List.length_map, List.length_map] at this
      have := F1.1
      omega
    · have hy2 : y.a ∈ zs.map Sb.a := by rw [← hx]; exact List.mem_map_of_mem hy
      obtain ⟨z, hz, ez⟩ := List.mem_map.1 hy2
      have a1 : y.l = z.l := (congrArg (·.2.2.1) ez).symm
      have a2 : y.b = z.b := (congrArg (·.2.2.2) ez).symm
      rw [a1, a2]
      exact F1.2 z hz
  cases t with
  | false =>
    rw [if_neg (by decide)]
    repeat' (first | (refine ycf ?_; apply ybk; (· first | (first | (apply qv_neq_bool (t := false); (· rfl); (· rfl); (· rfl)) | exact tk_)); (· rfl); (· rfl)) | refine t1_ ?_ | (refine ta_ ?_; intro _) | ((fail_if_success (refine ybi rfl ?_)); refine ybj rfl ?_ ?_ <;> (intro ht; rw [ht]; first | replace ht := of_decide_eq_true ht | replace ht := of_decide_eq_false ht | skip)) | (refine ych ?_; first | (refine ybw rfl ?_ ?_ <;> intro ht) | (refine ybx rfl ?_ ?_ <;> intro ht)))
    (refine yco (ycp Tryz.func8 rfl (by kernel_rfl) rfl) (sfrom_sp _ zs h2 S12 F1) rfl rfl rfl ?_ ?_ ?_; (· (exact to_)); (· intro _ _ hle; (exact to_)); intro x px hle)
    obtain ⟨h3, v3, ys⟩ := x
    have hle3 : Le h2 h3 := hle
    clear hle
    obtain ⟨S3, e3⟩ := px
    dsimp only at S3 e3
    have F3 := fz (h3, v3, ys) e3
    have Q1 := EQ _ _ ys ws h3 S3 (S2.mono hle3) F3 F2
    rw [decide_eq_true (show ys.map Sb.a = ws.map Sb.a by rw [e3, ew])] at Q1
    repeat' (first | (refine ycf ?_; apply ybk; (· first | (first | (apply qv_neq_bool (t := false); (· rfl); (· rfl); (· rfl)) | exact tk_)); (· rfl); (· rfl)) | refine t1_ ?_ | (refine ta_ ?_; intro _) | ((fail_if_success (refine ybi rfl ?_)); refine ybj rfl ?_ ?_ <;> (intro ht; rw [ht]; first | replace ht := of_decide_eq_true ht | replace ht := of_decide_eq_false ht | skip)) | (refine ych ?_; first | (refine ybw rfl ?_ ?_ <;> intro ht) | (refine ybx rfl ?_ ?_ <;> intro ht)))
    (refine ycn (ycp Tryz.func7 rfl (by kernel_rfl) rfl) (Q1) rfl rfl rfl ?_ ?_; (· (exact to_)))
    repeat' (first | (refine ycf ?_; apply ybk; (· first | (first | (apply qv_neq_bool (t := false); (· rfl); (· rfl); (· rfl)) | exact tk_)); (· rfl); (· rfl)) | refine t1_ ?_ | (refine ta_ ?_; intro _) | ((fail_if_success (refine ybi rfl ?_)); refine ybj rfl ?_ ?_ <;> (intro ht; rw [ht]; first | replace ht := of_decide_eq_true ht | replace ht := of_decide_eq_false ht | skip)) | (refine ych ?_; first | (refine ybw rfl ?_ ?_ <;> intro ht) | (refine ybx rfl ?_ ?_ <;> intro ht)))
    exact nx_ret1 rfl (rv_tmp rfl) (fun w' s' => ⟨h3, rfl, s'.nil⟩)
  | true =>
    rw [if_pos rfl]
    obtain ⟨k1, k2⟩ := TK rfl
    repeat' (first | (refine ycf ?_; apply ybk; (· first | (first | (apply qv_neq_bool (t := false); (· rfl); (· rfl); (· rfl)) | exact tk_)); (· rfl); (· rfl)) | refine t1_ ?_ | (refine ta_ ?_; intro _) | ((fail_if_success (refine ybi rfl ?_)); refine ybj rfl ?_ ?_ <;> (intro ht; rw [ht]; first | replace ht := of_decide_eq_true ht | replace ht := of_decide_eq_false ht | skip)) | (refine ych ?_; first | (refine ybw rfl ?_ ?_ <;> intro ht) | (refine ybx rfl ?_ ?_ <;> intro ht)))
    (refine yco (ycp Tryz.func8 rfl (by kernel_rfl) rfl) (sfrom_sp _ zs h2 S12 F1) rfl rfl rfl ?_ ?_ ?_; (· (exact to_)); (· intro _ _ hle; (exact to_)); intro x px hle)
    obtain ⟨h3, v3, ys⟩ := x
    have hle3 : Le h2 h3 := hle
    clear hle
    obtain ⟨S3, e3⟩ := px
    dsimp only at S3 e3
    have F3 := fz (h3, v3, ys) e3
    have Q1 := EQ _ _ ys ws h3 S3 (S2.mono hle3) F3 F2
    rw [decide_eq_true (show ys.map Sb.a = ws.map Sb.a by rw [e3, ew])] at Q1
    repeat' (first | (refine ycf ?_; apply ybk; (· first | (first | (apply qv_neq_bool (t := false); (· rfl); (· rfl); (· rfl)) | exact tk_)); (· rfl); (· rfl)) | refine t1_ ?_ | (refine ta_ ?_; intro _) | ((fail_if_success (refine ybi rfl ?_)); refine ybj rfl ?_ ?_ <;> (intro ht; rw [ht]; first | replace ht := of_decide_eq_true ht | replace ht := of_decide_eq_false ht | skip)) | (refine ych ?_; first | (refine ybw rfl ?_ ?_ <;> intro ht) | (refine ybx rfl ?_ ?_ <;> intro ht)))
    (refine ycn (ycp Tryz.func7 rfl (by kernel_rfl) rfl) (Q1) rfl rfl rfl ?_ ?_; (· (exact to_)))
    repeat' (first | (refine ycf ?_; apply ybk; (· first | (first | (apply qv_neq_bool (t := false); (· rfl); (· rfl); (· rfl)) | exact tk_)); (· rfl); (· rfl)) | refine t1_ ?_ | (refine ta_ ?_; intro _) | ((fail_if_success (refine ybi rfl ?_)); refine ybj rfl ?_ ?_ <;> (intro ht; rw [ht]; first | replace ht := of_decide_eq_true ht | replace ht := of_decide_eq_false ht | skip)) | (refine ych ?_; first | (refine ybw rfl ?_ ?_ <;> intro ht) | (refine ybx rfl ?_ ?_ <;> intro ht)))
    have W3 := sWrite_sp _ zs h3 (S12.mono hle3) F1 (by rw [e1, k2]; omega)
    rw [e1, k1, if_pos rfl, k2] at W3
    have b3 := b2.mono hle3
    (refine yco (ycp Tryz.func9 rfl (by kernel_rfl) rfl) (W3) rfl rfl rfl ?_ ?_ ?_; (· (exact to_)); (· intro _ _ hle; (exact to_)); intro x px hle)
    obtain ⟨h4, v4⟩ := x
    replace hle : Le h3 h4 := hle
    have b4 := b3.mono hle
    have px : Bs8 h4 v4 m := px
    repeat' (first | (refine ycf ?_; apply ybk; (· first | (first | exact qv_str_bs rfl b4 | exact qv_str_bs rfl px | (apply qv_eql_str (t := true); (· rfl); (· rfl); (· simp)) | exact tk_)); (· rfl); (· rfl)) | refine t1_ ?_ | (refine ta_ ?_; intro _) | ((fail_if_success (refine ybi rfl ?_)); refine ybj rfl ?_ ?_ <;> (intro ht; rw [ht]; first | replace ht := of_decide_eq_true ht | replace ht := of_decide_eq_false ht | skip)) | (refine ych ?_; first | (refine ybw rfl ?_ ?_ <;> intro ht) | (refine ybx rfl ?_ ?_ <;> intro ht)))
    exact nx_ret1 rfl (rv_tmp rfl) (fun w' s' => ⟨h4, rfl, s'.nil⟩)
end Go.Proofs.YtkkjppeaaicgaaaGreat
end

section
namespace Go.Ck
open Go Go.ChangeShapes
set_option linter.unusedVariables false
section
variable {H : Type} {enc : TypeId × Value → H} {P : Program} {w : World} {base : Nat} {spare : Nat → Bool} {held : Bool}

theorem trod_fields {t : TypeId} {fs : Array Field} {fuel : Nat} {cs : List Value} {x : DataW H × List MemPlace} (ht : P.underlying t = some (.struct fs)) (h : DataW.trod enc P w base spare held fuel t cs = some x) :
    cs.length = P.cellsOf t ∧ ∀ f ∈ fs.toList, ∃ m y, DataW.trod enc P w base spare held m f.type ((cs.drop f.offset).take (P.cellsOf f.type)) = some y := by
  cases fuel with
  | zero => simp [DataW.trod] at h
  | succ n =>
    unfold DataW.trod at h
    simp only [ht] at h
    split at h
    · rename_i hl
      obtain ⟨xs, hxs, _⟩ := Option.map_eq_some_iff.1 h
      refine ⟨hl, fun f hf => ?_⟩
      obtain ⟨i, hi, rfl⟩ := List.getElem_of_mem hf
      have := mapM_some_get hxs i _ (List.getElem?_eq_getElem hi)
      have hlen := mapM_some_length hxs
      rw [List.getElem?_eq_getElem (by omega)] at this
      exact ⟨n, _, this⟩
    · cases h

theorem trod_elems {t e : TypeId} {k fuel : Nat} {cs : List Value} {x : DataW H × List MemPlace} (ht : P.underlying t = some (.array k e)) (h : DataW.trod enc P w base spare held fuel t cs = some x) :
    cs.length = P.cellsOf t ∧ ∀ i, i < k → ∃ m y, DataW.trod enc P w base spare held m e ((cs.drop (i * P.cellsOf e)).take (P.cellsOf e)) = some y := by
  cases fuel with
  | zero => simp [DataW.trod] at h
  | succ n =>
    unfold DataW.trod at h
    simp only [ht] at h
    split at h
    · rename_i hl
      obtain ⟨xs, hxs, _⟩ := Option.map_eq_some_iff.1 h
      refine ⟨hl, fun i hi => ?_⟩
      have := mapM_some_get hxs i i (by simp [hi])
      have hlen := mapM_some_length hxs
      rw [List.getElem?_eq_getElem (by simp at hlen; omega)] at this
      exact ⟨n, _, this⟩
    · cases h
end
end Go.Ck
end

section
namespace Go.Ck
open Go Go.ChangeShapes
set_option linter.unusedVariables false
set_option maxHeartbeats 1000000
section
variable {H : Type} {enc : TypeId × Value → H} {P : Program} {w : World} {base : Nat} {spare : Nat → Bool} {held : Bool}

theorem cells_get' {a : Addr} {n : Nat} {cs : List Value} (h : w.cells? base a n = some cs) {j : Nat} {u : Value} (hj : cs[j]? = some u) : w.cell? (a.add j) = some u := by
  unfold World.cells? at h
  split at h
  · have hl := mapM_some_length h
    have hjl : j < cs.length := (List.getElem?_eq_some_iff.1 hj).1
    have := mapM_some_get h j j (by rw [List.length_range] at hl; exact List.getElem?_range (by omega))
    rw [this, hj]
  · cases h

theorem trod_slice_of {T e k : Nat} {α : Type} {en : α → List Value} {R : α → Prop} (tu : P.underlying T = some (.slice e)) (hc : P.cellsOf e = k) (hk0 : 0 < k) (hlen : ∀ x, (en x).length = k)
    (hel : ∀ (m : Nat) (cs : List Value) (y : DataW H × List MemPlace), DataW.trod enc P w base spare held m e cs = some y → ∃ x : α, R x ∧ cs = en x)
    {m : Nat} {cs : List Value} {y : DataW H × List MemPlace} (h : DataW.trod enc P w base spare held m T cs = some y) :
    ∃ (v : Value) (l : List α), cs = [v] ∧ Sc (fun b => w.heap[b]?) k v l.length (l.flatMap en) ∧ l.length ≤ maxLen ∧ ∀ x ∈ l, R x := by
  subst hc
  rcases Go.Deep.open_slice tu h with ⟨rfl, _⟩ | ⟨a, len, cap, q, n, D, Pl, rfl, _, h1, h2, hk, _, hall⟩
  · exact ⟨_, [], rfl, Sc.nil _ _ none 0, Nat.zero_le _, fun x hx => by cases hx⟩
  · have hkl : len ≤ q := by rw [hk]; split <;> omega
    have hex : ∀ i, i < len → ∃ d : α, R d ∧ w.cells? base (a.add (i * P.cellsOf e)) (P.cellsOf e) = some (en d) := fun i hi => by
      obtain ⟨cs', e1, e2⟩ := hall i (by omega)
      obtain ⟨d, hr, rfl⟩ := hel _ _ _ e2
      exact ⟨d, hr, e1⟩
    generalize P.cellsOf e = k at hex hk0 hlen ⊢
    by_cases h0 : len = 0
    · subst h0
      exact ⟨_, [], rfl, ⟨by simp, some a, cap, rfl, Nat.zero_le _, .inl rfl⟩, Nat.zero_le _, fun x hx => by cases hx⟩
    obtain ⟨d0, _⟩ := hex 0 (by omega)
    obtain ⟨f, hf'⟩ : ∃ f : Nat → α, ∀ i, i < len → R (f i) ∧ w.cells? base (a.add (i * k)) k = some (en (f i)) := by
      classical
      exact ⟨fun i => if hi : i < len then (hex i hi).choose else d0, fun i hi => by
        dsimp only
        rw [dif_pos hi]
        exact (hex i hi).choose_spec⟩
    have hf := fun i hi => (hf' i hi).2
    refine ⟨_, (List.range len).map f, rfl, ⟨?_, some a, cap, by simp, by simpa using h1, ?_⟩, by simp; omega, fun x hx => ?_⟩
    · rw [flat_len hlen]
    · refine .inr ?_
      have hc00 : 0 < (en (f 0)).length := by rw [hlen]; exact hk0
      have hc0 := cells_get' (hf 0 (by omega)) (j := 0) (List.getElem?_eq_getElem hc00)
      obtain ⟨b, o, sp⟩ := a
      have hadd : ∀ i j, ((⟨b, o, sp⟩ : Addr).add i).add j = (⟨b, o, sp⟩ : Addr).add (i + j) := fun i j => Go.Deep.add_add _ i j
      rw [hadd] at hc0
      have hblk : ((⟨b, o, sp⟩ : Addr).add (0 * k + 0)) = ⟨b, o, sp⟩ := by simp [Addr.add]
      rw [hblk] at hc0
      unfold World.cell? at hc0
      split at hc0
      · rename_i c e fz hb
        split at hc0
        · cases hc0
        · rename_i hsp
          have hsp' : sp = none := by simpa using hsp
          subst hsp'
          refine ⟨b, o, c, e, fz, rfl, hb, fun j u hj => ?_⟩
          have hjl : j < len * k := by
            have := (List.getElem?_eq_some_iff.1 hj).1
            rw [flat_len hlen] at this
            simpa using this
          have hjk : j / k < len := Nat.div_lt_of_lt_mul (by rw [Nat.mul_comm]; exact hjl)
          have hd : j / k < ((List.range len).map f).length := by simpa using hjk
          have e1 : (((List.range len).map f).flatMap en)[j]? = (en (f (j / k)))[j % k]? := by
            have := flat_at hlen ((List.range len).map f) (j / k) hd
            have e3 : ((List.range len).map f)[j / k] = f (j / k) := by simp
            rw [e3] at this
            rw [← this, List.getElem?_take_of_lt (Nat.mod_lt _ hk0), List.getElem?_drop]
            congr 1
            rw [Nat.mul_comm]
            exact (Nat.div_add_mod j k).symm
          rw [e1] at hj
          have := cells_get' (hf (j / k) hjk) hj
          rw [hadd, Addr.add_off] at this
          unfold World.cell? at this
          simp only [hb] at this
          simp only [Option.isSome_none, Bool.false_eq_true, if_false] at this
          have ej : j / k * k + j % k = j := by rw [Nat.mul_comm]; exact Nat.div_add_mod j k
          rw [ej] at this
          exact this
      · cases hc0
    · obtain ⟨i, hi, rfl⟩ := List.mem_map.1 hx
      exact (hf' i (by simpa using hi)).1
end
end Go.Ck
end

section
namespace Go.Proofs.YtkkjppeaaicgaaaGreat
open Go Go.Ck Go.ChangeShapes
set_option maxRecDepth 100000
set_option maxHeartbeats 1000000
set_option linter.unusedVariables false

theorem cellsByte : Tryz.prog.cellsOf 5 = 1 := by kernel_rfl
theorem bcs_flat (l : List Int) : l.flatMap (fun n => [Value.int .u8 n]) = bcs l := by
  induction l with
  | nil => rfl
  | cons x l ih => rw [List.flatMap_cons, ih]; rfl
theorem trod_bs {H : Type} {enc : TypeId × Value → H} {w : World} {base : Nat} {spare : Nat → Bool} {held : Bool} {m : Nat} {cs : List Value} {y : DataW H × List MemPlace} (h : DataW.trod enc Tryz.prog w base spare held m 22 cs = some y) :
    ∃ (v : Value) (l : List Int), cs = [v] ∧ Bs8 (fun b => w.heap[b]?) v l ∧ Bytes l ∧ l.length ≤ maxLen := by
  obtain ⟨v, l, h1, h2, h3, h4⟩ := trod_slice_of (en := fun n : Int => [Value.int .u8 n]) (R := fun n => 0 ≤ n ∧ n < 256) Tryz.underlying22 cellsByte (by decide) (fun _ => rfl) (fun m cs y hy => by
    obtain ⟨n, e1, _, e3⟩ := DataW.trod_int Tryz.underlying5 hy
    obtain ⟨q1, q2⟩ := (Lit.wf_int_iff .u8 n).1 e3
    have m1 : IntKind.u8.min = 0 := by decide
    have m2 : IntKind.u8.max = 255 := by decide
    exact ⟨n, ⟨by omega, by omega⟩, e1⟩) h
  rw [bcs_flat] at h2
  exact ⟨v, l, h1, h2, h4, h3⟩
end Go.Proofs.YtkkjppeaaicgaaaGreat
end

section
namespace Go.Proofs.YtkkjppeaaicgaaaGreat.siblingReads
open Go Go.Ck Go.ChangeShapes Go.WideShapes Go.ChangeAt Go.RowKit
set_option maxRecDepth 100000
set_option maxHeartbeats 1000000
set_option linter.unusedVariables false

theorem laidOut : laidOutB Tryz.prog = true := by kernel_rfl
theorem own : ownKnob Tryz.prog.godebug = none := by kernel_rfl

theorem contract (H : Type) (enc : TypeId × Value → H) (W : World) (base : Nat) (args : Array Value) (ds gs : List (DataW H)) (before : List MemPlace)
    (hval : ∀ (j : Nat) t v, Tryz.f3.params[j]? = some t → args[j]? = some v → Value.okWide Tryz.prog W .any base t v)
    (hW : DataW.Whole enc Tryz.prog Tryz.f3.params.toList Rows.siblingReadsSpec.vars false W args.toList ds gs before) :
    Calls Tryz.prog 3 args W fun e W' => ∃ v, e = .returned v ∧ Rows.siblingReadsSpec.post enc Tryz.prog Tryz.f3 false true false false W args v W' := by
  have hW' := hW
  obtain ⟨p, q, hA0, hV, rfl, hfz, hnd⟩ := hW
  have hA : DataW.TrodAll enc Tryz.prog W 0 (fun _ => true) true Tryz.f3.params.toList args.toList ds p := hA0
  rw [Tryz.params3] at hA hval
  obtain ⟨v0, vs0, d0, ds0, p0, q0, hargs0, rfl, rfl, h0, r0⟩ := trodAll_cons hA
  obtain ⟨rfl, rfl, rfl⟩ := trodAll_nil r0
  obtain rfl : args = #[v0] := by cases args; simp_all
  obtain ⟨rfl, rfl⟩ := trodVars_none hV
  obtain ⟨a0, len0, cap0, rfl⟩ := okWide_slice Tryz.underlying22 (hval 0 22 v0 rfl rfl)
  obtain ⟨fu0, g0⟩ := id h0
  obtain ⟨sv0, l0, hsv0, hd0, hb0, hl0⟩ := trod_bs g0
  obtain rfl : Value.slice a0 len0 cap0 = sv0 := by
    have e : (Value.slice a0 len0 cap0).cells.toList = [Value.slice a0 len0 cap0] := rfl
    rw [e] at hsv0
    exact (List.cons.inj hsv0).1
  have hl0 : l0.length ≤ 9223372036854775807 := by unfold maxLen at hl0; omega
  have hst : St ⟨W, fun b => W.heap[b]?, []⟩ (fun b => W.heap[b]?) [] W := St.start (L := []) ⟨fun b o hb => hb, fun r hr => (by cases hr)⟩ (by simp [doms]) (fun b hb => (by simp [doms] at hb))
  refine (SiblingReads_sp _ l0 _ hb0 hd0 hl0 W hst).mono fun e W' ⟨h', he, s'⟩ => ?_
  subst he
  have hb : Below W.heap.size W W' := ⟨s'.os, s'.tape, s'.output, s'.size, fun k hk => s'.keep k hk (by simp)⟩
  simp only [List.append_nil] at hW'
  have hlt0 : ∀ x ∈ p0, x.block < W.heap.size := fun x hx => by simpa using hW'.lt x (by simp [hx])
  exact ⟨_, rfl, _, _, _, [], p0, [], hW', trodAll_cons_mk (shut_bool Tryz.underlying4 _) trodAll_mk0,
    by
      have h := (trodAll_cons_mk (Below.trod laidOut (by kernel_rfl) (of_decide_eq_true (by kernel_rfl)) h0 hb hlt0) trodAll_mk0)
      simp only [List.append_nil] at h
      exact h,
    rfl, hb.frame _, fun h => by cases h⟩

set_option maxRecDepth 100000 in
theorem lifted (os : Os) (started : os.Started) (H : Type) (enc : TypeId × Value → H) :
    ReturnsInHanded {} Tryz.checked os 3 .any (Rows.siblingReadsSpec.pre6 enc Tryz.prog Tryz.f3 Rows.siblingReadsRow.domain false) (Rows.siblingReadsSpec.post enc Tryz.prog Tryz.f3 false true false false) := by
  refine returnsInHanded_of_change (C := Tryz.checked) own started (by kernel_rfl) Tryz.func3
    (ChangeSpec.witness6 (enc := enc) (C := Tryz.checked) false ⟨#[], #[.slice none 0 0], []⟩ 8 (by kernel_rfl) (by kernel_rfl) (by kernel_rfl) (by kernel_rfl)) ?_
  intro W base args ds gs before hval hW _ _
  exact contract H enc W base args ds gs before hval hW

theorem over : Rows.siblingReadsRow.holds Tryz.pinned (OpenSpec.ofChange Rows.siblingReadsSpec) :=
  OpenClaim.holds_of_wide 3 Tryz.f3 rfl rfl rfl rfl rfl rfl rfl ⟨rfl, rfl, rfl, rfl, rfl⟩ rfl rfl rfl rfl rfl (by kernel_rfl) Tryz.func3 (by kernel_rfl)
    (of_decide_eq_true (by kernel_rfl)) (by unfold Func.isWrapper; first | (rw [if_pos (by decide +kernel)]; kernel_rfl) | (rw [if_neg (by decide +kernel)]; exact ⟨rfl, rfl⟩))
    (fun os started H enc _ => lifted os started H enc)

theorem proved : Rows.SiblingReadsSaid :=
  over
end Go.Proofs.YtkkjppeaaicgaaaGreat.siblingReads
end
