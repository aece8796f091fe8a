/-
  Part 18 of a proof: SbY CkPer.
  Conditions: each theorem states its own.
-/
import Derived.Test.YtkkjppeaaicgaaaHsEPM17
section
namespace Go.Proofs.Ytkkjppeaaicgaaa
open Go Go.Ck
set_option maxRecDepth 100000
set_option maxHeartbeats 2000000
set_option linter.unusedVariables false

theorem bstr_list (l : List Int) : (bstr l).toList = l.map fun n => UInt8.ofNat n.toNat := by
  rw [ByteArray.toList_eq]
  simp [bstr]
theorem bstr_eq {a b : List Int} (ha : Bytes a) (hb : Bytes b) : ((bstr a).toList == (bstr b).toList) = decide (a = b) := by
  rw [bstr_list, bstr_list]
  rw [Bool.eq_iff_iff, decide_eq_true_iff, beq_iff_eq]
  refine ⟨fun h => ?_, fun h => by rw [h]⟩
  have h1 := congrArg (List.map fun x : UInt8 => (x.toNat : Int)) h
  have h2 : ∀ l : List Int, Bytes l → List.map (fun x : UInt8 => (x.toNat : Int)) (l.map fun n => UInt8.ofNat n.toNat) = l := fun l hl => by
    rw [List.map_map]
    have : l.map ((fun x : UInt8 => (x.toNat : Int)) ∘ fun n : Int => UInt8.ofNat n.toNat) = l.map id := List.map_congr_left fun x hx => by
      have := hl x hx
      simp
      omega
    rw [this, List.map_id]
  rwa [h2 a ha, h2 b hb] at h1
theorem bytesEqual_sp (va vb : Value) (a b : List Int) (h : View) (ha : Bs8 h va a) (hb : Bs8 h vb b) (ya : Bytes a) (yb : Bytes b) (w : World) (s : St ⟨w, h, []⟩ h [] w) :
    Calls Try.prog 46 [va, vb].toArray w fun e w' => e = .returned (.bool (decide (a = b))) ∧ St ⟨w, h, []⟩ h [] w' := by
  have he := bstr_eq ya yb
  refine calls_enter Try.func46 rfl Try.ntmps46 rfl s ?_
  repeat' (first | (refine ycf ?_; apply ybk; (· first | (first | exact qv_str_bs rfl ha | exact qv_str_bs rfl hb | exact qv_eql_str rfl rfl he)); (· rfl); (· rfl)) | refine t1_ ?_ | (refine ta_ ?_; intro _) | ((fail_if_success (refine ybi rfl ?_)); refine ybj rfl ?_ ?_ <;> (intro ht; rw [ht]; first | replace ht := of_decide_eq_true ht | replace ht := of_decide_eq_false ht | skip)) | (refine ych ?_; first | (refine ybw rfl ?_ ?_ <;> intro ht) | (refine ybx rfl ?_ ?_ <;> intro ht)))
  exact nx_ret1 rfl (rv_tmp rfl) (fun w' s' => ⟨rfl, s'.nil⟩)

theorem same1_sp (x y : Sb) (h : View) (hx : Sv h x) (hy : Sv h y) (lx : x.l.length ≤ 4611686018427387904) (ly : y.l.length ≤ 4611686018427387904) (w : World) (s : St ⟨w, h, []⟩ h [] w) :
    Calls Try.prog 44 [sbv x, sbv y].toArray w fun e w' => e = .returned (.bool (decide (x.a = y.a))) ∧ St ⟨w, h, []⟩ h [] w' := by
  obtain ⟨_, ax, cx, hbx, _, _⟩ := id hx.bs
  obtain ⟨_, ay, cy, hby, _, _⟩ := id hy.bs
  have SM := Same_sp (cxv x.u x.mv) (cxv y.u y.mv) x.u y.u x.l y.l h ⟨x.hu, _, rfl, hx.ds⟩ ⟨y.hu, _, rfl, hy.ds⟩ lx ly
  have BE := bytesEqual_sp x.bv y.bv x.b y.b h hx.bs hy.bs hx.by8 hy.by8
  rw [hbx, hby] at BE
  have hxl := ycj (mv := x.mv) x.hu
  have hyl := ycj (mv := y.mv) y.hu
  have ea : decide (x.a = y.a) = (decide (x.d = y.d) && (sameC x.u x.l y.u y.l && decide (x.b = y.b))) := by
    unfold sameC Sb.a
    simp only [Prod.mk.injEq, Bool.decide_and, Bool.and_assoc]
  rw [ea]
  by_cases hd : x.d = y.d
  · have hD : decide (x.d = y.d) = true := decide_eq_true hd
    rw [hD]
    cases hS : sameC x.u x.l y.u y.l with
    | false =>
      rw [hS] at SM
      refine calls_enter Try.func44 rfl Try.ntmps44 rfl s ?_
      repeat' (first|(refine ycf ?_;apply ybk;(·first|(first|(refine qv_eql_agg (t := true) rfl rfl (fun w => by rw [← hD];exact dot_eq _ _ w))|(apply yad;(·rfl);(·first|exact sb_past (yaz 0 rfl)|exact sb_past (yaz 1 rfl));(·first|exact hxl|exact hyl))|(apply yad;(·rfl);(·first|exact sb_dot (yaz 0 rfl)|exact sb_dot (yaz 1 rfl));(·rfl)))|(apply yae;(·rfl);(·(first|exact sb_body' (yaz 0 rfl) hby|exact sb_body' (yaz 1 rfl) hbx))));(·rfl);(·rfl))|refine t1_ ?_|(refine ta_ ?_;intro _)|((fail_if_success (refine ybi rfl ?_));refine ybj rfl ?_ ?_<;>(intro ht;rw [ht];first|replace ht := of_decide_eq_true ht|replace ht := of_decide_eq_false ht|skip))|(refine ych ?_;first|(refine ybw rfl ?_ ?_<;>intro ht)|(refine ybx rfl ?_ ?_<;>intro ht)))
      repeat' (first|(refine ycf ?_;apply ybk;(·first|(first|(refine qv_eql_agg (t := true) rfl rfl (fun w => by rw [← hD];exact dot_eq _ _ w))|(apply yad;(·rfl);(·first|exact sb_past (yaz 0 rfl)|exact sb_past (yaz 1 rfl));(·first|exact hxl|exact hyl))|(apply yad;(·rfl);(·first|exact sb_dot (yaz 0 rfl)|exact sb_dot (yaz 1 rfl));(·rfl)))|(apply yae;(·rfl);(·(first|exact sb_body' (yaz 0 rfl) hby|exact sb_body' (yaz 1 rfl) hbx))));(·rfl);(·rfl))|refine t1_ ?_|(refine ta_ ?_;intro _)|((fail_if_success (refine ybi rfl ?_));refine ybj rfl ?_ ?_<;>(intro ht;rw [ht];first|replace ht := of_decide_eq_true ht|replace ht := of_decide_eq_false ht|skip))|(refine ych ?_;first|(refine ybw rfl ?_ ?_<;>intro ht)|(refine ybx rfl ?_ ?_<;>intro ht)))
      (refine ycn (ycp Try.func45 rfl (by kernel_rfl) rfl) (SM) rfl rfl rfl ?_ ?_; (· (exact to_)))
      repeat' (first|(refine ycf ?_;apply ybk;(·first|(first|(refine qv_eql_agg (t := true) rfl rfl (fun w => by rw [← hD];exact dot_eq _ _ w))|(apply yad;(·rfl);(·first|exact sb_past (yaz 0 rfl)|exact sb_past (yaz 1 rfl));(·first|exact hxl|exact hyl))|(apply yad;(·rfl);(·first|exact sb_dot (yaz 0 rfl)|exact sb_dot (yaz 1 rfl));(·rfl)))|(apply yae;(·rfl);(·(first|exact sb_body' (yaz 0 rfl) hby|exact sb_body' (yaz 1 rfl) hbx))));(·rfl);(·rfl))|refine t1_ ?_|(refine ta_ ?_;intro _)|((fail_if_success (refine ybi rfl ?_));refine ybj rfl ?_ ?_<;>(intro ht;rw [ht];first|replace ht := of_decide_eq_true ht|replace ht := of_decide_eq_false ht|skip))|(refine ych ?_;first|(refine ybw rfl ?_ ?_<;>intro ht)|(refine ybx rfl ?_ ?_<;>intro ht)))
      exact nx_ret1 rfl (rv_tmp rfl) (fun w' s' => ⟨rfl, s'.nil⟩)
    | true =>
      rw [hS] at SM
      refine calls_enter Try.func44 rfl Try.ntmps44 rfl s ?_
      repeat' (first|(refine ycf ?_;apply ybk;(·first|(first|(refine qv_eql_agg (t := true) rfl rfl (fun w => by rw [← hD];exact dot_eq _ _ w))|(apply yad;(·rfl);(·first|exact sb_past (yaz 0 rfl)|exact sb_past (yaz 1 rfl));(·first|exact hxl|exact hyl))|(apply yad;(·rfl);(·first|exact sb_dot (yaz 0 rfl)|exact sb_dot (yaz 1 rfl));(·rfl)))|(apply yae;(·rfl);(·(first|exact sb_body' (yaz 0 rfl) hby|exact sb_body' (yaz 1 rfl) hbx))));(·rfl);(·rfl))|refine t1_ ?_|(refine ta_ ?_;intro _)|((fail_if_success (refine ybi rfl ?_));refine ybj rfl ?_ ?_<;>(intro ht;rw [ht];first|replace ht := of_decide_eq_true ht|replace ht := of_decide_eq_false ht|skip))|(refine ych ?_;first|(refine ybw rfl ?_ ?_<;>intro ht)|(refine ybx rfl ?_ ?_<;>intro ht)))
      repeat' (first|(refine ycf ?_;apply ybk;(·first|(first|(refine qv_eql_agg (t := true) rfl rfl (fun w => by rw [← hD];exact dot_eq _ _ w))|(apply yad;(·rfl);(·first|exact sb_past (yaz 0 rfl)|exact sb_past (yaz 1 rfl));(·first|exact hxl|exact hyl))|(apply yad;(·rfl);(·first|exact sb_dot (yaz 0 rfl)|exact sb_dot (yaz 1 rfl));(·rfl)))|(apply yae;(·rfl);(·(first|exact sb_body' (yaz 0 rfl) hby|exact sb_body' (yaz 1 rfl) hbx))));(·rfl);(·rfl))|refine t1_ ?_|(refine ta_ ?_;intro _)|((fail_if_success (refine ybi rfl ?_));refine ybj rfl ?_ ?_<;>(intro ht;rw [ht];first|replace ht := of_decide_eq_true ht|replace ht := of_decide_eq_false ht|skip))|(refine ych ?_;first|(refine ybw rfl ?_ ?_<;>intro ht)|(refine ybx rfl ?_ ?_<;>intro ht)))
      (refine ycn (ycp Try.func45 rfl (by kernel_rfl) rfl) (SM) rfl rfl rfl ?_ ?_; (· (exact to_)))
      repeat' (first|(refine ycf ?_;apply ybk;(·first|(first|(refine qv_eql_agg (t := true) rfl rfl (fun w => by rw [← hD];exact dot_eq _ _ w))|(apply yad;(·rfl);(·first|exact sb_past (yaz 0 rfl)|exact sb_past (yaz 1 rfl));(·first|exact hxl|exact hyl))|(apply yad;(·rfl);(·first|exact sb_dot (yaz 0 rfl)|exact sb_dot (yaz 1 rfl));(·rfl)))|(apply yae;(·rfl);(·(first|exact sb_body' (yaz 0 rfl) hby|exact sb_body' (yaz 1 rfl) hbx))));(·rfl);(·rfl))|refine t1_ ?_|(refine ta_ ?_;intro _)|((fail_if_success (refine ybi rfl ?_));refine ybj rfl ?_ ?_<;>(intro ht;rw [ht];first|replace ht := of_decide_eq_true ht|replace ht := of_decide_eq_false ht|skip))|(refine ych ?_;first|(refine ybw rfl ?_ ?_<;>intro ht)|(refine ybx rfl ?_ ?_<;>intro ht)))
      (refine ycn (ycp Try.func46 rfl (by kernel_rfl) rfl) (BE) rfl rfl rfl ?_ ?_; (· (exact to_)))
      repeat' (first|(refine ycf ?_;apply ybk;(·first|(first|(refine qv_eql_agg (t := true) rfl rfl (fun w => by rw [← hD];exact dot_eq _ _ w))|(apply yad;(·rfl);(·first|exact sb_past (yaz 0 rfl)|exact sb_past (yaz 1 rfl));(·first|exact hxl|exact hyl))|(apply yad;(·rfl);(·first|exact sb_dot (yaz 0 rfl)|exact sb_dot (yaz 1 rfl));(·rfl)))|(apply yae;(·rfl);(·(first|exact sb_body' (yaz 0 rfl) hby|exact sb_body' (yaz 1 rfl) hbx))));(·rfl);(·rfl))|refine t1_ ?_|(refine ta_ ?_;intro _)|((fail_if_success (refine ybi rfl ?_));refine ybj rfl ?_ ?_<;>(intro ht;rw [ht];first|replace ht := of_decide_eq_true ht|replace ht := of_decide_eq_false ht|skip))|(refine ych ?_;first|(refine ybw rfl ?_ ?_<;>intro ht)|(refine ybx rfl ?_ ?_<;>intro ht)))
      exact nx_ret1 rfl (rv_tmp rfl) (fun w' s' => ⟨by simp, s'.nil⟩)
  · have hD : decide (x.d = y.d) = false := decide_eq_false hd
    rw [hD]
    refine calls_enter Try.func44 rfl Try.ntmps44 rfl s ?_
    repeat' (first | (refine ycf ?_; apply ybk; (· first | (first | (refine qv_eql_agg (t := false) rfl rfl (fun w => by rw [← hD]; exact dot_eq _ _ w)) | (apply yad; (· rfl); (· first | exact sb_dot (yaz 0 rfl) | exact sb_dot (yaz 1 rfl)); (· rfl))) | (apply yae; (· rfl); (· (first | exact sb_body' (yaz 0 rfl) hby | exact sb_body' (yaz 1 rfl) hbx)))); (· rfl); (· rfl)) | refine t1_ ?_ | (refine ta_ ?_; intro _) | ((fail_if_success (refine ybi rfl ?_)); refine ybj rfl ?_ ?_ <;> (intro ht; rw [ht]; first | replace ht := of_decide_eq_true ht | replace ht := of_decide_eq_false ht | skip)) | (refine ych ?_; first | (refine ybw rfl ?_ ?_ <;> intro ht) | (refine ybx rfl ?_ ?_ <;> intro ht)))
    exact nx_ret1 rfl (rv_tmp rfl) (fun w' s' => ⟨rfl, s'.nil⟩)

theorem map_ne_len {a b : List Sb} (h : a.length ≠ b.length) : a.map Sb.a ≠ b.map Sb.a := fun e => h (by simpa using congrArg List.length e)
theorem sSame_sp (va vb : Value) (a b : List Sb) (h : View) (ha : Ss h va a) (hb : Ss h vb b) (la : a.length ≤ 4611686018427387904) (lb : b.length ≤ 4611686018427387904)
    (lla : ∀ x ∈ a, x.l.length ≤ 4611686018427387904) (llb : ∀ x ∈ b, x.l.length ≤ 4611686018427387904) (w : World) (s : St ⟨w, h, []⟩ h [] w) :
    Calls Try.prog 25 [va, vb].toArray w fun e w' => e = .returned (.bool (decide (a.map Sb.a = b.map Sb.a))) ∧ St ⟨w, h, []⟩ h [] w' := by
  have EF : ∀ w, St ⟨w, h, []⟩ h [] w → Calls Try.prog 43 [va, vb, .func (.func 44) #[] #[]].toArray w fun e w' => e = .returned (.bool (decide (a.map Sb.a = b.map Sb.a))) ∧ St ⟨w, h, []⟩ h [] w' := by
    intro w s
    obtain ⟨_, ad, cap, e1, hcap, _⟩ := id ha.1
    obtain ⟨_, ad2, cap2, e2, hcap2, _⟩ := id hb.1
    subst e1 e2
    have hs1 := ha
    have hs2 := hb
    clear ha hb
    refine calls_enter Try.func43 rfl Try.ntmps43 rfl s ?_
    repeat' (first | (refine ycf ?_; apply ybk; (· first | (first | (refine qv_eql_agg (t := false) rfl rfl (fun w => by rw [← hD]; exact dot_eq _ _ w)) | (apply yad; (· rfl); (· first | exact sb_dot (yaz 0 rfl) | exact sb_dot (yaz 1 rfl)); (· rfl))) | (apply yae; (· rfl); (· (first | exact sb_body' (yaz 0 rfl) hby | exact sb_body' (yaz 1 rfl) hbx)))); (· rfl); (· rfl)) | refine t1_ ?_ | (refine ta_ ?_; intro _) | ((fail_if_success (refine ybi rfl ?_)); refine ybj rfl ?_ ?_ <;> (intro ht; rw [ht]; first | replace ht := of_decide_eq_true ht | replace ht := of_decide_eq_false ht | skip)) | (refine ych ?_; first | (refine ybw rfl ?_ ?_ <;> intro ht) | (refine ybx rfl ?_ ?_ <;> intro ht)))
    · refine nx_ret1 rfl (rv_tmp rfl) (fun w' s' => ⟨?_, s'.nil⟩)
      rw [decide_eq_false (map_ne_len (by omega))]
    have hlm : a.length = b.length := by omega
    refine cx_loop (X := Nat) (fun k => [(0, .slice ad a.length cap), (1, .slice ad2 b.length cap2), (2, .func (.func 44) #[] #[]), (15, .slice ad a.length cap), (16, .int .i64 a.length), (17, .int .i64 k)]) (fun _ => h) (fun _ => []) (fun k => k ≤ a.length ∧ (a.take k).map Sb.a = (b.take k).map Sb.a) (fun k => a.length - k) 0 ⟨by omega, by simp⟩ ts_ (fun _ s => s) ?_
    rintro k ⟨hk, hek⟩
    by_cases hkl : k < a.length
    · have hkm : k < b.length := by omega
      obtain ⟨bs, o, rfl⟩ := hs1.1.ad (by omega) (by omega)
      obtain ⟨bs2, o2, rfl⟩ := hs2.1.ad (by omega) (by omega)
      have hel : ∀ L, Cells h L ⟨bs, o + k * 20, none⟩ (sbc a[k]) := fun L => hs1.1.elem sbc_len k hkl
      have hel2 : ∀ L, Cells h L ⟨bs2, o2 + k * 20, none⟩ (sbc b[k]) := fun L => hs2.1.elem sbc_len k hkm
      have S1 := same1_sp a[k] b[k] h (hs1.2 _ (List.getElem_mem hkl)) (hs2.2 _ (List.getElem_mem hkm)) (lla _ (List.getElem_mem hkl)) (llb _ (List.getElem_mem hkm))
      have one1 := (hs1.2 _ (List.getElem_mem hkl)).one
      have one2 := (hs2.2 _ (List.getElem_mem hkm)).one
      have ta : a.take (k + 1) = a.take k ++ [a[k]] := List.take_succ_eq_append_getElem hkl
      have tb : b.take (k + 1) = b.take k ++ [b[k]] := List.take_succ_eq_append_getElem hkm
      have hne : a[k].a ≠ b[k].a → a.map Sb.a ≠ b.map Sb.a := fun hn e => hn (by
        have := congrArg (fun l : List Ab => l[k]?) e
        simpa [hkl, hkm] using this)
      generalize a[k] = x1 at hel S1 ta hne one1
      generalize b[k] = y1 at hel2 S1 tb hne one2
      have hx1 := sbc_len x1
      have hy1 := sbc_len y1
      cases hP : decide (x1.a = y1.a) with
      | true =>
        rw [hP] at S1
        repeat' (first|(refine ycf ?_;apply ybk;(·first|(first|(apply yad;(·rfl);(·exact hel _);(·exact hx1))|(apply yad;(·rfl);(·exact hel2 _);(·exact hy1))|(apply yad;(·rfl);(·exact yaz 1 rfl);(·exact hx1))|(apply yad;(·rfl);(·exact yaz 0 rfl);(·exact hy1)))|(apply yae;(·rfl);(·(first|exact sb_body' (yaz 0 rfl) hby|exact sb_body' (yaz 1 rfl) hbx))));(·rfl);(·rfl))|(first|(refine ybg 0 rfl rfl rfl (sbc_sz x1) (sbc_fit rfl) (sbc_one one1.1 one1.2) (ybh (sbc_all rfl)) rfl rfl ?_ ?_ ?_;(·(exact to_));(·(exact to_)))|(refine ybg 0 rfl rfl rfl (sbc_sz y1) (sbc_fit rfl) (sbc_one one2.1 one2.2) (ybh (sbc_all rfl)) rfl rfl ?_ ?_ ?_;(·(exact to_));(·(exact to_))))|refine t1_ ?_|(refine ta_ ?_;intro _)|((fail_if_success (refine ybi rfl ?_));refine ybj rfl ?_ ?_<;>(intro ht;rw [ht];first|replace ht := of_decide_eq_true ht|replace ht := of_decide_eq_false ht|skip))|(refine ych ?_;first|(refine ybw rfl ?_ ?_<;>intro ht)|(refine ybx rfl ?_ ?_<;>intro ht)))
        · (refine ycn (call_val rfl Try.func44 rfl (by kernel_rfl) rfl) S1 rfl rfl rfl ?_ ?_; (· (exact to_)))
          repeat' (first|(refine ycf ?_;apply ybk;(·first|(first|(apply yad;(·rfl);(·exact hel _);(·exact hx1))|(apply yad;(·rfl);(·exact hel2 _);(·exact hy1))|(apply yad;(·rfl);(·exact yaz 1 rfl);(·exact hx1))|(apply yad;(·rfl);(·exact yaz 0 rfl);(·exact hy1)))|(apply yae;(·rfl);(·(first|exact sb_body' (yaz 0 rfl) hby|exact sb_body' (yaz 1 rfl) hbx))));(·rfl);(·rfl))|(first|(refine ybg 0 rfl rfl rfl (sbc_sz x1) (sbc_fit rfl) (sbc_one one1.1 one1.2) (ybh (sbc_all rfl)) rfl rfl ?_ ?_ ?_;(·(exact to_));(·(exact to_)))|(refine ybg 0 rfl rfl rfl (sbc_sz y1) (sbc_fit rfl) (sbc_one one2.1 one2.2) (ybh (sbc_all rfl)) rfl rfl ?_ ?_ ?_;(·(exact to_));(·(exact to_))))|refine t1_ ?_|(refine ta_ ?_;intro _)|((fail_if_success (refine ybi rfl ?_));refine ybj rfl ?_ ?_<;>(intro ht;rw [ht];first|replace ht := of_decide_eq_true ht|replace ht := of_decide_eq_false ht|skip))|(refine ych ?_;first|(refine ybw rfl ?_ ?_<;>intro ht)|(refine ybx rfl ?_ ?_<;>intro ht)))
          refine nx_round (k + 1) ⟨by omega, ?_⟩ (by omega) ts_ (fun _ s => s.nil)
          rw [ta, tb, List.map_append, List.map_append, hek]
          congr 1
          simpa using of_decide_eq_true hP
        · omega
      | false =>
        rw [hP] at S1
        repeat' (first|(refine ycf ?_;apply ybk;(·first|(first|(apply yad;(·rfl);(·exact hel _);(·exact hx1))|(apply yad;(·rfl);(·exact hel2 _);(·exact hy1))|(apply yad;(·rfl);(·exact yaz 1 rfl);(·exact hx1))|(apply yad;(·rfl);(·exact yaz 0 rfl);(·exact hy1)))|(apply yae;(·rfl);(·(first|exact sb_body' (yaz 0 rfl) hby|exact sb_body' (yaz 1 rfl) hbx))));(·rfl);(·rfl))|(first|(refine ybg 0 rfl rfl rfl (sbc_sz x1) (sbc_fit rfl) (sbc_one one1.1 one1.2) (ybh (sbc_all rfl)) rfl rfl ?_ ?_ ?_;(·(exact to_));(·(exact to_)))|(refine ybg 0 rfl rfl rfl (sbc_sz y1) (sbc_fit rfl) (sbc_one one2.1 one2.2) (ybh (sbc_all rfl)) rfl rfl ?_ ?_ ?_;(·(exact to_));(·(exact to_))))|refine t1_ ?_|(refine ta_ ?_;intro _)|((fail_if_success (refine ybi rfl ?_));refine ybj rfl ?_ ?_<;>(intro ht;rw [ht];first|replace ht := of_decide_eq_true ht|replace ht := of_decide_eq_false ht|skip))|(refine ych ?_;first|(refine ybw rfl ?_ ?_<;>intro ht)|(refine ybx rfl ?_ ?_<;>intro ht)))
        · (refine ycn (call_val rfl Try.func44 rfl (by kernel_rfl) rfl) S1 rfl rfl rfl ?_ ?_; (· (exact to_)))
          repeat' (first|(refine ycf ?_;apply ybk;(·first|(first|(apply yad;(·rfl);(·exact hel _);(·exact hx1))|(apply yad;(·rfl);(·exact hel2 _);(·exact hy1))|(apply yad;(·rfl);(·exact yaz 1 rfl);(·exact hx1))|(apply yad;(·rfl);(·exact yaz 0 rfl);(·exact hy1)))|(apply yae;(·rfl);(·(first|exact sb_body' (yaz 0 rfl) hby|exact sb_body' (yaz 1 rfl) hbx))));(·rfl);(·rfl))|(first|(refine ybg 0 rfl rfl rfl (sbc_sz x1) (sbc_fit rfl) (sbc_one one1.1 one1.2) (ybh (sbc_all rfl)) rfl rfl ?_ ?_ ?_;(·(exact to_));(·(exact to_)))|(refine ybg 0 rfl rfl rfl (sbc_sz y1) (sbc_fit rfl) (sbc_one one2.1 one2.2) (ybh (sbc_all rfl)) rfl rfl ?_ ?_ ?_;(·(exact to_));(·(exact to_))))|refine t1_ ?_|(refine ta_ ?_;intro _)|((fail_if_success (refine ybi rfl ?_));refine ybj rfl ?_ ?_<;>(intro ht;rw [ht];first|replace ht := of_decide_eq_true ht|replace ht := of_decide_eq_false ht|skip))|(refine ych ?_;first|(refine ybw rfl ?_ ?_<;>intro ht)|(refine ybx rfl ?_ ?_<;>intro ht)))
          refine nx_ret1 rfl (rv_tmp rfl) (fun w' s' => ⟨?_, s'.nil⟩)
          rw [decide_eq_false (hne (of_decide_eq_false hP))]
        · omega
    · repeat' (first|(refine ycf ?_;apply ybk;(·first|(first|(apply yad;(·rfl);(·exact hel _);(·exact hx1))|(apply yad;(·rfl);(·exact hel2 _);(·exact hy1))|(apply yad;(·rfl);(·exact yaz 1 rfl);(·exact hx1))|(apply yad;(·rfl);(·exact yaz 0 rfl);(·exact hy1)))|(apply yae;(·rfl);(·(first|exact sb_body' (yaz 0 rfl) hby|exact sb_body' (yaz 1 rfl) hbx))));(·rfl);(·rfl))|(first|(refine ybg 0 rfl rfl rfl (sbc_sz x1) (sbc_fit rfl) (sbc_one one1.1 one1.2) (ybh (sbc_all rfl)) rfl rfl ?_ ?_ ?_;(·(exact to_));(·(exact to_)))|(refine ybg 0 rfl rfl rfl (sbc_sz y1) (sbc_fit rfl) (sbc_one one2.1 one2.2) (ybh (sbc_all rfl)) rfl rfl ?_ ?_ ?_;(·(exact to_));(·(exact to_))))|refine t1_ ?_|(refine ta_ ?_;intro _)|((fail_if_success (refine ybi rfl ?_));refine ybj rfl ?_ ?_<;>(intro ht;rw [ht];first|replace ht := of_decide_eq_true ht|replace ht := of_decide_eq_false ht|skip))|(refine ych ?_;first|(refine ybw rfl ?_ ?_<;>intro ht)|(refine ybx rfl ?_ ?_<;>intro ht)))
      · omega
      refine nx_ret1 rfl (rv_tmp rfl) (fun w' s' => ⟨?_, s'.nil⟩)
      rw [List.take_of_length_le (by omega), List.take_of_length_le (by omega)] at hek
      rw [decide_eq_true hek]
  refine calls_enter Try.func25 rfl Try.ntmps25 rfl s ?_
  repeat' (first|(refine ycf ?_;apply ybk;(·first|(first|(apply yad;(·rfl);(·exact hel _);(·exact hx1))|(apply yad;(·rfl);(·exact hel2 _);(·exact hy1))|(apply yad;(·rfl);(·exact yaz 1 rfl);(·exact hx1))|(apply yad;(·rfl);(·exact yaz 0 rfl);(·exact hy1)))|(apply yae;(·rfl);(·(first|exact sb_body' (yaz 0 rfl) hby|exact sb_body' (yaz 1 rfl) hbx))));(·rfl);(·rfl))|(first|(refine ybg 0 rfl rfl rfl (sbc_sz x1) (sbc_fit rfl) (sbc_one one1.1 one1.2) (ybh (sbc_all rfl)) rfl rfl ?_ ?_ ?_;(·(exact to_));(·(exact to_)))|(refine ybg 0 rfl rfl rfl (sbc_sz y1) (sbc_fit rfl) (sbc_one one2.1 one2.2) (ybh (sbc_all rfl)) rfl rfl ?_ ?_ ?_;(·(exact to_));(·(exact to_))))|refine t1_ ?_|(refine ta_ ?_;intro _)|((fail_if_success (refine ybi rfl ?_));refine ybj rfl ?_ ?_<;>(intro ht;rw [ht];first|replace ht := of_decide_eq_true ht|replace ht := of_decide_eq_false ht|skip))|(refine ych ?_;first|(refine ybw rfl ?_ ?_<;>intro ht)|(refine ybx rfl ?_ ?_<;>intro ht)))
  (refine ycn (ycp Try.func43 rfl (by kernel_rfl) rfl) EF rfl rfl rfl ?_ ?_; (· (exact to_)))
  repeat' (first|(refine ycf ?_;apply ybk;(·first|(first|(apply yad;(·rfl);(·exact hel _);(·exact hx1))|(apply yad;(·rfl);(·exact hel2 _);(·exact hy1))|(apply yad;(·rfl);(·exact yaz 1 rfl);(·exact hx1))|(apply yad;(·rfl);(·exact yaz 0 rfl);(·exact hy1)))|(apply yae;(·rfl);(·(first|exact sb_body' (yaz 0 rfl) hby|exact sb_body' (yaz 1 rfl) hbx))));(·rfl);(·rfl))|(first|(refine ybg 0 rfl rfl rfl (sbc_sz x1) (sbc_fit rfl) (sbc_one one1.1 one1.2) (ybh (sbc_all rfl)) rfl rfl ?_ ?_ ?_;(·(exact to_));(·(exact to_)))|(refine ybg 0 rfl rfl rfl (sbc_sz y1) (sbc_fit rfl) (sbc_one one2.1 one2.2) (ybh (sbc_all rfl)) rfl rfl ?_ ?_ ?_;(·(exact to_));(·(exact to_))))|refine t1_ ?_|(refine ta_ ?_;intro _)|((fail_if_success (refine ybi rfl ?_));refine ybj rfl ?_ ?_<;>(intro ht;rw [ht];first|replace ht := of_decide_eq_true ht|replace ht := of_decide_eq_false ht|skip))|(refine ych ?_;first|(refine ybw rfl ?_ ?_<;>intro ht)|(refine ybx rfl ?_ ?_<;>intro ht)))
  exact nx_ret1 rfl (rv_tmp rfl) (fun w' s' => ⟨rfl, s'.nil⟩)
end Go.Proofs.Ytkkjppeaaicgaaa
end

section
namespace Go.Ck
open Go
set_option linter.unusedVariables false
theorem St.persistA {K : Bs} {h : View} {b : Nat} {o : Obj} {L : List Res} {w : World} (s : St K h (Res.blk b o :: L) w) (hA : ∀ x ∈ K.A, x ∈ doms L) : St K (addV h b o) L w := by
  have hmem : b ∈ doms (Res.blk b o :: L) := by rw [doms_cons]; exact List.mem_append_left _ (List.mem_singleton.2 rfl)
  have nd := s.nd
  rw [doms_cons] at nd
  obtain ⟨_, n2, n3⟩ := List.nodup_append.1 nd
  have hnot : b ∉ doms L := fun hb => n3 b (List.mem_singleton.2 rfl) b hb rfl
  have hb0 : K.w0.heap.size ≤ b := by
    rcases s.src b hmem with h1 | h1
    · exact absurd (hA b h1) hnot
    · exact h1
  refine ⟨s.os, s.tape, s.output, s.drawn, s.size, s.keep, ⟨fun x o' hx => ?_, fun r hr => s.hd.own r (List.mem_cons_of_mem _ hr)⟩, n2, fun x hx => s.src x (by rw [doms_cons]; exact List.mem_append_right _ hx), fun x o' hx => ?_, fun x hx hx0 => ?_, fun x hx => ?_⟩
  · unfold addV at hx
    split at hx
    · rename_i e; subst e; cases hx
      exact s.hd.own _ (List.mem_cons_self ..)
    · exact s.hd.view x o' hx
  · unfold addV
    split
    · rename_i e; subst e
      have h1 := s.grow x o' hx
      rw [s.dis x hmem] at h1; cases h1
    · exact s.grow x o' hx
  · unfold addV
    rw [if_neg (by omega)]
    exact s.new x hx hx0
  · unfold addV
    rw [if_neg (fun e => hnot (by rw [← e]; exact hx))]
    exact s.dis x (by rw [doms_cons]; exact List.mem_append_right _ hx)

section
variable {P : Program} {n : Nat} {K : Bs} {F : List (Nat × Value)} {h : View} {L : List Res} {Q : Exit → Act → World → Prop}
theorem St.rowPersistA {e : TypeId} {k m : Nat} {v : Value} {xs : List Value} {w : World} (s : St K h (Res.row e k v m xs :: L) w) (hA : ∀ x ∈ K.A, x ∈ doms L) : ∃ h', Le h h' ∧ Sc h' k v m xs ∧ St K h' L w := by
  have ho : w.ownsRow 0 e k v m xs := s.hd.own _ (List.mem_cons_self ..)
  rcases ho.2 with ⟨rfl, rfl⟩ | ⟨g, cap, cur, rfl, _, hg, hn, _, hcs, htake⟩
  · have : xs = [] := List.eq_nil_of_length_eq_zero (by rw [ho.1]; simp)
    subst this
    exact ⟨h, Le.refl h, Sc.nil h k Option.none 0, s.tl⟩
  · have hd : doms (Res.row e k (.slice (some ⟨g, 0, Option.none⟩) m cap) m xs :: L) = doms (Res.blk g (.cells cur e (0, 0)) :: L) := by simp [doms_cons, Res.row, Res.blk, Value.ownBlock]
    have s2 : St K h (Res.blk g (.cells cur e (0, 0)) :: L) w := ⟨s.os, s.tape, s.output, s.drawn, s.size, s.keep, ⟨s.hd.view, fun r hr => by
      rcases List.mem_cons.1 hr with rfl | hr
      · exact hg
      · exact s.hd.own r (List.mem_cons_of_mem _ hr)⟩, by rw [← hd]; exact s.nd, fun b hb => s.src b (by rw [hd]; exact hb), s.grow, s.new, fun b hb => s.dis b (by rw [hd]; exact hb)⟩
    refine ⟨addV h g (.cells cur e (0, 0)), Le.addV (s2.dis g (by rw [doms_cons]; exact List.mem_append_left _ (List.mem_singleton.2 rfl))), ⟨ho.1, some ⟨g, 0, Option.none⟩, cap, rfl, hn, .inr ⟨g, 0, cur, e, (0, 0), rfl, addV_same, fun j u hj => ?_⟩⟩, s2.persistA hA⟩
    rw [← htake, List.getElem?_take] at hj
    split at hj
    · simpa using hj
    · cases hj
theorem rx_persistA {g : Rg} {prs : List (Nat × Oper)} {e : TypeId} {sz m : Nat} {v : Value} {xs : List Value} (hA : ∀ x ∈ K.A, x ∈ doms L) (hx : ∀ h', Le h h' → Sc h' sz v m xs → RX P n K g prs F h' L Q) : RX P n K g prs F h (Res.row e sz v m xs :: L) Q := by
  unfold RX at *
  intro a w f s
  obtain ⟨h', h1, h2, h3⟩ := s.rowPersistA hA
  exact hx h' h1 h2 a w f h3
end
end Go.Ck
end
