/-
  Part 17 of a proof: SbRa CkBits CkTc ShA CkCopy.
  Conditions: each theorem states its own.
-/
import Derived.Laws.CopyRow
import Derived.Test.YtkkjppeaaicgaaaGreatDoorSrGPM16
section
namespace Go.Proofs.YtkkjppeaaicgaaaGreatDoor
open Go Go.Ck
set_option maxRecDepth 100000
set_option maxHeartbeats 4000000
set_option linter.unusedVariables false
theorem rright_sp (z : Sb) (h : View) (hx : Rv h z) (hl : z.l.length ≤ 4611686018427387904) (hbl : z.b.length ≤ 9223372036854775807) (w : World) (s : St ⟨w, h, []⟩ h [] w) :
    Calls Tryz.prog 19 [sbv z].toArray w fun e w' => e = .returned (.bool (rightA z.a)) ∧ St ⟨w, h, []⟩ h [] w' := by
  have hc1 : Cx h (cxv z.u z.mv) z.u z.l := ⟨z.hu, _, rfl, hx.ds⟩
  have hbs := hx.bs
  refine calls_enter Tryz.func19 rfl Tryz.ntmps19 rfl s ?_
  have ea : rightA z.a = (rightB z.d && (decide (checkC z.u z.l = 0) && (!(decide (checkC z.u z.l = 0) && rightB z.d && hasC z.u z.l z.d) && decide ((z.b.length : Int) ≤ 16384)))) := rfl
  rw [ea]
  have D1 := refDot_sp z.d h
  cases hR : rightB z.d with
  | false =>
    rw [hR] at D1
    repeat' (first|(refine ycf ?_;apply ybk;(·first|(first|(apply yad;(·rfl);(·exact sb_past (yaz 0 rfl));(·exact ycj z.hu))|(apply yad;(·rfl);(·exact sb_dot (yaz 0 rfl));(·rfl))|exact qv_len_bstr rfl)|(apply yae;(·rfl);(·(exact sb_body0 (yaz 0 rfl) hbs))));(·rfl);(·rfl))|refine t1_ ?_|(refine ta_ ?_;intro _)|((fail_if_success (refine ybi rfl ?_));refine ybj rfl ?_ ?_<;>(intro ht;rw [ht];first|replace ht := oet_ ht|replace ht := oef_ ht|skip))|(refine ych ?_;first|(refine ybw rfl ?_ ?_<;>intro ht)|(refine ybx rfl ?_ ?_<;>intro ht)))
    (refine ycn (ycp Tryz.func51 rfl (by kernel_rfl) rfl) (D1) rfl rfl rfl ?_ ?_; (· (exact to_)))
    repeat' (first|(refine ycf ?_;apply ybk;(·first|(first|(apply yad;(·rfl);(·exact sb_past (yaz 0 rfl));(·exact ycj z.hu))|(apply yad;(·rfl);(·exact sb_dot (yaz 0 rfl));(·rfl))|exact qv_len_bstr rfl)|(apply yae;(·rfl);(·(exact sb_body0 (yaz 0 rfl) hbs))));(·rfl);(·rfl))|refine t1_ ?_|(refine ta_ ?_;intro _)|((fail_if_success (refine ybi rfl ?_));refine ybj rfl ?_ ?_<;>(intro ht;rw [ht];first|replace ht := oet_ ht|replace ht := oef_ ht|skip))|(refine ych ?_;first|(refine ybw rfl ?_ ?_<;>intro ht)|(refine ybx rfl ?_ ?_<;>intro ht)))
    exact nx_ret1 rfl (rv_tmp rfl) (fun w' s' => ⟨by simp, s'.nil⟩)
  | true =>
    rw [hR] at D1
    have K1 := refCheck_sp _ z.u z.l h hc1 hl
    have H1 := refHas_sp _ z.u z.l z.d h hc1 hl hR
    by_cases hk : checkC z.u z.l = 0
    · rw [hk] at K1 ⊢
      rw [show decide ((0 : Int) = 0) = true from rfl, Bool.true_and]
      cases hH : hasC z.u z.l z.d with
      | true =>
        rw [hH] at H1
        repeat' (first|(refine ycf ?_;apply ybk;(·first|(first|(apply yad;(·rfl);(·exact sb_past (yaz 0 rfl));(·exact ycj z.hu))|(apply yad;(·rfl);(·exact sb_dot (yaz 0 rfl));(·rfl))|exact qv_len_bstr rfl)|(apply yae;(·rfl);(·(exact sb_body0 (yaz 0 rfl) hbs))));(·rfl);(·rfl))|refine t1_ ?_|(refine ta_ ?_;intro _)|((fail_if_success (refine ybi rfl ?_));refine ybj rfl ?_ ?_<;>(intro ht;rw [ht];first|replace ht := oet_ ht|replace ht := oef_ ht|skip))|(refine ych ?_;first|(refine ybw rfl ?_ ?_<;>intro ht)|(refine ybx rfl ?_ ?_<;>intro ht)))
        (refine ycn (ycp Tryz.func51 rfl (by kernel_rfl) rfl) (D1) rfl rfl rfl ?_ ?_; (· (exact to_)))
        repeat' (first|(refine ycf ?_;apply ybk;(·first|(first|(apply yad;(·rfl);(·exact sb_past (yaz 0 rfl));(·exact ycj z.hu))|(apply yad;(·rfl);(·exact sb_dot (yaz 0 rfl));(·rfl))|exact qv_len_bstr rfl)|(apply yae;(·rfl);(·(exact sb_body0 (yaz 0 rfl) hbs))));(·rfl);(·rfl))|refine t1_ ?_|(refine ta_ ?_;intro _)|((fail_if_success (refine ybi rfl ?_));refine ybj rfl ?_ ?_<;>(intro ht;rw [ht];first|replace ht := oet_ ht|replace ht := oef_ ht|skip))|(refine ych ?_;first|(refine ybw rfl ?_ ?_<;>intro ht)|(refine ybx rfl ?_ ?_<;>intro ht)))
        (refine ycn (ycp Tryz.func52 rfl (by kernel_rfl) rfl) (K1) rfl rfl rfl ?_ ?_; (· (exact to_)))
        repeat' (first|(refine ycf ?_;apply ybk;(·first|(first|(apply yad;(·rfl);(·exact sb_past (yaz 0 rfl));(·exact ycj z.hu))|(apply yad;(·rfl);(·exact sb_dot (yaz 0 rfl));(·rfl))|exact qv_len_bstr rfl)|(apply yae;(·rfl);(·(exact sb_body0 (yaz 0 rfl) hbs))));(·rfl);(·rfl))|refine t1_ ?_|(refine ta_ ?_;intro _)|((fail_if_success (refine ybi rfl ?_));refine ybj rfl ?_ ?_<;>(intro ht;rw [ht];first|replace ht := oet_ ht|replace ht := oef_ ht|skip))|(refine ych ?_;first|(refine ybw rfl ?_ ?_<;>intro ht)|(refine ybx rfl ?_ ?_<;>intro ht)))
        (refine ycn (ycp Tryz.func21 rfl (by kernel_rfl) rfl) (H1) rfl rfl rfl ?_ ?_; (· (exact to_)))
        repeat' (first|(refine ycf ?_;apply ybk;(·first|(first|(apply yad;(·rfl);(·exact sb_past (yaz 0 rfl));(·exact ycj z.hu))|(apply yad;(·rfl);(·exact sb_dot (yaz 0 rfl));(·rfl))|exact qv_len_bstr rfl)|(apply yae;(·rfl);(·(exact sb_body0 (yaz 0 rfl) hbs))));(·rfl);(·rfl))|refine t1_ ?_|(refine ta_ ?_;intro _)|((fail_if_success (refine ybi rfl ?_));refine ybj rfl ?_ ?_<;>(intro ht;rw [ht];first|replace ht := oet_ ht|replace ht := oef_ ht|skip))|(refine ych ?_;first|(refine ybw rfl ?_ ?_<;>intro ht)|(refine ybx rfl ?_ ?_<;>intro ht)))
        exact nx_ret1 rfl (rv_tmp rfl) (fun w' s' => ⟨by simp, s'.nil⟩)
      | false =>
        rw [hH] at H1
        repeat' (first|(refine ycf ?_;apply ybk;(·first|(first|(apply yad;(·rfl);(·exact sb_past (yaz 0 rfl));(·exact ycj z.hu))|(apply yad;(·rfl);(·exact sb_dot (yaz 0 rfl));(·rfl))|exact qv_len_bstr rfl)|(apply yae;(·rfl);(·(exact sb_body0 (yaz 0 rfl) hbs))));(·rfl);(·rfl))|refine t1_ ?_|(refine ta_ ?_;intro _)|((fail_if_success (refine ybi rfl ?_));refine ybj rfl ?_ ?_<;>(intro ht;rw [ht];first|replace ht := oet_ ht|replace ht := oef_ ht|skip))|(refine ych ?_;first|(refine ybw rfl ?_ ?_<;>intro ht)|(refine ybx rfl ?_ ?_<;>intro ht)))
        (refine ycn (ycp Tryz.func51 rfl (by kernel_rfl) rfl) (D1) rfl rfl rfl ?_ ?_; (· (exact to_)))
        repeat' (first|(refine ycf ?_;apply ybk;(·first|(first|(apply yad;(·rfl);(·exact sb_past (yaz 0 rfl));(·exact ycj z.hu))|(apply yad;(·rfl);(·exact sb_dot (yaz 0 rfl));(·rfl))|exact qv_len_bstr rfl)|(apply yae;(·rfl);(·(exact sb_body0 (yaz 0 rfl) hbs))));(·rfl);(·rfl))|refine t1_ ?_|(refine ta_ ?_;intro _)|((fail_if_success (refine ybi rfl ?_));refine ybj rfl ?_ ?_<;>(intro ht;rw [ht];first|replace ht := oet_ ht|replace ht := oef_ ht|skip))|(refine ych ?_;first|(refine ybw rfl ?_ ?_<;>intro ht)|(refine ybx rfl ?_ ?_<;>intro ht)))
        (refine ycn (ycp Tryz.func52 rfl (by kernel_rfl) rfl) (K1) rfl rfl rfl ?_ ?_; (· (exact to_)))
        repeat' (first|(refine ycf ?_;apply ybk;(·first|(first|(apply yad;(·rfl);(·exact sb_past (yaz 0 rfl));(·exact ycj z.hu))|(apply yad;(·rfl);(·exact sb_dot (yaz 0 rfl));(·rfl))|exact qv_len_bstr rfl)|(apply yae;(·rfl);(·(exact sb_body0 (yaz 0 rfl) hbs))));(·rfl);(·rfl))|refine t1_ ?_|(refine ta_ ?_;intro _)|((fail_if_success (refine ybi rfl ?_));refine ybj rfl ?_ ?_<;>(intro ht;rw [ht];first|replace ht := oet_ ht|replace ht := oef_ ht|skip))|(refine ych ?_;first|(refine ybw rfl ?_ ?_<;>intro ht)|(refine ybx rfl ?_ ?_<;>intro ht)))
        (refine ycn (ycp Tryz.func21 rfl (by kernel_rfl) rfl) (H1) rfl rfl rfl ?_ ?_; (· (exact to_)))
        repeat' (first|(refine ycf ?_;apply ybk;(·first|(first|(apply yad;(·rfl);(·exact sb_past (yaz 0 rfl));(·exact ycj z.hu))|(apply yad;(·rfl);(·exact sb_dot (yaz 0 rfl));(·rfl))|exact qv_len_bstr rfl)|(apply yae;(·rfl);(·(exact sb_body0 (yaz 0 rfl) hbs))));(·rfl);(·rfl))|refine t1_ ?_|(refine ta_ ?_;intro _)|((fail_if_success (refine ybi rfl ?_));refine ybj rfl ?_ ?_<;>(intro ht;rw [ht];first|replace ht := oet_ ht|replace ht := oef_ ht|skip))|(refine ych ?_;first|(refine ybw rfl ?_ ?_<;>intro ht)|(refine ybx rfl ?_ ?_<;>intro ht)))
        exact nx_ret1 rfl (rv_tmp rfl) (fun w' s' => ⟨by simp, s'.nil⟩)
    · generalize checkC z.u z.l = cz at hk K1 ⊢
      rw [decide_eq_false hk]
      repeat' (first|(refine ycf ?_;apply ybk;(·first|(first|(apply qv_eql_no;(·rfl);(·rfl);(·exact hk))|(apply yad;(·rfl);(·exact sb_past (yaz 0 rfl));(·exact ycj z.hu))|(apply yad;(·rfl);(·exact sb_dot (yaz 0 rfl));(·rfl)))|(apply yae;(·rfl);(·(exact sb_body0 (yaz 0 rfl) hbs))));(·rfl);(·rfl))|refine t1_ ?_|(refine ta_ ?_;intro _)|((fail_if_success (refine ybi rfl ?_));refine ybj rfl ?_ ?_<;>(intro ht;rw [ht];first|replace ht := oet_ ht|replace ht := oef_ ht|skip))|(refine ych ?_;first|(refine ybw rfl ?_ ?_<;>intro ht)|(refine ybx rfl ?_ ?_<;>intro ht)))
      (refine ycn (ycp Tryz.func51 rfl (by kernel_rfl) rfl) (D1) rfl rfl rfl ?_ ?_; (· (exact to_)))
      repeat' (first|(refine ycf ?_;apply ybk;(·first|(first|(apply qv_eql_no;(·rfl);(·rfl);(·exact hk))|(apply yad;(·rfl);(·exact sb_past (yaz 0 rfl));(·exact ycj z.hu))|(apply yad;(·rfl);(·exact sb_dot (yaz 0 rfl));(·rfl)))|(apply yae;(·rfl);(·(exact sb_body0 (yaz 0 rfl) hbs))));(·rfl);(·rfl))|refine t1_ ?_|(refine ta_ ?_;intro _)|((fail_if_success (refine ybi rfl ?_));refine ybj rfl ?_ ?_<;>(intro ht;rw [ht];first|replace ht := oet_ ht|replace ht := oef_ ht|skip))|(refine ych ?_;first|(refine ybw rfl ?_ ?_<;>intro ht)|(refine ybx rfl ?_ ?_<;>intro ht)))
      (refine ycn (ycp Tryz.func52 rfl (by kernel_rfl) rfl) (K1) rfl rfl rfl ?_ ?_; (· (exact to_)))
      repeat' (first|(refine ycf ?_;apply ybk;(·first|(first|(apply qv_eql_no;(·rfl);(·rfl);(·exact hk))|(apply yad;(·rfl);(·exact sb_past (yaz 0 rfl));(·exact ycj z.hu))|(apply yad;(·rfl);(·exact sb_dot (yaz 0 rfl));(·rfl)))|(apply yae;(·rfl);(·(exact sb_body0 (yaz 0 rfl) hbs))));(·rfl);(·rfl))|refine t1_ ?_|(refine ta_ ?_;intro _)|((fail_if_success (refine ybi rfl ?_));refine ybj rfl ?_ ?_<;>(intro ht;rw [ht];first|replace ht := oet_ ht|replace ht := oef_ ht|skip))|(refine ych ?_;first|(refine ybw rfl ?_ ?_<;>intro ht)|(refine ybx rfl ?_ ?_<;>intro ht)))
      exact nx_ret1 rfl (rv_tmp rfl) (fun w' s' => ⟨by simp, s'.nil⟩)
theorem rbefore_sp (a b : Dt) (h : View) (w : World) (s : St ⟨w, h, []⟩ h [] w) :
    Calls Tryz.prog 20 [dv a, dv b].toArray w fun e w' => e = .returned (.bool (decide (ordD a b < 0))) ∧ St ⟨w, h, []⟩ h [] w' := by
  refine calls_enter Tryz.func20 rfl Tryz.ntmps20 rfl s ?_
  by_cases h1 : a.1 < b.1
  · rw [decide_eq_true (ord_neg.2 (.inl h1))]
    repeat' (first|(refine ycf ?_;apply ybk;(·first|(exact tk_)|(apply yae;(·rfl);(·(exact sb_body0 (yaz 0 rfl) hbs))));(·rfl);(·rfl))|refine t1_ ?_|(refine ta_ ?_;intro _)|((fail_if_success (refine ybi rfl ?_));refine ybj rfl ?_ ?_<;>(intro ht;rw [ht];first|replace ht := oet_ ht|replace ht := oef_ ht|skip))|(refine ych ?_;first|(refine ybw rfl ?_ ?_<;>intro ht)|(refine ybx rfl ?_ ?_<;>intro ht)))
    exact nx_ret1 rfl (rv_tmp rfl) (fun w' s' => ⟨rfl, s'.nil⟩)
  · by_cases h2 : a.1 = b.1
    · by_cases h3 : a.2 < b.2
      · rw [decide_eq_true (ord_neg.2 (.inr ⟨h2, h3⟩))]
        repeat' (first|(refine ycf ?_;apply ybk;(·first|(exact tk_)|(apply yae;(·rfl);(·(exact sb_body0 (yaz 0 rfl) hbs))));(·rfl);(·rfl))|refine t1_ ?_|(refine ta_ ?_;intro _)|((fail_if_success (refine ybi rfl ?_));refine ybj rfl ?_ ?_<;>(intro ht;rw [ht];first|replace ht := oet_ ht|replace ht := oef_ ht|skip))|(refine ych ?_;first|(refine ybw rfl ?_ ?_<;>intro ht)|(refine ybx rfl ?_ ?_<;>intro ht)))
        exact nx_ret1 rfl (rv_tmp rfl) (fun w' s' => ⟨rfl, s'.nil⟩)
      · rw [decide_eq_false (fun q => by rw [ord_neg] at q; omega)]
        repeat' (first|(refine ycf ?_;apply ybk;(·first|(exact tk_)|(apply yae;(·rfl);(·(exact sb_body0 (yaz 0 rfl) hbs))));(·rfl);(·rfl))|refine t1_ ?_|(refine ta_ ?_;intro _)|((fail_if_success (refine ybi rfl ?_));refine ybj rfl ?_ ?_<;>(intro ht;rw [ht];first|replace ht := oet_ ht|replace ht := oef_ ht|skip))|(refine ych ?_;first|(refine ybw rfl ?_ ?_<;>intro ht)|(refine ybx rfl ?_ ?_<;>intro ht)))
        exact nx_ret1 rfl (rv_tmp rfl) (fun w' s' => ⟨rfl, s'.nil⟩)
    · rw [decide_eq_false (fun q => by rw [ord_neg] at q; omega)]
      repeat' (first|(refine ycf ?_;apply ybk;(·first|(exact tk_)|(apply yae;(·rfl);(·(exact sb_body0 (yaz 0 rfl) hbs))));(·rfl);(·rfl))|refine t1_ ?_|(refine ta_ ?_;intro _)|((fail_if_success (refine ybi rfl ?_));refine ybj rfl ?_ ?_<;>(intro ht;rw [ht];first|replace ht := oet_ ht|replace ht := oef_ ht|skip))|(refine ych ?_;first|(refine ybw rfl ?_ ?_<;>intro ht)|(refine ybx rfl ?_ ?_<;>intro ht)))
      exact nx_ret1 rfl (rv_tmp rfl) (fun w' s' => ⟨rfl, s'.nil⟩)
theorem hasA_of {x : Sb} {d : Dt} (hx : rightA x.a = true) (hd : rightB d = true) : hasA x.a d = hasC x.u x.l d := by
  have := (rightA_ok hx).2.1
  show (decide (checkC x.u x.l = 0) && rightB d && hasC x.u x.l d) = _
  rw [show checkC x.u x.l = 0 from this, hd]
  rfl
theorem rcheck_sp (v : Value) (l : List Sb) (h : View) (hs : Rs h v l) (hl : l.length ≤ 4611686018427387904) (hll : ∀ x ∈ l, x.l.length ≤ 4611686018427387904 ∧ x.b.length ≤ 4611686018427387904) (w : World) (s : St ⟨w, h, []⟩ h [] w) :
    Calls Tryz.prog 6 [v].toArray w fun e w' => e = .returned (.int .i64 (checkA (l.map Sb.a))) ∧ St ⟨w, h, []⟩ h [] w' := by
  obtain ⟨hs, hsv⟩ := hs
  obtain ⟨_, ad, cap, rfl, hcap, _⟩ := id hs
  refine calls_enter Tryz.func6 rfl Tryz.ntmps6 rfl s ?_
  by_cases h64 : 64 < l.length
  · have e5 : checkA (l.map Sb.a) = 5 := by unfold checkA; rw [List.length_map, if_pos h64]
    repeat' (first|(refine ycf ?_;apply ybk;(·first|(exact tk_));(·rfl);(·rfl))|refine t1_ ?_|(refine ta_ ?_;intro _)|((fail_if_success (refine ybi rfl ?_));refine ybj rfl ?_ ?_<;>(intro ht;rw [ht];first|replace ht := oet_ ht|replace ht := oef_ ht|skip))|(refine ych ?_;first|(refine ybw rfl ?_ ?_<;>intro ht)|(refine ybx rfl ?_ ?_<;>intro ht)))
    exact nx_ret1 rfl (rv_tmp rfl) (fun w' s' => ⟨by rw [e5], s'.nil⟩)
  repeat' (first|(refine ycf ?_;apply ybk;(·first|(exact tk_));(·rfl);(·rfl))|refine t1_ ?_|(refine ta_ ?_;intro _)|((fail_if_success (refine ybi rfl ?_));refine ybj rfl ?_ ?_<;>(intro ht;rw [ht];first|replace ht := oet_ ht|replace ht := oef_ ht|skip))|(refine ych ?_;first|(refine ybw rfl ?_ ?_<;>intro ht)|(refine ybx rfl ?_ ?_<;>intro ht)))
  refine cx_loop (X := Nat) (fun k => [(0, .slice ad l.length cap), (3, .int .i64 k)]) (fun _ => h) (fun _ => []) (fun k => k ≤ l.length ∧ ∀ j, j < k → badAt (l.map Sb.a) j = false) (fun k => l.length - k) 0 ⟨by omega, fun j hj => by omega⟩ ts_ (fun _ s => s) ?_
  rintro k ⟨hk, hok⟩
  by_cases hkl : k < l.length
  · obtain ⟨bs, o, rfl⟩ := hs.ad (by omega) (by omega)
    have hel : ∀ L, Cells h L ⟨bs, o + k * 20, none⟩ (sbc l[k]) := fun L => hs.elem sbc_len k hkl
    have hxv := hsv _ (List.getElem_mem hkl)
    have hlim := hll _ (List.getElem_mem hkl)
    have hbad := badAt_eq hkl
    have e1 : badAt (l.map Sb.a) k = true → checkA (l.map Sb.a) = 1 := fun hb => by
      unfold checkA
      rw [List.length_map, if_neg h64, ← List.length_map (f := Sb.a), if_pos (bad_yes (by simpa using hkl) hb)]
    have hnext : badAt (l.map Sb.a) k = false → ∀ j, j < k + 1 → badAt (l.map Sb.a) j = false := fun hb j hj => by
      by_cases e : j = k
      · subst e; exact hb
      · exact hok j (by omega)
    have R1 := rright_sp l[k] h hxv hlim.1 (by omega)
    have B1 := fun d => rbefore_sp d l[k].d h
    generalize l[k] = x0 at hel hxv hlim hbad R1 B1
    have hxl := sbc_len x0
    cases hR : rightA x0.a with
    | false =>
      rw [hR] at R1 hbad
      have := e1 (by rw [hbad]; rfl)
      repeat' (first|(refine ycf ?_;apply ybk;(·first|(first|exact tk_|(apply yad;(·rfl);(·exact hel _);(·exact hxl))|(apply yad;(·rfl);(·exact sb_dot (hel _));(·rfl))));(·rfl);(·rfl))|refine t1_ ?_|(refine ta_ ?_;intro _)|((fail_if_success (refine ybi rfl ?_));refine ybj rfl ?_ ?_<;>(intro ht;rw [ht];first|replace ht := oet_ ht|replace ht := oef_ ht|skip))|(refine ych ?_;first|(refine ybw rfl ?_ ?_<;>intro ht)|(refine ybx rfl ?_ ?_<;>intro ht)))
      refine cx_region_draw' rfl (by kernel_rfl) ?_
      repeat' (refine ycf ?_;(first|(first|(apply ybm;(·(first|(first|exact tk_|(apply yad;(·rfl);(·exact hel _);(·exact hxl))|(apply yad;(·rfl);(·exact sb_dot (hel _));(·rfl)))|exact tq_));(·rfl);(·rfl);(·(exact th_)))|refine ybl rfl rfl ?_|((fail_if_success (refine ybi rfl ?_));refine ybj rfl ?_ ?_<;>(intro ht;rw [ht];first|replace ht := oet_ ht|replace ht := oef_ ht|skip))|(refine tb_ ?_ ?_ ?_;(·(exact to_));(·intro _;(exact to_));intro _)|(first|(refine tqs_ ?_ ?_ ?_;(·(exact to_));(·(exact to_))))|(apply ybn;(·(first|(first|exact tk_|(apply yad;(·rfl);(·exact hel _);(·exact hxl))|(apply yad;(·rfl);(·exact sb_dot (hel _));(·rfl)))|exact tq_));(·rfl);(·rfl);(·rfl);(·(exact to_))))|refine ycg ?_))
      (refine ycn (ycp Tryz.func19 rfl (by kernel_rfl) rfl) (R1) rfl rfl rfl ?_ ?_; (· (exact to_)))
      repeat' (refine ycf ?_;(first|(first|(apply ybm;(·(first|(first|exact tk_|(apply yad;(·rfl);(·exact hel _);(·exact hxl))|(apply yad;(·rfl);(·exact sb_dot (hel _));(·rfl)))|exact tq_));(·rfl);(·rfl);(·(exact th_)))|refine ybl rfl rfl ?_|((fail_if_success (refine ybi rfl ?_));refine ybj rfl ?_ ?_<;>(intro ht;rw [ht];first|replace ht := oet_ ht|replace ht := oef_ ht|skip))|(refine tb_ ?_ ?_ ?_;(·(exact to_));(·intro _;(exact to_));intro _)|(first|(refine tqs_ ?_ ?_ ?_;(·(exact to_));(·(exact to_))))|(apply ybn;(·(first|(first|exact tk_|(apply yad;(·rfl);(·exact hel _);(·exact hxl))|(apply yad;(·rfl);(·exact sb_dot (hel _));(·rfl)))|exact tq_));(·rfl);(·rfl);(·rfl);(·(exact to_))))|refine ycg ?_))
      repeat' (first|(refine ycf ?_;apply ybk;(·first|(first|exact tk_|(apply yad;(·rfl);(·exact hel _);(·exact hxl))|(apply yad;(·rfl);(·exact sb_dot (hel _));(·rfl))));(·rfl);(·rfl))|refine t1_ ?_|(refine ta_ ?_;intro _)|((fail_if_success (refine ybi rfl ?_));refine ybj rfl ?_ ?_<;>(intro ht;rw [ht];first|replace ht := oet_ ht|replace ht := oef_ ht|skip))|(refine ych ?_;first|(refine ybw rfl ?_ ?_<;>intro ht)|(refine ybx rfl ?_ ?_<;>intro ht)))
      exact nx_ret1 rfl (rv_tmp rfl) (fun w' s' => ⟨by rw [this], s'.nil⟩)
    | true =>
      rw [hR] at R1 hbad
      by_cases h0 : k = 0
      · subst h0
        repeat' (first|(refine ycf ?_;apply ybk;(·first|(first|exact tk_|(apply yad;(·rfl);(·exact hel _);(·exact hxl))|(apply yad;(·rfl);(·exact sb_dot (hel _));(·rfl))));(·rfl);(·rfl))|refine t1_ ?_|(refine ta_ ?_;intro _)|((fail_if_success (refine ybi rfl ?_));refine ybj rfl ?_ ?_<;>(intro ht;rw [ht];first|replace ht := oet_ ht|replace ht := oef_ ht|skip))|(refine ych ?_;first|(refine ybw rfl ?_ ?_<;>intro ht)|(refine ybx rfl ?_ ?_<;>intro ht)))
        refine cx_region_draw' rfl (by kernel_rfl) ?_
        repeat' (refine ycf ?_;(first|(first|(apply ybm;(·(first|(first|exact tk_|(apply yad;(·rfl);(·exact hel _);(·exact hxl))|(apply yad;(·rfl);(·exact sb_dot (hel _));(·rfl)))|exact tq_));(·rfl);(·rfl);(·(exact th_)))|refine ybl rfl rfl ?_|((fail_if_success (refine ybi rfl ?_));refine ybj rfl ?_ ?_<;>(intro ht;rw [ht];first|replace ht := oet_ ht|replace ht := oef_ ht|skip))|(refine tb_ ?_ ?_ ?_;(·(exact to_));(·intro _;(exact to_));intro _)|(first|(refine tqs_ ?_ ?_ ?_;(·(exact to_));(·(exact to_))))|(apply ybn;(·(first|(first|exact tk_|(apply yad;(·rfl);(·exact hel _);(·exact hxl))|(apply yad;(·rfl);(·exact sb_dot (hel _));(·rfl)))|exact tq_));(·rfl);(·rfl);(·rfl);(·(exact to_))))|refine ycg ?_))
        (refine ycn (ycp Tryz.func19 rfl (by kernel_rfl) rfl) (R1) rfl rfl rfl ?_ ?_; (· (exact to_)))
        repeat' (refine ycf ?_;(first|(first|(apply ybm;(·(first|(first|exact tk_|(apply yad;(·rfl);(·exact hel _);(·exact hxl))|(apply yad;(·rfl);(·exact sb_dot (hel _));(·rfl)))|exact tq_));(·rfl);(·rfl);(·(exact th_)))|refine ybl rfl rfl ?_|((fail_if_success (refine ybi rfl ?_));refine ybj rfl ?_ ?_<;>(intro ht;rw [ht];first|replace ht := oet_ ht|replace ht := oef_ ht|skip))|(refine tb_ ?_ ?_ ?_;(·(exact to_));(·intro _;(exact to_));intro _)|(first|(refine tqs_ ?_ ?_ ?_;(·(exact to_));(·(exact to_))))|(apply ybn;(·(first|(first|exact tk_|(apply yad;(·rfl);(·exact hel _);(·exact hxl))|(apply yad;(·rfl);(·exact sb_dot (hel _));(·rfl)))|exact tq_));(·rfl);(·rfl);(·rfl);(·(exact to_))))|refine ycg ?_))
        repeat' (first|(refine ycf ?_;apply ybk;(·first|(first|exact tk_|(apply yad;(·rfl);(·exact hel _);(·exact hxl))|(apply yad;(·rfl);(·exact sb_dot (hel _));(·rfl))));(·rfl);(·rfl))|refine t1_ ?_|(refine ta_ ?_;intro _)|((fail_if_success (refine ybi rfl ?_));refine ybj rfl ?_ ?_<;>(intro ht;rw [ht];first|replace ht := oet_ ht|replace ht := oef_ ht|skip))|(refine ych ?_;first|(refine ybw rfl ?_ ?_<;>intro ht)|(refine ybx rfl ?_ ?_<;>intro ht)))
        exact nx_round 1 ⟨by omega, hnext (by rw [hbad]; simp)⟩ (by omega) ts_ (fun _ s => s)
      · have hel2 : ∀ L, Cells h L ⟨bs, o + (k - 1) * 20, none⟩ (sbc l[k - 1]) := fun L => hs.elem sbc_len (k - 1) (by omega)
        generalize l[k - 1] = x1 at hel2 hbad
        have hkk : ((k : Int) - 1).toNat = k - 1 := by omega
        have hel3 : ∀ L, Cells h L ⟨bs, o + ((k : Int) - 1).toNat * 20, none⟩ (sbc x1) := fun L => by rw [hkk]; exact hel2 L
        have B2 := B1 x1.d
        by_cases hb : ordD x1.d x0.d < 0
        · rw [decide_eq_true hb] at B2
          repeat' (first|(refine ycf ?_;apply ybk;(·first|(first|exact tk_|(apply yad;(·rfl);(·exact hel _);(·exact hxl))|(apply yad;(·rfl);(·exact sb_dot (hel _));(·rfl))|(apply yad;(·rfl);(·exact sb_dot (hel3 _));(·rfl))));(·rfl);(·rfl))|refine t1_ ?_|(refine ta_ ?_;intro _)|((fail_if_success (refine ybi rfl ?_));refine ybj rfl ?_ ?_<;>(intro ht;rw [ht];first|replace ht := oet_ ht|replace ht := oef_ ht|skip))|(refine ych ?_;first|(refine ybw rfl ?_ ?_<;>intro ht)|(refine ybx rfl ?_ ?_<;>intro ht)))
          refine cx_region_draw' rfl (by kernel_rfl) ?_
          repeat' (refine ycf ?_;(first|(first|(apply ybm;(·(first|(first|exact tk_|(apply yad;(·rfl);(·exact hel _);(·exact hxl))|(apply yad;(·rfl);(·exact sb_dot (hel _));(·rfl))|(apply yad;(·rfl);(·exact sb_dot (hel3 _));(·rfl)))|exact tq_));(·rfl);(·rfl);(·(exact th_)))|refine ybl rfl rfl ?_|((fail_if_success (refine ybi rfl ?_));refine ybj rfl ?_ ?_<;>(intro ht;rw [ht];first|replace ht := oet_ ht|replace ht := oef_ ht|skip))|(refine tb_ ?_ ?_ ?_;(·(exact to_));(·intro _;(exact to_));intro _)|(first|(refine tqs_ ?_ ?_ ?_;(·(exact to_));(·(exact to_))))|(apply ybn;(·(first|(first|exact tk_|(apply yad;(·rfl);(·exact hel _);(·exact hxl))|(apply yad;(·rfl);(·exact sb_dot (hel _));(·rfl))|(apply yad;(·rfl);(·exact sb_dot (hel3 _));(·rfl)))|exact tq_));(·rfl);(·rfl);(·rfl);(·(exact to_))))|refine ycg ?_))
          (refine ycn (ycp Tryz.func19 rfl (by kernel_rfl) rfl) (R1) rfl rfl rfl ?_ ?_; (· (exact to_)))
          repeat' (refine ycf ?_;(first|(first|(apply ybm;(·(first|(first|exact tk_|(apply yad;(·rfl);(·exact hel _);(·exact hxl))|(apply yad;(·rfl);(·exact sb_dot (hel _));(·rfl))|(apply yad;(·rfl);(·exact sb_dot (hel3 _));(·rfl)))|exact tq_));(·rfl);(·rfl);(·(exact th_)))|refine ybl rfl rfl ?_|((fail_if_success (refine ybi rfl ?_));refine ybj rfl ?_ ?_<;>(intro ht;rw [ht];first|replace ht := oet_ ht|replace ht := oef_ ht|skip))|(refine tb_ ?_ ?_ ?_;(·(exact to_));(·intro _;(exact to_));intro _)|(first|(refine tqs_ ?_ ?_ ?_;(·(exact to_));(·(exact to_))))|(apply ybn;(·(first|(first|exact tk_|(apply yad;(·rfl);(·exact hel _);(·exact hxl))|(apply yad;(·rfl);(·exact sb_dot (hel _));(·rfl))|(apply yad;(·rfl);(·exact sb_dot (hel3 _));(·rfl)))|exact tq_));(·rfl);(·rfl);(·rfl);(·(exact to_))))|refine ycg ?_))
          (refine ycn (ycp Tryz.func20 rfl (by kernel_rfl) rfl) (B2) rfl rfl rfl ?_ ?_; (· (exact to_)))
          repeat' (refine ycf ?_;(first|(first|(apply ybm;(·(first|(first|exact tk_|(apply yad;(·rfl);(·exact hel _);(·exact hxl))|(apply yad;(·rfl);(·exact sb_dot (hel _));(·rfl))|(apply yad;(·rfl);(·exact sb_dot (hel3 _));(·rfl)))|exact tq_));(·rfl);(·rfl);(·(exact th_)))|refine ybl rfl rfl ?_|((fail_if_success (refine ybi rfl ?_));refine ybj rfl ?_ ?_<;>(intro ht;rw [ht];first|replace ht := oet_ ht|replace ht := oef_ ht|skip))|(refine tb_ ?_ ?_ ?_;(·(exact to_));(·intro _;(exact to_));intro _)|(first|(refine tqs_ ?_ ?_ ?_;(·(exact to_));(·(exact to_))))|(apply ybn;(·(first|(first|exact tk_|(apply yad;(·rfl);(·exact hel _);(·exact hxl))|(apply yad;(·rfl);(·exact sb_dot (hel _));(·rfl))|(apply yad;(·rfl);(·exact sb_dot (hel3 _));(·rfl)))|exact tq_));(·rfl);(·rfl);(·rfl);(·(exact to_))))|refine ycg ?_))
          repeat' (first|(refine ycf ?_;apply ybk;(·first|(first|exact tk_|(apply yad;(·rfl);(·exact hel _);(·exact hxl))|(apply yad;(·rfl);(·exact sb_dot (hel _));(·rfl))|(apply yad;(·rfl);(·exact sb_dot (hel3 _));(·rfl))));(·rfl);(·rfl))|refine t1_ ?_|(refine ta_ ?_;intro _)|((fail_if_success (refine ybi rfl ?_));refine ybj rfl ?_ ?_<;>(intro ht;rw [ht];first|replace ht := oet_ ht|replace ht := oef_ ht|skip))|(refine ych ?_;first|(refine ybw rfl ?_ ?_<;>intro ht)|(refine ybx rfl ?_ ?_<;>intro ht)))
          exact nx_round (k + 1) ⟨by omega, hnext (by rw [hbad]; simp; omega)⟩ (by omega) ts_ (fun _ s => s)
        · rw [decide_eq_false hb] at B2
          have := e1 (by rw [hbad]; simp; omega)
          repeat' (first|(refine ycf ?_;apply ybk;(·first|(first|exact tk_|(apply yad;(·rfl);(·exact hel _);(·exact hxl))|(apply yad;(·rfl);(·exact sb_dot (hel _));(·rfl))|(apply yad;(·rfl);(·exact sb_dot (hel3 _));(·rfl))));(·rfl);(·rfl))|refine t1_ ?_|(refine ta_ ?_;intro _)|((fail_if_success (refine ybi rfl ?_));refine ybj rfl ?_ ?_<;>(intro ht;rw [ht];first|replace ht := oet_ ht|replace ht := oef_ ht|skip))|(refine ych ?_;first|(refine ybw rfl ?_ ?_<;>intro ht)|(refine ybx rfl ?_ ?_<;>intro ht)))
          refine cx_region_draw' rfl (by kernel_rfl) ?_
          repeat' (refine ycf ?_;(first|(first|(apply ybm;(·(first|(first|exact tk_|(apply yad;(·rfl);(·exact hel _);(·exact hxl))|(apply yad;(·rfl);(·exact sb_dot (hel _));(·rfl))|(apply yad;(·rfl);(·exact sb_dot (hel3 _));(·rfl)))|exact tq_));(·rfl);(·rfl);(·(exact th_)))|refine ybl rfl rfl ?_|((fail_if_success (refine ybi rfl ?_));refine ybj rfl ?_ ?_<;>(intro ht;rw [ht];first|replace ht := oet_ ht|replace ht := oef_ ht|skip))|(refine tb_ ?_ ?_ ?_;(·(exact to_));(·intro _;(exact to_));intro _)|(first|(refine tqs_ ?_ ?_ ?_;(·(exact to_));(·(exact to_))))|(apply ybn;(·(first|(first|exact tk_|(apply yad;(·rfl);(·exact hel _);(·exact hxl))|(apply yad;(·rfl);(·exact sb_dot (hel _));(·rfl))|(apply yad;(·rfl);(·exact sb_dot (hel3 _));(·rfl)))|exact tq_));(·rfl);(·rfl);(·rfl);(·(exact to_))))|refine ycg ?_))
          (refine ycn (ycp Tryz.func19 rfl (by kernel_rfl) rfl) (R1) rfl rfl rfl ?_ ?_; (· (exact to_)))
          repeat' (refine ycf ?_;(first|(first|(apply ybm;(·(first|(first|exact tk_|(apply yad;(·rfl);(·exact hel _);(·exact hxl))|(apply yad;(·rfl);(·exact sb_dot (hel _));(·rfl))|(apply yad;(·rfl);(·exact sb_dot (hel3 _));(·rfl)))|exact tq_));(·rfl);(·rfl);(·(exact th_)))|refine ybl rfl rfl ?_|((fail_if_success (refine ybi rfl ?_));refine ybj rfl ?_ ?_<;>(intro ht;rw [ht];first|replace ht := oet_ ht|replace ht := oef_ ht|skip))|(refine tb_ ?_ ?_ ?_;(·(exact to_));(·intro _;(exact to_));intro _)|(first|(refine tqs_ ?_ ?_ ?_;(·(exact to_));(·(exact to_))))|(apply ybn;(·(first|(first|exact tk_|(apply yad;(·rfl);(·exact hel _);(·exact hxl))|(apply yad;(·rfl);(·exact sb_dot (hel _));(·rfl))|(apply yad;(·rfl);(·exact sb_dot (hel3 _));(·rfl)))|exact tq_));(·rfl);(·rfl);(·rfl);(·(exact to_))))|refine ycg ?_))
          (refine ycn (ycp Tryz.func20 rfl (by kernel_rfl) rfl) (B2) rfl rfl rfl ?_ ?_; (· (exact to_)))
          repeat' (refine ycf ?_;(first|(first|(apply ybm;(·(first|(first|exact tk_|(apply yad;(·rfl);(·exact hel _);(·exact hxl))|(apply yad;(·rfl);(·exact sb_dot (hel _));(·rfl))|(apply yad;(·rfl);(·exact sb_dot (hel3 _));(·rfl)))|exact tq_));(·rfl);(·rfl);(·(exact th_)))|refine ybl rfl rfl ?_|((fail_if_success (refine ybi rfl ?_));refine ybj rfl ?_ ?_<;>(intro ht;rw [ht];first|replace ht := oet_ ht|replace ht := oef_ ht|skip))|(refine tb_ ?_ ?_ ?_;(·(exact to_));(·intro _;(exact to_));intro _)|(first|(refine tqs_ ?_ ?_ ?_;(·(exact to_));(·(exact to_))))|(apply ybn;(·(first|(first|exact tk_|(apply yad;(·rfl);(·exact hel _);(·exact hxl))|(apply yad;(·rfl);(·exact sb_dot (hel _));(·rfl))|(apply yad;(·rfl);(·exact sb_dot (hel3 _));(·rfl)))|exact tq_));(·rfl);(·rfl);(·rfl);(·(exact to_))))|refine ycg ?_))
          repeat' (first|(refine ycf ?_;apply ybk;(·first|(first|exact tk_|(apply yad;(·rfl);(·exact hel _);(·exact hxl))|(apply yad;(·rfl);(·exact sb_dot (hel _));(·rfl))|(apply yad;(·rfl);(·exact sb_dot (hel3 _));(·rfl))));(·rfl);(·rfl))|refine t1_ ?_|(refine ta_ ?_;intro _)|((fail_if_success (refine ybi rfl ?_));refine ybj rfl ?_ ?_<;>(intro ht;rw [ht];first|replace ht := oet_ ht|replace ht := oef_ ht|skip))|(refine ych ?_;first|(refine ybw rfl ?_ ?_<;>intro ht)|(refine ybx rfl ?_ ?_<;>intro ht)))
          exact nx_ret1 rfl (rv_tmp rfl) (fun w' s' => ⟨by rw [this], s'.nil⟩)
  · have hke : k = l.length := by omega
    subst hke
    have hno : (List.range (l.map Sb.a).length).any (badAt (l.map Sb.a)) = false := bad_no fun j hj => hok j (by simpa using hj)
    have hrt : ∀ j (hj : j < l.length), rightA l[j].a = true := fun j hj => by
      have := hok j hj
      rw [badAt_eq hj, Bool.or_eq_false_iff] at this
      simpa using this.1
    have hrb : ∀ x ∈ l, rightA x.a = true := fun x hx => by
      obtain ⟨j, hj, rfl⟩ := List.getElem_of_mem hx
      exact hrt j hj
    have e14 : ∀ x ∈ l, ∀ y ∈ l, hasA y.a x.d = true → checkA (l.map Sb.a) = 14 := fun x hx y hy hq => by
      unfold checkA
      rw [if_neg (by rw [List.length_map]; exact h64), if_neg (by rw [hno]; decide), if_pos]
      exact List.any_eq_true.2 ⟨x.a, List.mem_map_of_mem hx, List.any_eq_true.2 ⟨y.a, List.mem_map_of_mem hy, hq⟩⟩
    have e0 : (∀ x ∈ l, ∀ y ∈ l, hasA y.a x.d = false) → checkA (l.map Sb.a) = 0 := fun hq => by
      unfold checkA
      rw [if_neg (by rw [List.length_map]; exact h64), if_neg (by rw [hno]; decide), if_neg]
      intro hc
      obtain ⟨x, hx, hc⟩ := List.any_eq_true.1 hc
      obtain ⟨y, hy, hc⟩ := List.any_eq_true.1 hc
      obtain ⟨x, hx, rfl⟩ := List.mem_map.1 hx
      obtain ⟨y, hy, rfl⟩ := List.mem_map.1 hy
      have := hq x ‹_› y ‹_›
      rw [show hasA y.a x.a.1 = hasA y.a x.d from rfl, this] at hc
      cases hc
    repeat' (first|(refine ycf ?_;apply ybk;(·first|(exact tk_));(·rfl);(·rfl))|refine t1_ ?_|(refine ta_ ?_;intro _)|((fail_if_success (refine ybi rfl ?_));refine ybj rfl ?_ ?_<;>(intro ht;rw [ht];first|replace ht := oet_ ht|replace ht := oef_ ht|skip))|(refine ych ?_;first|(refine ybw rfl ?_ ?_<;>intro ht)|(refine ybx rfl ?_ ?_<;>intro ht)))
    refine cx_loop (X := Nat) (fun k => [(0, .slice ad l.length cap), (4, .int .i64 k)]) (fun _ => h) (fun _ => []) (fun i => i ≤ l.length ∧ ∀ j (hj : j < l.length), j < i → ∀ x ∈ l, hasA l[j].a x.d = false) (fun k => l.length - k) 0 ⟨by omega, fun j _ hj => by omega⟩ ts_ (fun _ s => s) ?_
    rintro i ⟨hi, hoi⟩
    by_cases hil : i < l.length
    · obtain ⟨bs, o, rfl⟩ := hs.ad (by omega) (by omega)
      have hel : ∀ L, Cells h L ⟨bs, o + i * 20, none⟩ (sbc l[i]) := fun L => hs.elem sbc_len i hil
      have hxm := List.getElem_mem hil
      have hxv := hsv _ hxm
      have hlim := hll _ hxm
      have hxr := hrt i hil
      repeat' (first|(refine ycf ?_;apply ybk;(·first|(exact tk_));(·rfl);(·rfl))|refine t1_ ?_|(refine ta_ ?_;intro _)|((fail_if_success (refine ybi rfl ?_));refine ybj rfl ?_ ?_<;>(intro ht;rw [ht];first|replace ht := oet_ ht|replace ht := oef_ ht|skip))|(refine ych ?_;first|(refine ybw rfl ?_ ?_<;>intro ht)|(refine ybx rfl ?_ ?_<;>intro ht)))
      refine cx_loop (X := Nat) (fun k => [(0, .slice (some ⟨bs, o, none⟩) l.length cap), (4, .int .i64 i), (5, .int .i64 k)]) (fun _ => h) (fun _ => []) (fun k => k ≤ l.length ∧ ∀ j (hj : j < l.length), j < k → hasA l[i].a l[j].d = false) (fun k => l.length - k) 0 ⟨by omega, fun j _ hj => by omega⟩ ts_ (fun _ s => s) ?_
      rintro k ⟨hk, hok2⟩
      by_cases hkl : k < l.length
      · have hel2 : ∀ L, Cells h L ⟨bs, o + k * 20, none⟩ (sbc l[k]) := fun L => hs.elem sbc_len k hkl
        have hym := List.getElem_mem hkl
        have hyr : rightB l[k].d = true := (rightA_ok (hrt k hkl)).1
        have hA := hasA_of hxr hyr
        have H1 := refHas_sp _ l[i].u l[i].l l[k].d h ⟨l[i].hu, _, rfl, hxv.ds⟩ (by omega) hyr
        rw [← hA] at H1
        have E14 := e14 _ hym _ hxm
        have hn2 : hasA l[i].a l[k].d = false → ∀ j (hj : j < l.length), j < k + 1 → hasA l[i].a l[j].d = false := fun hq j hj hjk => by
          by_cases e : j = k
          · subst e; exact hq
          · exact hok2 j hj (by omega)
        have hu := l[i].hu
        cases hq : hasA l[i].a l[k].d with
        | true =>
          rw [hq] at H1
          have := E14 hq
          repeat' (first|(refine ycf ?_;apply ybk;(·first|(first|exact tk_|(apply yad;(·rfl);(·exact sb_past (hel _));(·exact ycj hu))|(apply yad;(·rfl);(·exact sb_dot (hel2 _));(·rfl))));(·rfl);(·rfl))|refine t1_ ?_|(refine ta_ ?_;intro _)|((fail_if_success (refine ybi rfl ?_));refine ybj rfl ?_ ?_<;>(intro ht;rw [ht];first|replace ht := oet_ ht|replace ht := oef_ ht|skip))|(refine ych ?_;first|(refine ybw rfl ?_ ?_<;>intro ht)|(refine ybx rfl ?_ ?_<;>intro ht)))
          refine cx_region_draw' rfl (by kernel_rfl) ?_
          repeat' (refine ycf ?_;(first|(first|(apply ybm;(·(first|(first|exact tk_|(apply yad;(·rfl);(·exact sb_past (hel _));(·exact ycj hu))|(apply yad;(·rfl);(·exact sb_dot (hel2 _));(·rfl)))|exact tq_));(·rfl);(·rfl);(·(exact th_)))|refine ybl rfl rfl ?_|((fail_if_success (refine ybi rfl ?_));refine ybj rfl ?_ ?_<;>(intro ht;rw [ht];first|replace ht := oet_ ht|replace ht := oef_ ht|skip))|(refine tb_ ?_ ?_ ?_;(·(exact to_));(·intro _;(exact to_));intro _)|(first|(refine tqs_ ?_ ?_ ?_;(·(exact to_));(·(exact to_))))|(apply ybn;(·(first|(first|exact tk_|(apply yad;(·rfl);(·exact sb_past (hel _));(·exact ycj hu))|(apply yad;(·rfl);(·exact sb_dot (hel2 _));(·rfl)))|exact tq_));(·rfl);(·rfl);(·rfl);(·(exact to_))))|refine ycg ?_))
          (refine ycn (ycp Tryz.func21 rfl (by kernel_rfl) rfl) (H1) rfl rfl rfl ?_ ?_; (· (exact to_)))
          repeat' (refine ycf ?_;(first|(first|(apply ybm;(·(first|(first|exact tk_|(apply yad;(·rfl);(·exact sb_past (hel _));(·exact ycj hu))|(apply yad;(·rfl);(·exact sb_dot (hel2 _));(·rfl)))|exact tq_));(·rfl);(·rfl);(·(exact th_)))|refine ybl rfl rfl ?_|((fail_if_success (refine ybi rfl ?_));refine ybj rfl ?_ ?_<;>(intro ht;rw [ht];first|replace ht := oet_ ht|replace ht := oef_ ht|skip))|(refine tb_ ?_ ?_ ?_;(·(exact to_));(·intro _;(exact to_));intro _)|(first|(refine tqs_ ?_ ?_ ?_;(·(exact to_));(·(exact to_))))|(apply ybn;(·(first|(first|exact tk_|(apply yad;(·rfl);(·exact sb_past (hel _));(·exact ycj hu))|(apply yad;(·rfl);(·exact sb_dot (hel2 _));(·rfl)))|exact tq_));(·rfl);(·rfl);(·rfl);(·(exact to_))))|refine ycg ?_))
          repeat' (first|(refine ycf ?_;apply ybk;(·first|(first|exact tk_|(apply yad;(·rfl);(·exact sb_past (hel _));(·exact ycj hu))|(apply yad;(·rfl);(·exact sb_dot (hel2 _));(·rfl))));(·rfl);(·rfl))|refine t1_ ?_|(refine ta_ ?_;intro _)|((fail_if_success (refine ybi rfl ?_));refine ybj rfl ?_ ?_<;>(intro ht;rw [ht];first|replace ht := oet_ ht|replace ht := oef_ ht|skip))|(refine ych ?_;first|(refine ybw rfl ?_ ?_<;>intro ht)|(refine ybx rfl ?_ ?_<;>intro ht)))
          exact nx_ret1 rfl (rv_tmp rfl) (fun w' s' => ⟨by rw [this], s'.nil⟩)
        | false =>
          rw [hq] at H1
          repeat' (first|(refine ycf ?_;apply ybk;(·first|(first|exact tk_|(apply yad;(·rfl);(·exact sb_past (hel _));(·exact ycj hu))|(apply yad;(·rfl);(·exact sb_dot (hel2 _));(·rfl))));(·rfl);(·rfl))|refine t1_ ?_|(refine ta_ ?_;intro _)|((fail_if_success (refine ybi rfl ?_));refine ybj rfl ?_ ?_<;>(intro ht;rw [ht];first|replace ht := oet_ ht|replace ht := oef_ ht|skip))|(refine ych ?_;first|(refine ybw rfl ?_ ?_<;>intro ht)|(refine ybx rfl ?_ ?_<;>intro ht)))
          refine cx_region_draw' rfl (by kernel_rfl) ?_
          repeat' (refine ycf ?_;(first|(first|(apply ybm;(·(first|(first|exact tk_|(apply yad;(·rfl);(·exact sb_past (hel _));(·exact ycj hu))|(apply yad;(·rfl);(·exact sb_dot (hel2 _));(·rfl)))|exact tq_));(·rfl);(·rfl);(·(exact th_)))|refine ybl rfl rfl ?_|((fail_if_success (refine ybi rfl ?_));refine ybj rfl ?_ ?_<;>(intro ht;rw [ht];first|replace ht := oet_ ht|replace ht := oef_ ht|skip))|(refine tb_ ?_ ?_ ?_;(·(exact to_));(·intro _;(exact to_));intro _)|(first|(refine tqs_ ?_ ?_ ?_;(·(exact to_));(·(exact to_))))|(apply ybn;(·(first|(first|exact tk_|(apply yad;(·rfl);(·exact sb_past (hel _));(·exact ycj hu))|(apply yad;(·rfl);(·exact sb_dot (hel2 _));(·rfl)))|exact tq_));(·rfl);(·rfl);(·rfl);(·(exact to_))))|refine ycg ?_))
          (refine ycn (ycp Tryz.func21 rfl (by kernel_rfl) rfl) (H1) rfl rfl rfl ?_ ?_; (· (exact to_)))
          repeat' (refine ycf ?_;(first|(first|(apply ybm;(·(first|(first|exact tk_|(apply yad;(·rfl);(·exact sb_past (hel _));(·exact ycj hu))|(apply yad;(·rfl);(·exact sb_dot (hel2 _));(·rfl)))|exact tq_));(·rfl);(·rfl);(·(exact th_)))|refine ybl rfl rfl ?_|((fail_if_success (refine ybi rfl ?_));refine ybj rfl ?_ ?_<;>(intro ht;rw [ht];first|replace ht := oet_ ht|replace ht := oef_ ht|skip))|(refine tb_ ?_ ?_ ?_;(·(exact to_));(·intro _;(exact to_));intro _)|(first|(refine tqs_ ?_ ?_ ?_;(·(exact to_));(·(exact to_))))|(apply ybn;(·(first|(first|exact tk_|(apply yad;(·rfl);(·exact sb_past (hel _));(·exact ycj hu))|(apply yad;(·rfl);(·exact sb_dot (hel2 _));(·rfl)))|exact tq_));(·rfl);(·rfl);(·rfl);(·(exact to_))))|refine ycg ?_))
          repeat' (first|(refine ycf ?_;apply ybk;(·first|(first|exact tk_|(apply yad;(·rfl);(·exact sb_past (hel _));(·exact ycj hu))|(apply yad;(·rfl);(·exact sb_dot (hel2 _));(·rfl))));(·rfl);(·rfl))|refine t1_ ?_|(refine ta_ ?_;intro _)|((fail_if_success (refine ybi rfl ?_));refine ybj rfl ?_ ?_<;>(intro ht;rw [ht];first|replace ht := oet_ ht|replace ht := oef_ ht|skip))|(refine ych ?_;first|(refine ybw rfl ?_ ?_<;>intro ht)|(refine ybx rfl ?_ ?_<;>intro ht)))
          exact nx_round (k + 1) ⟨by omega, hn2 hq⟩ (by omega) ts_ (fun _ s => s)
      ·
        repeat' (first|(refine ycf ?_;apply ybk;(·first|(exact tk_));(·rfl);(·rfl))|refine t1_ ?_|(refine ta_ ?_;intro _)|((fail_if_success (refine ybi rfl ?_));refine ybj rfl ?_ ?_<;>(intro ht;rw [ht];first|replace ht := oet_ ht|replace ht := oef_ ht|skip))|(refine ych ?_;first|(refine ybw rfl ?_ ?_<;>intro ht)|(refine ybx rfl ?_ ?_<;>intro ht)))
        refine nx_round (i + 1) ⟨by omega, fun j hj hji x hx => ?_⟩ (by omega) ts_ (fun _ s => s)
        by_cases e : j = i
        · subst e
          obtain ⟨q, hq, rfl⟩ := List.getElem_of_mem hx
          exact hok2 q hq (by omega)
        · exact hoi j hj (by omega) x hx
    · have := e0 fun x hx y hy => by
        obtain ⟨q, hq, rfl⟩ := List.getElem_of_mem hy
        exact hoi q hq (by omega) x hx
      repeat' (first|(refine ycf ?_;apply ybk;(·first|(exact tk_));(·rfl);(·rfl))|refine t1_ ?_|(refine ta_ ?_;intro _)|((fail_if_success (refine ybi rfl ?_));refine ybj rfl ?_ ?_<;>(intro ht;rw [ht];first|replace ht := oet_ ht|replace ht := oef_ ht|skip))|(refine ych ?_;first|(refine ybw rfl ?_ ?_<;>intro ht)|(refine ybx rfl ?_ ?_<;>intro ht)))
      exact nx_ret1 rfl (rv_tmp rfl) (fun w' s' => ⟨by rw [this], s'.nil⟩)
end Go.Proofs.YtkkjppeaaicgaaaGreatDoor
end

section
namespace Go.Ck
open Go
set_option linter.unusedVariables false
set_option linter.unusedSimpArgs false
theorem wrapw {k : IntKind} {m : Nat} (hk : k.bits = m) (hs : k.signed = false) (i : Int) : k.wrap i = ((BitVec.ofInt m i).toNat : Int) := by
  subst hk
  unfold IntKind.wrap
  rw [hs]
  simp only [Bool.false_and, if_neg, BitVec.toNat_ofInt]
  have hp : (0 : Int) < 2 ^ k.bits := Int.pow_pos (by decide)
  have h : 0 ≤ i % (2 ^ k.bits : Int) := Int.emod_nonneg _ (by omega)
  simp
  omega
theorem wrapw_nat {k : IntKind} {m : Nat} (hk : k.bits = m) (hs : k.signed = false) (i : Nat) : k.wrap (i : Int) = ((BitVec.ofNat m i).toNat : Int) := by
  rw [wrapw hk hs, BitVec.ofInt_natCast]
theorem wrapw_id {k : IntKind} {m : Nat} (hk : k.bits = m) (hs : k.signed = false) (a : BitVec m) : k.wrap (a.toNat : Int) = (a.toNat : Int) := by
  rw [wrapw_nat hk hs]
  simp
theorem ofInt_toNat {m : Nat} (a : BitVec m) : BitVec.ofInt m (a.toNat : Int) = a := by
  rw [BitVec.ofInt_natCast]
  simp
section
variable {P : Program} {n : Nat} {F : List (Nat × Value)} {h : View} {L : List Res} {dst : Option Nat} {ty : Nat} {pos : String} {af : Array Edge} {gd : Option (Nat × Bool)}
variable {T T' : Nat} {x y : Operand} {k k' : IntKind} {m : Nat} {a b : BitVec m}
theorem qv_xorw (hx : ev F x = some (.int k (a.toNat : Int))) (hy : ev F y = some (.int k (b.toNat : Int))) (hk : k.bits = m) (hs : k.signed = false) : QV P n F h L ⟨dst, .binOp .xor T x y T', ty, pos, af, gd⟩ (.int k ((a ^^^ b).toNat : Int)) := .mk fun ac w f s => by
  have e := wrapw_id hk hs (a ^^^ b)
  subst hk
  simp only [execOp, f.ev hx, f.ev hy, Sem.run_bind, run_guard_int, Result.andThen_ok, binOp, Op.intBits, ofInt_toNat, e]
  simp
theorem qv_andw (hx : ev F x = some (.int k (a.toNat : Int))) (hy : ev F y = some (.int k (b.toNat : Int))) (hk : k.bits = m) (hs : k.signed = false) : QV P n F h L ⟨dst, .binOp .and T x y T', ty, pos, af, gd⟩ (.int k ((a &&& b).toNat : Int)) := .mk fun ac w f s => by
  have e := wrapw_id hk hs (a &&& b)
  subst hk
  simp only [execOp, f.ev hx, f.ev hy, Sem.run_bind, run_guard_int, Result.andThen_ok, binOp, Op.intBits, ofInt_toNat, e]
  simp
theorem qv_orw (hx : ev F x = some (.int k (a.toNat : Int))) (hy : ev F y = some (.int k (b.toNat : Int))) (hk : k.bits = m) (hs : k.signed = false) : QV P n F h L ⟨dst, .binOp .or T x y T', ty, pos, af, gd⟩ (.int k ((a ||| b).toNat : Int)) := .mk fun ac w f s => by
  have e := wrapw_id hk hs (a ||| b)
  subst hk
  simp only [execOp, f.ev hx, f.ev hy, Sem.run_bind, run_guard_int, Result.andThen_ok, binOp, Op.intBits, ofInt_toNat, e]
  simp
theorem qv_addw (hx : ev F x = some (.int k (a.toNat : Int))) (hy : ev F y = some (.int k (b.toNat : Int))) (hk : k.bits = m) (hs : k.signed = false) : QV P n F h L ⟨dst, .binOp .add T x y T', ty, pos, af, gd⟩ (.int k ((a + b).toNat : Int)) := by
  have e : k.wrap ((a.toNat : Int) + (b.toNat : Int)) = ((a + b).toNat : Int) := by
    rw [← Int.natCast_add, wrapw_nat hk hs, BitVec.ofNat_add]
    simp
  rw [← e]
  exact qv_add_w hx hy
theorem qv_mulw (hx : ev F x = some (.int k (a.toNat : Int))) (hy : ev F y = some (.int k (b.toNat : Int))) (hk : k.bits = m) (hs : k.signed = false) : QV P n F h L ⟨dst, .binOp .mul T x y T', ty, pos, af, gd⟩ (.int k ((a * b).toNat : Int)) := by
  have e : k.wrap ((a.toNat : Int) * (b.toNat : Int)) = ((a * b).toNat : Int) := by
    rw [← Int.natCast_mul, wrapw_nat hk hs, BitVec.ofNat_mul]
    simp
  rw [← e]
  exact qv_mul_w hx hy
theorem qv_notw (hx : ev F x = some (.int k (a.toNat : Int))) (hk : k.bits = m) (hs : k.signed = false) : QV P n F h L ⟨dst, .unOp .xor T x, ty, pos, af, gd⟩ (.int k ((~~~a).toNat : Int)) := .mk fun ac w f s => by
  have e := wrapw_id hk hs (~~~a)
  have hm : BitVec.ofInt m k.max = BitVec.allOnes m := by
    unfold IntKind.max
    rw [hs, hk]
    apply BitVec.eq_of_toNat_eq
    rw [BitVec.toNat_ofInt, BitVec.toNat_allOnes]
    have hp := Nat.two_pow_pos m
    simp only [Bool.false_eq_true, if_false]
    have e2 : ((2 : Int) ^ m - 1) = ((2 ^ m - 1 : Nat) : Int) := by
      rw [Int.natCast_sub (by omega)]
      simp
    rw [e2, show ((2 ^ m : Nat) : Int) = ((2 ^ m : Nat) : Int) from rfl, ← Int.natCast_emod, Int.toNat_natCast, Nat.mod_eq_of_lt (by omega)]
  subst hk
  simp only [execOp, f.ev hx, Op.unary, hs, Bool.false_eq_true, if_false, Op.intBits, hm, ofInt_toNat]
  rw [BitVec.allOnes_xor, e]
  simp
theorem qv_shlw {j : Nat} (hx : ev F x = some (.int k (a.toNat : Int))) (hy : ev F y = some (.int k' (j : Int))) (hk : k.bits = m) (hs : k.signed = false) : QV P n F h L ⟨dst, .binOp .shl T x y T', ty, pos, af, gd⟩ (.int k ((a <<< j).toNat : Int)) := by
  refine .mk fun ac w f s => ?_
  have h0 : ¬ ((j : Int) < 0) := by omega
  have hg : (eqGuard .shl T x y (.int k a.toNat) (.int k' j)).run P w = .ok () w := by simp [eqGuard]
  have e : k.wrap ((a.toNat : Int) * 2 ^ (min j m)) = ((a <<< j).toNat : Int) := by
    have e1 : (a.toNat : Int) * 2 ^ (min j m) = ((a.toNat * 2 ^ (min j m) : Nat) : Int) := by simp
    rw [e1, wrapw_nat hk hs, BitVec.toNat_ofNat, BitVec.toNat_shiftLeft, Nat.shiftLeft_eq]
    by_cases hj : j ≤ m
    · rw [Nat.min_eq_left hj]
    · rw [Nat.min_eq_right (by omega)]
      have h1 : a.toNat * 2 ^ m % 2 ^ m = 0 := Nat.mul_mod_left _ _
      have h2 : a.toNat * 2 ^ j % 2 ^ m = 0 := by
        rw [show j = m + (j - m) by omega, Nat.pow_add, Nat.mul_left_comm]
        exact Nat.mul_mod_right _ _
      rw [h1, h2]
  subst hk
  simp [execOp, f.ev hx, f.ev hy, hg, binOp, Op.shift, h0, e]
theorem qv_shrw {j : Nat} (hx : ev F x = some (.int k (a.toNat : Int))) (hy : ev F y = some (.int k' (j : Int))) (hk : k.bits = m) : QV P n F h L ⟨dst, .binOp .shr T x y T', ty, pos, af, gd⟩ (.int k ((a >>> j).toNat : Int)) := by
  refine .mk fun ac w f s => ?_
  have h0 : ¬ ((j : Int) < 0) := by omega
  have hg : (eqGuard .shr T x y (.int k a.toNat) (.int k' j)).run P w = .ok () w := by simp [eqGuard]
  have e : (a.toNat : Int).fdiv (2 ^ (min j m)) = ((a >>> j).toNat : Int) := by
    have e1 : (2 : Int) ^ (min j m) = ((2 ^ (min j m) : Nat) : Int) := by simp
    rw [e1, Int.fdiv_eq_ediv_of_nonneg _ (Int.natCast_nonneg _), ← Int.natCast_ediv, BitVec.toNat_ushiftRight, Nat.shiftRight_eq_div_pow]
    by_cases hj : j ≤ m
    · rw [Nat.min_eq_left hj]
    · rw [Nat.min_eq_right (by omega)]
      have h1 : a.toNat / 2 ^ m = 0 := Nat.div_eq_of_lt a.isLt
      have h2 : a.toNat / 2 ^ j = 0 := Nat.div_eq_of_lt (Nat.lt_of_lt_of_le a.isLt (Nat.pow_le_pow_right (by omega) (by omega)))
      rw [h1, h2]
  subst hk
  simp [execOp, f.ev hx, f.ev hy, hg, binOp, Op.shift, h0, e]
theorem qv_addr {i j r : Int} (hx : ev F x = some (.int k i)) (hy : ev F y = some (.int k j)) (hr : k.wrap (i + j) = r) : QV P n F h L ⟨dst, .binOp .add T x y T', ty, pos, af, gd⟩ (.int k r) := by subst hr; exact qv_add_w hx hy
theorem qv_subr {i j r : Int} (hx : ev F x = some (.int k i)) (hy : ev F y = some (.int k j)) (hr : k.wrap (i - j) = r) : QV P n F h L ⟨dst, .binOp .sub T x y T', ty, pos, af, gd⟩ (.int k r) := by subst hr; exact qv_sub_w hx hy
theorem qv_remr {i j r : Int} (hx : ev F x = some (.int k i)) (hy : ev F y = some (.int k j)) (hj : j ≠ 0) (hr : i.tmod j = r) : QV P n F h L ⟨dst, .binOp .rem T x y T', ty, pos, af, gd⟩ (.int k r) := by subst hr; exact qv_rem hx hy hj
theorem qv_quor {i j r : Int} (hx : ev F x = some (.int k i)) (hy : ev F y = some (.int k j)) (hj : j ≠ 0) (hr : k.wrap (i.tdiv j) = r) : QV P n F h L ⟨dst, .binOp .quo T x y T', ty, pos, af, gd⟩ (.int k r) := by
  subst hr
  exact .mk fun a w f s => by simp [execOp, f.ev hx, f.ev hy, run_guard_int, binOp, Op.intDiv, hj]
theorem qv_negr {i r : Int} (hx : ev F x = some (.int k i)) (hr : k.wrap (0 - i) = r) : QV P n F h L ⟨dst, .unOp .neg T x, ty, pos, af, gd⟩ (.int k r) := by
  subst hr
  exact .mk fun a w f s => by simp [execOp, f.ev hx, Op.unary, Op.intArith]
theorem qv_widen {S D : Nat} {us : TypeDesc} {kd : IntKind} {m' : Nat} [t1 : TyU P S us] [t2 : TyU P D (.int kd)] (hx : ev F x = some (.int k (a.toNat : Int))) (hk : kd.bits = m') (hs : kd.signed = false) (hm : m ≤ m') :
    QV P n F h L ⟨dst, .convert S D x, ty, pos, af, gd⟩ (.int kd (a.toNat : Int)) := by
  refine qv_convert_int' hx ?_
  rw [wrapw_nat hk hs, BitVec.toNat_ofNat, Nat.mod_eq_of_lt (Nat.lt_of_lt_of_le a.isLt (Nat.pow_le_pow_right (by omega) hm))]
end
end Go.Ck
end

section
namespace Go.Proofs.YtkkjppeaaicgaaaGreatDoor
open Go Go.Ck
instance cku125 : TyU Tryz.prog 125 (Go.TypeDesc.slice 101) := ⟨Tryz.underlying125⟩
instance cka125 : TyA Tryz.prog 125 false := ⟨Tryz.isAgg125⟩
instance cks125 : TyS Tryz.prog 125 1 := ⟨Tryz.sizeOf125⟩
instance ckz125 : TyZ Tryz.prog 125 (Go.Value.slice none 0 0) := ⟨Tryz.zeroValue125⟩
instance ckb125 : TyB Tryz.prog 125 (Go.Value.slice none 0 0) 1 24 := ⟨by kernel_rfl⟩
end Go.Proofs.YtkkjppeaaicgaaaGreatDoor
end

section
namespace Go.Proofs.YtkkjppeaaicgaaaGreatDoor
open Go Go.Ck
set_option maxRecDepth 100000
set_option maxHeartbeats 2000000
set_option linter.unusedVariables false
abbrev W32 := BitVec 32
abbrev v32 (a : W32) : Value := .int .u32 (a.toNat : Int)
def rotL (x : W32) (k : Nat) : W32 := x <<< k ||| x >>> (32 - k)
theorem rotL_bit (x : W32) {k i : Nat} (hk : k ≤ 32) (hi : i < 32) : (rotL x k).getLsbD i = if i < k then x.getLsbD (32 - k + i) else x.getLsbD (i - k) := by
  unfold rotL
  rw [BitVec.getLsbD_or, BitVec.getLsbD_shiftLeft, BitVec.getLsbD_ushiftRight]
  by_cases h : i < k
  · simp [h]
  · simp only [h, if_false, hi, decide_true, Bool.true_and, decide_false, Bool.not_false]
    rw [show x.getLsbD (32 - k + i) = false from BitVec.getLsbD_of_ge _ _ (by omega)]
    simp
theorem rotL_one (x : W32) : x * 2#32 + x >>> 31 = rotL x 1 := by
  unfold rotL
  apply BitVec.eq_of_toNat_eq
  have hx := x.isLt
  have h1 : (x <<< 1).toNat = (x.toNat * 2) % 4294967296 := by rw [BitVec.toNat_shiftLeft, Nat.shiftLeft_eq]
  have h2 : (x >>> 31).toNat = x.toNat / 2147483648 := by rw [BitVec.toNat_ushiftRight, Nat.shiftRight_eq_div_pow]
  have h3 : (x * 2#32).toNat = (x.toNat * 2) % 4294967296 := by rw [BitVec.toNat_mul]; rfl
  rw [BitVec.toNat_add, BitVec.toNat_or, h3, h1, h2]
  have e : (x.toNat * 2) % 4294967296 = 2 ^ 1 * (x.toNat % 2147483648) := by omega
  have hb : x.toNat / 2147483648 < 2 ^ 1 := by omega
  rw [e, ← Nat.two_pow_add_eq_or_of_lt hb]
  omega
theorem rotL_succ (x : W32) {k : Nat} (hk : k < 32) : rotL (rotL x k) 1 = rotL x (k + 1) := by
  apply BitVec.eq_of_getLsbD_eq
  intro i hi
  rw [rotL_bit _ (by omega) hi, rotL_bit _ (by omega) hi]
  by_cases h0 : i < 1
  · have h1 : i < k + 1 := by omega
    rw [if_pos h0, if_pos h1, rotL_bit _ (by omega) (by omega)]
    have e0 : i = 0 := by omega
    subst e0
    by_cases h2 : 32 - 1 + 0 < k
    · omega
    · rw [if_neg h2]; congr 1; omega
  · rw [if_neg h0, rotL_bit _ (by omega) (by omega)]
    by_cases h2 : i - 1 < k
    · rw [if_pos h2, if_pos (by omega)]; congr 1; omega
    · rw [if_neg h2, if_neg (by omega)]; congr 1; omega
theorem rotL_zero (x : W32) : rotL x 0 = x := by
  apply BitVec.eq_of_getLsbD_eq
  intro i hi
  rw [rotL_bit _ (by omega) hi]
  simp
def turnK (n : Int) : Nat := (n % 32).toNat
theorem turnK_lt (n : Int) : turnK n < 32 := by unfold turnK; omega
theorem wrapU (n : Int) : IntKind.u64.wrap n = n % 18446744073709551616 := by
  simp [IntKind.wrap, IntKind.bits, IntKind.signed]
theorem Left_sp (x : W32) (n : Int) (h : View) (w : World) (s : St ⟨w, h, []⟩ h [] w) :
    Calls Tryz.prog 110 [v32 x, .int .i64 n].toArray w fun e w' => e = .returned (v32 (rotL x (turnK n))) ∧ St ⟨w, h, []⟩ h [] w' := by
  have hw : (IntKind.u64.wrap n).tmod 32 = ((turnK n : Nat) : Int) := by
    rw [wrapU, Int.tmod_eq_emod_of_nonneg (Int.emod_nonneg _ (by omega)), Int.emod_emod_of_dvd _ (by decide)]
    unfold turnK
    omega
  have hl := turnK_lt n
  have hs : IntKind.u64.wrap (32 - ((turnK n : Nat) : Int)) = ((32 - turnK n : Nat) : Int) := by rw [wrapU]; omega
  have hres : rotL x (turnK n) = x <<< turnK n ||| x >>> (32 - turnK n) := rfl
  generalize turnK n = k at hw hl hs hres ⊢
  rw [hres]
  refine calls_enter Tryz.func110 rfl Tryz.ntmps110 rfl s ?_
  repeat' (first|(refine ycf ?_;apply ybk;(·first|(first|(refine qv_convert_int' rfl rfl)|(refine qv_remr rfl rfl (by decide) hw)|(refine qv_subr rfl rfl hs)|(apply qv_shlw<;>rfl)|(apply qv_shrw<;>rfl)|(apply qv_orw<;>rfl)));(·rfl);(·rfl))|refine t1_ ?_|(refine ta_ ?_;intro _)|((fail_if_success (refine ybi rfl ?_));refine ybj rfl ?_ ?_<;>(intro ht;rw [ht];first|replace ht := oet_ ht|replace ht := oef_ ht|skip))|(refine ych ?_;first|(refine ybw rfl ?_ ?_<;>intro ht)|(refine ybx rfl ?_ ?_<;>intro ht)))
  exact nx_ret1 rfl (rv_tmp rfl) (fun w' s' => ⟨rfl, s'.nil⟩)
theorem rLeft_sp (x : W32) (n : Int) (h : View) (w : World) (s : St ⟨w, h, []⟩ h [] w) :
    Calls Tryz.prog 107 [v32 x, .int .i64 n].toArray w fun e w' => e = .returned (v32 (rotL x (turnK n))) ∧ St ⟨w, h, []⟩ h [] w' := by
  have hl := turnK_lt n
  have hk : n.tmod 32 < 0 ∧ n.tmod 32 + 32 = ((turnK n : Nat) : Int) ∨ 0 ≤ n.tmod 32 ∧ n.tmod 32 = ((turnK n : Nat) : Int) := by
    unfold turnK
    have := Int.tmod_eq_emod (a := n) (b := 32)
    split at this <;> omega
  generalize turnK n = k at hl hk ⊢
  obtain ⟨m, hm0⟩ : ∃ m, n.tmod 32 = m := ⟨_, rfl⟩
  rw [hm0] at hk
  have hw : m + 32 = ((k : Nat) : Int) → IntKind.i64.wrap (m + 32) = ((k : Nat) : Int) := fun hm => by rw [IntKind.wrap_i64]; omega
  refine calls_enter Tryz.func107 rfl Tryz.ntmps107 rfl s ?_
  rcases hk with ⟨hk, hm⟩ | ⟨hk, hm⟩
  case' inl => repeat' (first|(refine ycf ?_;apply ybk;(·first|(first|(refine qv_remr rfl rfl (by decide) hm0)|(refine qv_addr rfl rfl (hw hm))|exact tk_));(·rfl);(·rfl))|refine t1_ ?_|(refine ta_ ?_;intro _)|((fail_if_success (refine ybi rfl ?_));refine ybj rfl ?_ ?_<;>(intro ht;rw [ht];first|replace ht := oet_ ht|replace ht := oef_ ht|skip))|(refine ych ?_;first|(refine ybw rfl ?_ ?_<;>intro ht)|(refine ybx rfl ?_ ?_<;>intro ht)))
  case' inr =>
    subst hm
    repeat' (first|(refine ycf ?_;apply ybk;(·first|(first|(refine qv_remr rfl rfl (by decide) hm0)|(refine qv_addr rfl rfl (hw hm))|exact tk_));(·rfl);(·rfl))|refine t1_ ?_|(refine ta_ ?_;intro _)|((fail_if_success (refine ybi rfl ?_));refine ybj rfl ?_ ?_<;>(intro ht;rw [ht];first|replace ht := oet_ ht|replace ht := oef_ ht|skip))|(refine ych ?_;first|(refine ybw rfl ?_ ?_<;>intro ht)|(refine ybx rfl ?_ ?_<;>intro ht)))
  all_goals
    refine cx_loop (X := Nat) (fun i => [(0, v32 (rotL x i)), (5, .int .i64 (k : Nat)), (6, .int .i64 (i : Nat))]) (fun _ => h) (fun _ => []) (fun i => i ≤ k) (fun i => k - i) 0 (Nat.zero_le _) ?_ (fun _ s => s) ?_
    · rw [rotL_zero]
      exact ts_
  all_goals
    intro i hi
    have hq : IntKind.u32.wrap (((rotL x i).toNat : Int).tdiv 2147483648) = ((rotL x i >>> 31).toNat : Int) := by
      have e : ((rotL x i).toNat : Int).tdiv 2147483648 = ((rotL x i >>> 31).toNat : Int) := by
        rw [BitVec.toNat_ushiftRight, Nat.shiftRight_eq_div_pow]
        rfl
      rw [e]
      exact wrapw_id rfl rfl _
    by_cases hik : i < k
    · have hr : rotL x i * 2#32 + rotL x i >>> 31 = rotL x (i + 1) := by rw [rotL_one, rotL_succ x (by omega)]
      have h2 : (IntKind.u32.wrap (2 : Int)) = ((2#32).toNat : Int) := by decide
      repeat' (first|(refine ycf ?_;apply ybk;(·first|(first|exact tk_|(refine qv_quor rfl rfl (by decide) hq)|(refine qv_mulw (b := 2#32) rfl rfl rfl rfl)|(apply qv_addw<;>rfl)));(·rfl);(·rfl))|refine t1_ ?_|(refine ta_ ?_;intro _)|((fail_if_success (refine ybi rfl ?_));refine ybj rfl ?_ ?_<;>(intro ht;rw [ht];first|replace ht := oet_ ht|replace ht := oef_ ht|skip))|(refine ych ?_;first|(refine ybw rfl ?_ ?_<;>intro ht)|(refine ybx rfl ?_ ?_<;>intro ht)))
      refine nx_round (i + 1) (by show i + 1 ≤ k; omega) (by show k - (i + 1) < k - i; omega) ?_ (fun _ s => s)
      rw [← hr]
      exact ts_
    · have hik2 : i = k := by omega
      subst hik2
      repeat' (first|(refine ycf ?_;apply ybk;(·first|(exact tk_));(·rfl);(·rfl))|refine t1_ ?_|(refine ta_ ?_;intro _)|((fail_if_success (refine ybi rfl ?_));refine ybj rfl ?_ ?_<;>(intro ht;rw [ht];first|replace ht := oet_ ht|replace ht := oef_ ht|skip))|(refine ych ?_;first|(refine ybw rfl ?_ ?_<;>intro ht)|(refine ybx rfl ?_ ?_<;>intro ht)))
      exact nx_ret1 rfl (rv_tmp rfl) (fun w' s' => ⟨rfl, s'.nil⟩)
theorem turnK_neg {a : Nat} (h0 : 0 < a) (h1 : a < 32) : turnK (-(a : Int)) = 32 - a := by unfold turnK; omega
def turnedF (x : W32) (a b c : Nat) : W32 := rotL x (32 - a) ^^^ rotL x (32 - b) ^^^ rotL x (32 - c)
def movedF (x : W32) (a b c : Nat) : W32 := rotL x (32 - a) ^^^ rotL x (32 - b) ^^^ x >>> c
theorem turned_sp (x : W32) (a b c : Nat) (ha : 0 < a ∧ a < 32) (hb : 0 < b ∧ b < 32) (hc : 0 < c ∧ c < 32) (h : View) (w : World) (s : St ⟨w, h, []⟩ h [] w) :
    Calls Tryz.prog 85 [v32 x, .int .i64 a, .int .i64 b, .int .i64 c].toArray w fun e w' => e = .returned (v32 (turnedF x a b c)) ∧ St ⟨w, h, []⟩ h [] w' := by
  have wa : IntKind.i64.wrap (0 - (a : Int)) = -(a : Int) := by rw [IntKind.wrap_i64]; omega
  have wb : IntKind.i64.wrap (0 - (b : Int)) = -(b : Int) := by rw [IntKind.wrap_i64]; omega
  have wc : IntKind.i64.wrap (0 - (c : Int)) = -(c : Int) := by rw [IntKind.wrap_i64]; omega
  have ta := turnK_neg ha.1 ha.2
  have tb := turnK_neg hb.1 hb.2
  have tc := turnK_neg hc.1 hc.2
  have La := Left_sp x (-(a : Int)) h
  have Lb := Left_sp x (-(b : Int)) h
  have Lc := Left_sp x (-(c : Int)) h
  rw [ta] at La
  rw [tb] at Lb
  rw [tc] at Lc
  refine calls_enter Tryz.func85 rfl Tryz.ntmps85 rfl s ?_
  repeat' (first|(refine ycf ?_;apply ybk;(·first|(first|(refine qv_negr rfl wa)|(refine qv_negr rfl wb)|(refine qv_negr rfl wc)|(apply qv_xorw<;>rfl)));(·rfl);(·rfl))|refine t1_ ?_|(refine ta_ ?_;intro _)|((fail_if_success (refine ybi rfl ?_));refine ybj rfl ?_ ?_<;>(intro ht;rw [ht];first|replace ht := oet_ ht|replace ht := oef_ ht|skip))|(refine ych ?_;first|(refine ybw rfl ?_ ?_<;>intro ht)|(refine ybx rfl ?_ ?_<;>intro ht)))
  (refine ycn (ycp Tryz.func110 rfl (by kernel_rfl) rfl) (La) rfl rfl rfl ?_ ?_; (· (exact to_)))
  repeat' (first|(refine ycf ?_;apply ybk;(·first|(first|(refine qv_negr rfl wa)|(refine qv_negr rfl wb)|(refine qv_negr rfl wc)|(apply qv_xorw<;>rfl)));(·rfl);(·rfl))|refine t1_ ?_|(refine ta_ ?_;intro _)|((fail_if_success (refine ybi rfl ?_));refine ybj rfl ?_ ?_<;>(intro ht;rw [ht];first|replace ht := oet_ ht|replace ht := oef_ ht|skip))|(refine ych ?_;first|(refine ybw rfl ?_ ?_<;>intro ht)|(refine ybx rfl ?_ ?_<;>intro ht)))
  (refine ycn (ycp Tryz.func110 rfl (by kernel_rfl) rfl) (Lb) rfl rfl rfl ?_ ?_; (· (exact to_)))
  repeat' (first|(refine ycf ?_;apply ybk;(·first|(first|(refine qv_negr rfl wa)|(refine qv_negr rfl wb)|(refine qv_negr rfl wc)|(apply qv_xorw<;>rfl)));(·rfl);(·rfl))|refine t1_ ?_|(refine ta_ ?_;intro _)|((fail_if_success (refine ybi rfl ?_));refine ybj rfl ?_ ?_<;>(intro ht;rw [ht];first|replace ht := oet_ ht|replace ht := oef_ ht|skip))|(refine ych ?_;first|(refine ybw rfl ?_ ?_<;>intro ht)|(refine ybx rfl ?_ ?_<;>intro ht)))
  (refine ycn (ycp Tryz.func110 rfl (by kernel_rfl) rfl) (Lc) rfl rfl rfl ?_ ?_; (· (exact to_)))
  repeat' (first|(refine ycf ?_;apply ybk;(·first|(first|(refine qv_negr rfl wa)|(refine qv_negr rfl wb)|(refine qv_negr rfl wc)|(apply qv_xorw<;>rfl)));(·rfl);(·rfl))|refine t1_ ?_|(refine ta_ ?_;intro _)|((fail_if_success (refine ybi rfl ?_));refine ybj rfl ?_ ?_<;>(intro ht;rw [ht];first|replace ht := oet_ ht|replace ht := oef_ ht|skip))|(refine ych ?_;first|(refine ybw rfl ?_ ?_<;>intro ht)|(refine ybx rfl ?_ ?_<;>intro ht)))
  exact nx_ret1 rfl (rv_tmp rfl) (fun w' s' => ⟨rfl, s'.nil⟩)
theorem moved_sp (x : W32) (a b c : Nat) (ha : 0 < a ∧ a < 32) (hb : 0 < b ∧ b < 32) (h : View) (w : World) (s : St ⟨w, h, []⟩ h [] w) :
    Calls Tryz.prog 109 [v32 x, .int .i64 a, .int .i64 b, .int .i64 c].toArray w fun e w' => e = .returned (v32 (movedF x a b c)) ∧ St ⟨w, h, []⟩ h [] w' := by
  have wa : IntKind.i64.wrap (0 - (a : Int)) = -(a : Int) := by rw [IntKind.wrap_i64]; omega
  have wb : IntKind.i64.wrap (0 - (b : Int)) = -(b : Int) := by rw [IntKind.wrap_i64]; omega
  have ta := turnK_neg ha.1 ha.2
  have tb := turnK_neg hb.1 hb.2
  have La := Left_sp x (-(a : Int)) h
  have Lb := Left_sp x (-(b : Int)) h
  rw [ta] at La
  rw [tb] at Lb
  refine calls_enter Tryz.func109 rfl Tryz.ntmps109 rfl s ?_
  repeat' (first|(refine ycf ?_;apply ybk;(·first|(first|(refine qv_negr rfl wa)|(refine qv_negr rfl wb)|(apply qv_xorw<;>rfl)|(apply qv_shrw<;>rfl)));(·rfl);(·rfl))|refine t1_ ?_|(refine ta_ ?_;intro _)|((fail_if_success (refine ybi rfl ?_));refine ybj rfl ?_ ?_<;>(intro ht;rw [ht];first|replace ht := oet_ ht|replace ht := oef_ ht|skip))|(refine ych ?_;first|(refine ybw rfl ?_ ?_<;>intro ht)|(refine ybx rfl ?_ ?_<;>intro ht)))
  refine cx_region_draw' rfl (by kernel_rfl) ?_
  repeat' (refine ycf ?_;(first|(first|(apply ybm;(·(first|(first|(refine qv_negr rfl wa)|(refine qv_negr rfl wb)|(apply qv_xorw<;>rfl)|(apply qv_shrw<;>rfl))|exact tq_));(·rfl);(·rfl);(·(exact th_)))|refine ybl rfl rfl ?_|((fail_if_success (refine ybi rfl ?_));refine ybj rfl ?_ ?_<;>(intro ht;rw [ht];first|replace ht := oet_ ht|replace ht := oef_ ht|skip))|(refine tb_ ?_ ?_ ?_;(·(exact to_));(·intro _;(exact to_));intro _)|(first|(refine tqs_ ?_ ?_ ?_;(·(exact to_));(·(exact to_))))|(apply ybn;(·(first|(first|(refine qv_negr rfl wa)|(refine qv_negr rfl wb)|(apply qv_xorw<;>rfl)|(apply qv_shrw<;>rfl))|exact tq_));(·rfl);(·rfl);(·rfl);(·(exact to_))))|refine ycg ?_))
  (refine ycn (ycp Tryz.func110 rfl (by kernel_rfl) rfl) (La) rfl rfl rfl ?_ ?_; (· (exact to_)))
  repeat' (refine ycf ?_;(first|(first|(apply ybm;(·(first|(first|(refine qv_negr rfl wa)|(refine qv_negr rfl wb)|(apply qv_xorw<;>rfl)|(apply qv_shrw<;>rfl))|exact tq_));(·rfl);(·rfl);(·(exact th_)))|refine ybl rfl rfl ?_|((fail_if_success (refine ybi rfl ?_));refine ybj rfl ?_ ?_<;>(intro ht;rw [ht];first|replace ht := oet_ ht|replace ht := oef_ ht|skip))|(refine tb_ ?_ ?_ ?_;(·(exact to_));(·intro _;(exact to_));intro _)|(first|(refine tqs_ ?_ ?_ ?_;(·(exact to_));(·(exact to_))))|(apply ybn;(·(first|(first|(refine qv_negr rfl wa)|(refine qv_negr rfl wb)|(apply qv_xorw<;>rfl)|(apply qv_shrw<;>rfl))|exact tq_));(·rfl);(·rfl);(·rfl);(·(exact to_))))|refine ycg ?_))
  (refine ycn (ycp Tryz.func110 rfl (by kernel_rfl) rfl) (Lb) rfl rfl rfl ?_ ?_; (· (exact to_)))
  repeat' (refine ycf ?_;(first|(first|(apply ybm;(·(first|(first|(refine qv_negr rfl wa)|(refine qv_negr rfl wb)|(apply qv_xorw<;>rfl)|(apply qv_shrw<;>rfl))|exact tq_));(·rfl);(·rfl);(·(exact th_)))|refine ybl rfl rfl ?_|((fail_if_success (refine ybi rfl ?_));refine ybj rfl ?_ ?_<;>(intro ht;rw [ht];first|replace ht := oet_ ht|replace ht := oef_ ht|skip))|(refine tb_ ?_ ?_ ?_;(·(exact to_));(·intro _;(exact to_));intro _)|(first|(refine tqs_ ?_ ?_ ?_;(·(exact to_));(·(exact to_))))|(apply ybn;(·(first|(first|(refine qv_negr rfl wa)|(refine qv_negr rfl wb)|(apply qv_xorw<;>rfl)|(apply qv_shrw<;>rfl))|exact tq_));(·rfl);(·rfl);(·rfl);(·(exact to_))))|refine ycg ?_))
  repeat' (first|(refine ycf ?_;apply ybk;(·first|(first|(refine qv_negr rfl wa)|(refine qv_negr rfl wb)|(apply qv_xorw<;>rfl)|(apply qv_shrw<;>rfl)));(·rfl);(·rfl))|refine t1_ ?_|(refine ta_ ?_;intro _)|((fail_if_success (refine ybi rfl ?_));refine ybj rfl ?_ ?_<;>(intro ht;rw [ht];first|replace ht := oet_ ht|replace ht := oef_ ht|skip))|(refine ych ?_;first|(refine ybw rfl ?_ ?_<;>intro ht)|(refine ybx rfl ?_ ?_<;>intro ht)))
  exact nx_ret1 rfl (rv_tmp rfl) (fun w' s' => ⟨rfl, s'.nil⟩)
theorem rright_sp2 (x : W32) (a : Nat) (ha : 0 < a ∧ a < 32) (h : View) (w : World) (s : St ⟨w, h, []⟩ h [] w) :
    Calls Tryz.prog 79 [v32 x, .int .i64 a].toArray w fun e w' => e = .returned (v32 (rotL x (32 - a))) ∧ St ⟨w, h, []⟩ h [] w' := by
  have La := rLeft_sp x (32 - (a : Int)) h
  rw [show turnK (32 - (a : Int)) = 32 - a by unfold turnK; omega] at La
  refine calls_enter Tryz.func79 rfl Tryz.ntmps79 rfl s ?_
  repeat' (first|(refine ycf ?_;apply ybk;(·first|(first|(refine qv_negr rfl wa)|(refine qv_negr rfl wb)|(apply qv_xorw<;>rfl)|(apply qv_shrw<;>rfl)));(·rfl);(·rfl))|refine t1_ ?_|(refine ta_ ?_;intro _)|((fail_if_success (refine ybi rfl ?_));refine ybj rfl ?_ ?_<;>(intro ht;rw [ht];first|replace ht := oet_ ht|replace ht := oef_ ht|skip))|(refine ych ?_;first|(refine ybw rfl ?_ ?_<;>intro ht)|(refine ybx rfl ?_ ?_<;>intro ht)))
  (refine ycn (ycp Tryz.func107 rfl (by kernel_rfl) rfl) (La) rfl rfl rfl ?_ ?_; (· (exact to_)))
  repeat' (first|(refine ycf ?_;apply ybk;(·first|(first|(refine qv_negr rfl wa)|(refine qv_negr rfl wb)|(apply qv_xorw<;>rfl)|(apply qv_shrw<;>rfl)));(·rfl);(·rfl))|refine t1_ ?_|(refine ta_ ?_;intro _)|((fail_if_success (refine ybi rfl ?_));refine ybj rfl ?_ ?_<;>(intro ht;rw [ht];first|replace ht := oet_ ht|replace ht := oef_ ht|skip))|(refine ych ?_;first|(refine ybw rfl ?_ ?_<;>intro ht)|(refine ybx rfl ?_ ?_<;>intro ht)))
  exact nx_ret1 rfl (rv_tmp rfl) (fun w' s' => ⟨rfl, s'.nil⟩)
end Go.Proofs.YtkkjppeaaicgaaaGreatDoor
end

section
namespace Go.Ck
open Go
set_option linter.unusedVariables false
set_option linter.unusedSimpArgs false
section
variable {P : Program} {n : Nat} {K : Bs} {F : List (Nat × Value)} {h : View} {L : List Res} {Q : Exit → Act → World → Prop}
variable {dst : Option Nat} {ty : Nat} {pos : String} {af : Array Edge} {gd : Option (Nat × Bool)}
theorem rx_copy {g : Rg} {i : Nat} {r : List (Nat × Oper)} {T T2 e : Nat} {x y : Operand} {b o dLen dCap sLen sCap by' : Nat} {a : Addr} {z : Value} {cs : Array Value} {e' : TypeId} {news : List Value} (k : Nat) [tu : TyU P T (.slice e)] [tb : TyB P e z 1 by']
    (hx : ev F x = some (.slice (some ⟨b, o, none⟩) dLen dCap)) (hy : ev F y = some (.slice (some a) sLen sCap)) (hk : L[k]? = some (Res.blk b (.cells cs e' (0, 0)))) (hsrc : Cells h L a news) (hnl : news.length = min sLen dLen)
    (hfit : o + news.length ≤ cs.size) (h1 : ∀ u ∈ news, u.oneCell' = true) {cs' : List Value} (hcs : spl cs.toList o news = cs')
    (hw : wantedF g.ops F ⟨dst, .call ⟨.builtin .copy, #[x, y], #[T, T2]⟩, ty, pos, af, gd⟩ = some true) (hd : okd n dst = true) (hl : g.lo i = true) (o1 : Owe g i h L) (o2 : Owe g i h (L.set k (Res.blk b (.cells cs'.toArray e' (0, 0)))))
    (hn : RX P n K g r (putF dst (.int .i64 news.length) F) h (L.set k (Res.blk b (.cells cs'.toArray e' (0, 0)))) Q) : RX P n K g ((i, ⟨dst, .call ⟨.builtin .copy, #[x, y], #[T, T2]⟩, ty, pos, af, gd⟩) :: r) F h L Q := by
  unfold RX at *
  intro ac w f s
  subst hcs
  obtain ⟨inf, hi, _, hsize, _⟩ := tb.ex
  have hb : w.heap[b]? = some (.cells cs e' (0, 0)) := s.hd.own _ (List.mem_of_getElem? hk)
  have hs1 : (P.info? e).map (·.size) = some 1 := by rw [hi]; simp [hsize]
  have hrun := run_copy_row (P := P) w T T2 ty e b o dLen dCap a sLen sCap cs e' news tu.u hs1 hb hnl (hsrc w s.hd) hfit h1
  have hex : (execOp ac.eval ⟨dst, .call ⟨.builtin .copy, #[x, y], #[T, T2]⟩, ty, pos, af, gd⟩).run P w = .ok (.value (.int .i64 news.length)) (w.setRow b (spl cs.toList o news).toArray) := by
    simp [execOp, resolve, invoke, builtin, f.ev hx, f.ev hy, hrun, goInt, spl]
  have s' : St K h (L.set k (Res.blk b (.cells (spl cs.toList o news).toArray e' (0, 0)))) (w.setRow b (spl cs.toList o news).toArray) :=
    s.writeAt hk rfl rfl rfl (by simp) (by simp) (fun j hj => setRow_other w b j _ hj) (setRow_heap w b cs _ e' _ hb)
  refine .inr (.inr ⟨wantedF_ok f hw, hl, o1.out s, ?_⟩)
  unfold Oper.wp
  rw [hex]
  exact ⟨o2.out s', hn _ _ (f.put hd _) s'⟩
theorem qv_slice_arr_from {T len e k b o : Nat} {x y : Operand} {i : Nat} {ki : IntKind} [tu : TyU P T (.array len e)] [ts : TyS P e k] (hx : ev F x = some (.pointer (some ⟨b, o, none⟩))) (hy : ev F y = some (.int ki (i : Int))) (hi : i < len) :
    QV P n F h L ⟨dst, .slice T x (some y) none none, ty, pos, af, gd⟩ (.slice (some ⟨b, o + i * k, none⟩) (len - i) (len - i)) := .mk fun a w f s => by
  have h1 : (i : Int) ≤ (len : Int) := by omega
  have h2 : ¬ len = i := by omega
  have h3 : i ≤ len := by omega
  simp [execOp, f.ev hx, f.ev hy, Instr.sliceAt, Instr.sureAddr, Instr.sliceBounds, Instr.sliceBound, asIntOf, run_underlying tu.u, h1, h2, h3, ts.s, Addr.add_off]
theorem qv_slice_arr_to {T len e k b o : Nat} {x y : Operand} {j : Nat} {kj : IntKind} [tu : TyU P T (.array len e)] [ts : TyS P e k] (hx : ev F x = some (.pointer (some ⟨b, o, none⟩))) (hy : ev F y = some (.int kj (j : Int))) (hj : j ≤ len) :
    QV P n F h L ⟨dst, .slice T x none (some y) none, ty, pos, af, gd⟩ (.slice (some ⟨b, o, none⟩) j len) := .mk fun a w f s => by
  have h1 : (j : Int) ≤ (len : Int) := by omega
  simp [execOp, f.ev hx, f.ev hy, Instr.sliceAt, Instr.sureAddr, Instr.sliceBounds, Instr.sliceBound, asIntOf, run_underlying tu.u, h1, hj, ts.s, Addr.add_off]
theorem qv_slice_arr {T len e k b o : Nat} {x : Operand} [tu : TyU P T (.array len e)] [ts : TyS P e k] (hx : ev F x = some (.pointer (some ⟨b, o, none⟩))) :
    QV P n F h L ⟨dst, .slice T x none none none, ty, pos, af, gd⟩ (.slice (some ⟨b, o, none⟩) len len) := .mk fun a w f s => by
  simp [execOp, f.ev hx, Instr.sliceAt, Instr.sureAddr, Instr.sliceBounds, run_underlying tu.u, ts.s, Addr.add_off]
theorem cx_rowsl {c : Code} {e : TypeId} {sz m : Nat} {v : Value} {xs : List Value} (k : Nat) (hk : L[k]? = some (Res.row e sz v m xs)) (h2 : ∀ ad cap, v = .slice ad m cap → CX P n K c F h L Q) : CX P n K c F h L Q := by
  unfold CX at *
  intro a w f s
  have ho : w.ownsRow 0 e sz v m xs := s.hd.own _ (List.mem_of_getElem? hk)
  rcases ho.2 with ⟨q1, q2⟩ | ⟨g, cap, cur, q1, _⟩
  · exact h2 none 0 (by rw [q1, q2]) a w f s
  · exact h2 _ cap q1 a w f s
theorem rx_rowsl {g : Rg} {prs : List (Nat × Oper)} {e : TypeId} {sz m : Nat} {v : Value} {xs : List Value} (k : Nat) (hk : L[k]? = some (Res.row e sz v m xs)) (h2 : ∀ ad cap, v = .slice ad m cap → RX P n K g prs F h L Q) : RX P n K g prs F h L Q := by
  unfold RX at *
  intro a w f s
  have ho : w.ownsRow 0 e sz v m xs := s.hd.own _ (List.mem_of_getElem? hk)
  rcases ho.2 with ⟨q1, q2⟩ | ⟨g, cap, cur, q1, _⟩
  · exact h2 none 0 (by rw [q1, q2]) a w f s
  · exact h2 _ cap q1 a w f s
theorem cells_view {b : Nat} {cs : Array Value} {e : TypeId} {fz : Nat × Nat} (hb : h b = some (.cells cs e fz)) : Cells h L ⟨b, 0, none⟩ cs.toList := fun w s j u hj => by
  have hb : w.heap[b]? = some (.cells cs e fz) := s.view b _ hb
  rw [Addr.add_off]
  simp [World.cell?, hb]
  simpa using hj
theorem qv_arrptr {T n' e : Nat} {x : Operand} {ad : Option Addr} {len cap : Nat} [tu : TyU P T (.array n' e)] (hx : ev F x = some (.slice ad len cap)) (hn : n' ≤ len) : QV P n F h L ⟨dst, .sliceToArrayPointer T x, ty, pos, af, gd⟩ (.pointer ad) := .mk fun a w f s => by
  have h1 : ¬ len < n' := by omega
  simp [execOp, f.ev hx, Instr.arrayAt, run_underlying tu.u, h1]
end
end Go.Ck
end
