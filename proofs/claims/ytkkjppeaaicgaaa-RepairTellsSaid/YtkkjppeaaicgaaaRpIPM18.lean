/-
  Part 18 of a proof: SbRa SbRb.
  Conditions: each theorem states its own.
-/
import Derived.Test.YtkkjppeaaicgaaaRpIPM17
section
namespace Go.Proofs.Ytkkjppeaaicgaaa
open Go Go.Ck
set_option maxRecDepth 100000
set_option maxHeartbeats 4000000
set_option linter.unusedVariables false

theorem rright_sp (z : Sb) (h : View) (hx : Rv h z) (hl : z.l.length ≤ 4611686018427387904) (hbl : z.b.length ≤ 9223372036854775807) (w : World) (s : St ⟨w, h, []⟩ h [] w) :
    Calls Try.prog 69 [sbv z].toArray w fun e w' => e = .returned (.bool (rightA z.a)) ∧ St ⟨w, h, []⟩ h [] w' := by
  have hc1 : Cx h (cxv z.u z.mv) z.u z.l := ⟨z.hu, _, rfl, hx.ds⟩
  have hbs := hx.bs
  refine calls_enter Try.func69 rfl Try.ntmps69 rfl s ?_
  have ea : rightA z.a = (rightB z.d && (decide (checkC z.u z.l = 0) && (!(decide (checkC z.u z.l = 0) && rightB z.d && hasC z.u z.l z.d) && decide ((z.b.length : Int) ≤ 16384)))) := rfl
  rw [ea]
  have D1 := refDot_sp z.d h
  cases hR : rightB z.d with
  | false =>
    rw [hR] at D1
    repeat' (first | (refine ycf ?_; apply ybk; (· first | (first | (apply yad; (· rfl); (· exact sb_past (yaz 0 rfl)); (· exact ycj z.hu)) | (apply yad; (· rfl); (· exact sb_dot (yaz 0 rfl)); (· rfl)) | exact qv_len_bstr rfl) | (apply yae; (· rfl); (· (exact sb_body0 (yaz 0 rfl) hbs)))); (· rfl); (· rfl)) | refine t1_ ?_ | (refine ta_ ?_; intro _) | ((fail_if_success (refine ybi rfl ?_)); refine ybj rfl ?_ ?_ <;> (intro ht; rw [ht]; first | replace ht := of_decide_eq_true ht | replace ht := of_decide_eq_false ht | skip)) | (refine ych ?_; first | (refine ybw rfl ?_ ?_ <;> intro ht) | (refine ybx rfl ?_ ?_ <;> intro ht)))
    (refine ycn (ycp Try.func88 rfl (by kernel_rfl) rfl) (D1) rfl rfl rfl ?_ ?_; (· (exact to_)))
    repeat' (first | (refine ycf ?_; apply ybk; (· first | (first | (apply yad; (· rfl); (· exact sb_past (yaz 0 rfl)); (· exact ycj z.hu)) | (apply yad; (· rfl); (· exact sb_dot (yaz 0 rfl)); (· rfl)) | exact qv_len_bstr rfl) | (apply yae; (· rfl); (· (exact sb_body0 (yaz 0 rfl) hbs)))); (· rfl); (· rfl)) | refine t1_ ?_ | (refine ta_ ?_; intro _) | ((fail_if_success (refine ybi rfl ?_)); refine ybj rfl ?_ ?_ <;> (intro ht; rw [ht]; first | replace ht := of_decide_eq_true ht | replace ht := of_decide_eq_false ht | skip)) | (refine ych ?_; first | (refine ybw rfl ?_ ?_ <;> intro ht) | (refine ybx rfl ?_ ?_ <;> intro ht)))
    exact nx_ret1 rfl (rv_tmp rfl) (fun w' s' => ⟨by simp, s'.nil⟩)
  | true =>
    rw [hR] at D1
    have K1 := refCheck_sp _ z.u z.l h hc1 hl
    have H1 := refHas_sp _ z.u z.l z.d h hc1 hl hR
    by_cases hk : checkC z.u z.l = 0
    · rw [hk] at K1 ⊢
      rw [show decide ((0 : Int) = 0) = true from rfl, Bool.true_and]
      cases hH : hasC z.u z.l z.d with
      | true =>
        rw [hH] at H1
        repeat' (first | (refine ycf ?_; apply ybk; (· first | (first | (apply yad; (· rfl); (· exact sb_past (yaz 0 rfl)); (· exact ycj z.hu)) | (apply yad; (· rfl); (· exact sb_dot (yaz 0 rfl)); (· rfl)) | exact qv_len_bstr rfl) | (apply yae; (· rfl); (· (exact sb_body0 (yaz 0 rfl) hbs)))); (· rfl); (· rfl)) | refine t1_ ?_ | (refine ta_ ?_; intro _) | ((fail_if_success (refine ybi rfl ?_)); refine ybj rfl ?_ ?_ <;> (intro ht; rw [ht]; first | replace ht := of_decide_eq_true ht | replace ht := of_decide_eq_false ht | skip)) | (refine ych ?_; first | (refine ybw rfl ?_ ?_ <;> intro ht) | (refine ybx rfl ?_ ?_ <;> intro ht)))
        (refine ycn (ycp Try.func88 rfl (by kernel_rfl) rfl) (D1) rfl rfl rfl ?_ ?_; (· (exact to_)))
        repeat' (first | (refine ycf ?_; apply ybk; (· first | (first | (apply yad; (· rfl); (· exact sb_past (yaz 0 rfl)); (· exact ycj z.hu)) | (apply yad; (· rfl); (· exact sb_dot (yaz 0 rfl)); (· rfl)) | exact qv_len_bstr rfl) | (apply yae; (· rfl); (· (exact sb_body0 (yaz 0 rfl) hbs)))); (· rfl); (· rfl)) | refine t1_ ?_ | (refine ta_ ?_; intro _) | ((fail_if_success (refine ybi rfl ?_)); refine ybj rfl ?_ ?_ <;> (intro ht; rw [ht]; first | replace ht := of_decide_eq_true ht | replace ht := of_decide_eq_false ht | skip)) | (refine ych ?_; first | (refine ybw rfl ?_ ?_ <;> intro ht) | (refine ybx rfl ?_ ?_ <;> intro ht)))
        (refine ycn (ycp Try.func89 rfl (by kernel_rfl) rfl) (K1) rfl rfl rfl ?_ ?_; (· (exact to_)))
        repeat' (first | (refine ycf ?_; apply ybk; (· first | (first | (apply yad; (· rfl); (· exact sb_past (yaz 0 rfl)); (· exact ycj z.hu)) | (apply yad; (· rfl); (· exact sb_dot (yaz 0 rfl)); (· rfl)) | exact qv_len_bstr rfl) | (apply yae; (· rfl); (· (exact sb_body0 (yaz 0 rfl) hbs)))); (· rfl); (· rfl)) | refine t1_ ?_ | (refine ta_ ?_; intro _) | ((fail_if_success (refine ybi rfl ?_)); refine ybj rfl ?_ ?_ <;> (intro ht; rw [ht]; first | replace ht := of_decide_eq_true ht | replace ht := of_decide_eq_false ht | skip)) | (refine ych ?_; first | (refine ybw rfl ?_ ?_ <;> intro ht) | (refine ybx rfl ?_ ?_ <;> intro ht)))
        (refine ycn (ycp Try.func30 rfl (by kernel_rfl) rfl) (H1) rfl rfl rfl ?_ ?_; (· (exact to_)))
        repeat' (first | (refine ycf ?_; apply ybk; (· first | (first | (apply yad; (· rfl); (· exact sb_past (yaz 0 rfl)); (· exact ycj z.hu)) | (apply yad; (· rfl); (· exact sb_dot (yaz 0 rfl)); (· rfl)) | exact qv_len_bstr rfl) | (apply yae; (· rfl); (· (exact sb_body0 (yaz 0 rfl) hbs)))); (· rfl); (· rfl)) | refine t1_ ?_ | (refine ta_ ?_; intro _) | ((fail_if_success (refine ybi rfl ?_)); refine ybj rfl ?_ ?_ <;> (intro ht; rw [ht]; first | replace ht := of_decide_eq_true ht | replace ht := of_decide_eq_false ht | skip)) | (refine ych ?_; first | (refine ybw rfl ?_ ?_ <;> intro ht) | (refine ybx rfl ?_ ?_ <;> intro ht)))
        exact nx_ret1 rfl (rv_tmp rfl) (fun w' s' => ⟨by simp, s'.nil⟩)
      | false =>
        rw [hH] at H1
        repeat' (first | (refine ycf ?_; apply ybk; (· first | (first | (apply yad; (· rfl); (· exact sb_past (yaz 0 rfl)); (· exact ycj z.hu)) | (apply yad; (· rfl); (· exact sb_dot (yaz 0 rfl)); (· rfl)) | exact qv_len_bstr rfl) | (apply yae; (· rfl); (· (exact sb_body0 (yaz 0 rfl) hbs)))); (· rfl); (· rfl)) | refine t1_ ?_ | (refine ta_ ?_; intro _) | ((fail_if_success (refine ybi rfl ?_)); refine ybj rfl ?_ ?_ <;> (intro ht; rw [ht]; first | replace ht := of_decide_eq_true ht | replace ht := of_decide_eq_false ht | skip)) | (refine ych ?_; first | (refine ybw rfl ?_ ?_ <;> intro ht) | (refine ybx rfl ?_ ?_ <;> intro ht)))
        (refine ycn (ycp Try.func88 rfl (by kernel_rfl) rfl) (D1) rfl rfl rfl ?_ ?_; (· (exact to_)))
        repeat' (first | (refine ycf ?_; apply ybk; (· first | (first | (apply yad; (· rfl); (· exact sb_past (yaz 0 rfl)); (· exact ycj z.hu)) | (apply yad; (· rfl); (· exact sb_dot (yaz 0 rfl)); (· rfl)) | exact qv_len_bstr rfl) | (apply yae; (· rfl); (· (exact sb_body0 (yaz 0 rfl) hbs)))); (· rfl); (· rfl)) | refine t1_ ?_ | (refine ta_ ?_; intro _) | ((fail_if_success (refine ybi rfl ?_)); refine ybj rfl ?_ ?_ <;> (intro ht; rw [ht]; first | replace ht := of_decide_eq_true ht | replace ht := of_decide_eq_false ht | skip)) | (refine ych ?_; first | (refine ybw rfl ?_ ?_ <;> intro ht) | (refine ybx rfl ?_ ?_ <;> intro ht)))
        (refine ycn (ycp Try.func89 rfl (by kernel_rfl) rfl) (K1) rfl rfl rfl ?_ ?_; (· (exact to_)))
        repeat' (first | (refine ycf ?_; apply ybk; (· first | (first | (apply yad; (· rfl); (· exact sb_past (yaz 0 rfl)); (· exact ycj z.hu)) | (apply yad; (· rfl); (· exact sb_dot (yaz 0 rfl)); (· rfl)) | exact qv_len_bstr rfl) | (apply yae; (· rfl); (· (exact sb_body0 (yaz 0 rfl) hbs)))); (· rfl); (· rfl)) | refine t1_ ?_ | (refine ta_ ?_; intro _) | ((fail_if_success (refine ybi rfl ?_)); refine ybj rfl ?_ ?_ <;> (intro ht; rw [ht]; first | replace ht := of_decide_eq_true ht | replace ht := of_decide_eq_false ht | skip)) | (refine ych ?_; first | (refine ybw rfl ?_ ?_ <;> intro ht) | (refine ybx rfl ?_ ?_ <;> intro ht)))
        (refine ycn (ycp Try.func30 rfl (by kernel_rfl) rfl) (H1) rfl rfl rfl ?_ ?_; (· (exact to_)))
        repeat' (first | (refine ycf ?_; apply ybk; (· first | (first | (apply yad; (· rfl); (· exact sb_past (yaz 0 rfl)); (· exact ycj z.hu)) | (apply yad; (· rfl); (· exact sb_dot (yaz 0 rfl)); (· rfl)) | exact qv_len_bstr rfl) | (apply yae; (· rfl); (· (exact sb_body0 (yaz 0 rfl) hbs)))); (· rfl); (· rfl)) | refine t1_ ?_ | (refine ta_ ?_; intro _) | ((fail_if_success (refine ybi rfl ?_)); refine ybj rfl ?_ ?_ <;> (intro ht; rw [ht]; first | replace ht := of_decide_eq_true ht | replace ht := of_decide_eq_false ht | skip)) | (refine ych ?_; first | (refine ybw rfl ?_ ?_ <;> intro ht) | (refine ybx rfl ?_ ?_ <;> intro ht)))
        exact nx_ret1 rfl (rv_tmp rfl) (fun w' s' => ⟨by simp, s'.nil⟩)
    · generalize checkC z.u z.l = cz at hk K1 ⊢
      rw [decide_eq_false hk]
      repeat' (first | (refine ycf ?_; apply ybk; (· first | (first | (apply qv_eql_no; (· rfl); (· rfl); (· exact hk)) | (apply yad; (· rfl); (· exact sb_past (yaz 0 rfl)); (· exact ycj z.hu)) | (apply yad; (· rfl); (· exact sb_dot (yaz 0 rfl)); (· rfl))) | (apply yae; (· rfl); (· (exact sb_body0 (yaz 0 rfl) hbs)))); (· rfl); (· rfl)) | refine t1_ ?_ | (refine ta_ ?_; intro _) | ((fail_if_success (refine ybi rfl ?_)); refine ybj rfl ?_ ?_ <;> (intro ht; rw [ht]; first | replace ht := of_decide_eq_true ht | replace ht := of_decide_eq_false ht | skip)) | (refine ych ?_; first | (refine ybw rfl ?_ ?_ <;> intro ht) | (refine ybx rfl ?_ ?_ <;> intro ht)))
      (refine ycn (ycp Try.func88 rfl (by kernel_rfl) rfl) (D1) rfl rfl rfl ?_ ?_; (· (exact to_)))
      repeat' (first | (refine ycf ?_; apply ybk; (· first | (first | (apply qv_eql_no; (· rfl); (· rfl); (· exact hk)) | (apply yad; (· rfl); (· exact sb_past (yaz 0 rfl)); (· exact ycj z.hu)) | (apply yad; (· rfl); (· exact sb_dot (yaz 0 rfl)); (· rfl))) | (apply yae; (· rfl); (· (exact sb_body0 (yaz 0 rfl) hbs)))); (· rfl); (· rfl)) | refine t1_ ?_ | (refine ta_ ?_; intro _) | ((fail_if_success (refine ybi rfl ?_)); refine ybj rfl ?_ ?_ <;> (intro ht; rw [ht]; first | replace ht := of_decide_eq_true ht | replace ht := of_decide_eq_false ht | skip)) | (refine ych ?_; first | (refine ybw rfl ?_ ?_ <;> intro ht) | (refine ybx rfl ?_ ?_ <;> intro ht)))
      (refine ycn (ycp Try.func89 rfl (by kernel_rfl) rfl) (K1) rfl rfl rfl ?_ ?_; (· (exact to_)))
      repeat' (first | (refine ycf ?_; apply ybk; (· first | (first | (apply qv_eql_no; (· rfl); (· rfl); (· exact hk)) | (apply yad; (· rfl); (· exact sb_past (yaz 0 rfl)); (· exact ycj z.hu)) | (apply yad; (· rfl); (· exact sb_dot (yaz 0 rfl)); (· rfl))) | (apply yae; (· rfl); (· (exact sb_body0 (yaz 0 rfl) hbs)))); (· rfl); (· rfl)) | refine t1_ ?_ | (refine ta_ ?_; intro _) | ((fail_if_success (refine ybi rfl ?_)); refine ybj rfl ?_ ?_ <;> (intro ht; rw [ht]; first | replace ht := of_decide_eq_true ht | replace ht := of_decide_eq_false ht | skip)) | (refine ych ?_; first | (refine ybw rfl ?_ ?_ <;> intro ht) | (refine ybx rfl ?_ ?_ <;> intro ht)))
      exact nx_ret1 rfl (rv_tmp rfl) (fun w' s' => ⟨by simp, s'.nil⟩)

theorem rbefore_sp (a b : Dt) (h : View) (w : World) (s : St ⟨w, h, []⟩ h [] w) :
    Calls Try.prog 53 [dv a, dv b].toArray w fun e w' => e = .returned (.bool (decide (ordD a b < 0))) ∧ St ⟨w, h, []⟩ h [] w' := by
  refine calls_enter Try.func53 rfl Try.ntmps53 rfl s ?_
  by_cases h1 : a.1 < b.1
  · rw [decide_eq_true (ord_neg.2 (.inl h1))]
    repeat' (first | (refine ycf ?_; apply ybk; (· first | (exact tk_) | (apply yae; (· rfl); (· (exact sb_body0 (yaz 0 rfl) hbs)))); (· rfl); (· rfl)) | refine t1_ ?_ | (refine ta_ ?_; intro _) | ((fail_if_success (refine ybi rfl ?_)); refine ybj rfl ?_ ?_ <;> (intro ht; rw [ht]; first | replace ht := of_decide_eq_true ht | replace ht := of_decide_eq_false ht | skip)) | (refine ych ?_; first | (refine ybw rfl ?_ ?_ <;> intro ht) | (refine ybx rfl ?_ ?_ <;> intro ht)))
    exact nx_ret1 rfl (rv_tmp rfl) (fun w' s' => ⟨rfl, s'.nil⟩)
  · by_cases h2 : a.1 = b.1
    · by_cases h3 : a.2 < b.2
      · rw [decide_eq_true (ord_neg.2 (.inr ⟨h2, h3⟩))]
        repeat' (first | (refine ycf ?_; apply ybk; (· first | (exact tk_) | (apply yae; (· rfl); (· (exact sb_body0 (yaz 0 rfl) hbs)))); (· rfl); (· rfl)) | refine t1_ ?_ | (refine ta_ ?_; intro _) | ((fail_if_success (refine ybi rfl ?_)); refine ybj rfl ?_ ?_ <;> (intro ht; rw [ht]; first | replace ht := of_decide_eq_true ht | replace ht := of_decide_eq_false ht | skip)) | (refine ych ?_; first | (refine ybw rfl ?_ ?_ <;> intro ht) | (refine ybx rfl ?_ ?_ <;> intro ht)))
        exact nx_ret1 rfl (rv_tmp rfl) (fun w' s' => ⟨rfl, s'.nil⟩)
      · rw [decide_eq_false (fun q => by rw [ord_neg] at q; omega)]
        repeat' (first | (refine ycf ?_; apply ybk; (· first | (exact tk_) | (apply yae; (· rfl); (· (exact sb_body0 (yaz 0 rfl) hbs)))); (· rfl); (· rfl)) | refine t1_ ?_ | (refine ta_ ?_; intro _) | ((fail_if_success (refine ybi rfl ?_)); refine ybj rfl ?_ ?_ <;> (intro ht; rw [ht]; first | replace ht := of_decide_eq_true ht | replace ht := of_decide_eq_false ht | skip)) | (refine ych ?_; first | (refine ybw rfl ?_ ?_ <;> intro ht) | (refine ybx rfl ?_ ?_ <;> intro ht)))
        exact nx_ret1 rfl (rv_tmp rfl) (fun w' s' => ⟨rfl, s'.nil⟩)
    · rw [decide_eq_false (fun q => by rw [ord_neg] at q; omega)]
      repeat' (first | (refine ycf ?_; apply ybk; (· first | (exact tk_) | (apply yae; (· rfl); (· (exact sb_body0 (yaz 0 rfl) hbs)))); (· rfl); (· rfl)) | refine t1_ ?_ | (refine ta_ ?_; intro _) | ((fail_if_success (refine ybi rfl ?_)); refine ybj rfl ?_ ?_ <;> (intro ht; rw [ht]; first | replace ht := of_decide_eq_true ht | replace ht := of_decide_eq_false ht | skip)) | (refine ych ?_; first | (refine ybw rfl ?_ ?_ <;> intro ht) | (refine ybx rfl ?_ ?_ <;> intro ht)))
      exact nx_ret1 rfl (rv_tmp rfl) (fun w' s' => ⟨rfl, s'.nil⟩)

theorem hasA_of {x : Sb} {d : Dt} (hx : rightA x.a = true) (hd : rightB d = true) : hasA x.a d = hasC x.u x.l d := by
  have := (rightA_ok hx).2.1
  show (decide (checkC x.u x.l = 0) && rightB d && hasC x.u x.l d) = _
  rw [show checkC x.u x.l = 0 from this, hd]
  rfl
theorem rcheck_sp (v : Value) (l : List Sb) (h : View) (hs : Rs h v l) (hl : l.length ≤ 4611686018427387904) (hll : ∀ x ∈ l, x.l.length ≤ 4611686018427387904 ∧ x.b.length ≤ 4611686018427387904) (w : World) (s : St ⟨w, h, []⟩ h [] w) :
    Calls Try.prog 52 [v].toArray w fun e w' => e = .returned (.int .i64 (checkA (l.map Sb.a))) ∧ St ⟨w, h, []⟩ h [] w' := by
  obtain ⟨hs, hsv⟩ := hs
  obtain ⟨_, ad, cap, rfl, hcap, _⟩ := id hs
  refine calls_enter Try.func52 rfl Try.ntmps52 rfl s ?_
  by_cases h64 : 64 < l.length
  · have e5 : checkA (l.map Sb.a) = 5 := by unfold checkA; rw [List.length_map, if_pos h64]
    repeat' (first | (refine ycf ?_; apply ybk; (· first | (exact tk_)); (· rfl); (· rfl)) | refine t1_ ?_ | (refine ta_ ?_; intro _) | ((fail_if_success (refine ybi rfl ?_)); refine ybj rfl ?_ ?_ <;> (intro ht; rw [ht]; first | replace ht := of_decide_eq_true ht | replace ht := of_decide_eq_false ht | skip)) | (refine ych ?_; first | (refine ybw rfl ?_ ?_ <;> intro ht) | (refine ybx rfl ?_ ?_ <;> intro ht)))
    exact nx_ret1 rfl (rv_tmp rfl) (fun w' s' => ⟨by rw [e5], s'.nil⟩)
  repeat' (first | (refine ycf ?_; apply ybk; (· first | (exact tk_)); (· rfl); (· rfl)) | refine t1_ ?_ | (refine ta_ ?_; intro _) | ((fail_if_success (refine ybi rfl ?_)); refine ybj rfl ?_ ?_ <;> (intro ht; rw [ht]; first | replace ht := of_decide_eq_true ht | replace ht := of_decide_eq_false ht | skip)) | (refine ych ?_; first | (refine ybw rfl ?_ ?_ <;> intro ht) | (refine ybx rfl ?_ ?_ <;> intro ht)))
  refine cx_loop (X := Nat) (fun k => [(0, .slice ad l.length cap), (3, .int .i64 k)]) (fun _ => h) (fun _ => []) (fun k => k ≤ l.length ∧ ∀ j, j < k → badAt (l.map Sb.a) j = false) (fun k => l.length - k) 0 ⟨by omega, fun j hj => by omega⟩ ts_ (fun _ s => s) ?_
  rintro k ⟨hk, hok⟩
  by_cases hkl : k < l.length
  · obtain ⟨bs, o, rfl⟩ := hs.ad (by omega) (by omega)
    have hel : ∀ L, Cells h L ⟨bs, o + k * 20, none⟩ (sbc l[k]) := fun L => hs.elem sbc_len k hkl
    have hxv := hsv _ (List.getElem_mem hkl)
    have hlim := hll _ (List.getElem_mem hkl)
    have hbad := badAt_eq hkl
    have e1 : badAt (l.map Sb.a) k = true → checkA (l.map Sb.a) = 1 := fun hb => by
      unfold checkA
      rw [List.length_map, if_neg h64, ← List.length_map (f := Sb.a), if_pos (bad_yes (by simpa using hkl) hb)]
    have hnext : badAt (l.map Sb.a) k = false → ∀ j, j < k + 1 → badAt (l.map Sb.a) j = false := fun hb j hj => by
      by_cases e : j = k
      · subst e; exact hb
      · exact hok j (by omega)
    have R1 := rright_sp l[k] h hxv hlim.1 (by omega)
    have B1 := fun d => rbefore_sp d l[k].d h
    generalize l[k] = x0 at hel hxv hlim hbad R1 B1
    have hxl := sbc_len x0
    cases hR : rightA x0.a with
    | false =>
      rw [hR] at R1 hbad
      have := e1 (by rw [hbad]; rfl)
      repeat' (first | (refine ycf ?_; apply ybk; (· first | (first | exact tk_ | (apply yad; (· rfl); (· exact hel _); (· exact hxl)) | (apply yad; (· rfl); (· exact sb_dot (hel _)); (· rfl)))); (· rfl); (· rfl)) | refine t1_ ?_ | (refine ta_ ?_; intro _) | ((fail_if_success (refine ybi rfl ?_)); refine ybj rfl ?_ ?_ <;> (intro ht; rw [ht]; first | replace ht := of_decide_eq_true ht | replace ht := of_decide_eq_false ht | skip)) | (refine ych ?_; first | (refine ybw rfl ?_ ?_ <;> intro ht) | (refine ybx rfl ?_ ?_ <;> intro ht)))
      refine cx_region_draw' rfl (by kernel_rfl) ?_
      repeat' (refine ycf ?_;(first|(first|(apply ybm;(·(first|(first|exact tk_|(apply yad;(·rfl);(·exact hel _);(·exact hxl))|(apply yad;(·rfl);(·exact sb_dot (hel _));(·rfl)))|exact tq_));(·rfl);(·rfl);(·(exact th_)))|refine ybl rfl rfl ?_|((fail_if_success (refine ybi rfl ?_));refine ybj rfl ?_ ?_<;>(intro ht;rw [ht];first|replace ht := of_decide_eq_true ht|replace ht := of_decide_eq_false ht|skip))|(refine tb_ ?_ ?_ ?_;(·(exact to_));(·intro _;(exact to_));intro _)|(first|(refine tqs_ ?_ ?_ ?_;(·(exact to_));(·(exact to_))))|(apply ybn;(·(first|(first|exact tk_|(apply yad;(·rfl);(·exact hel _);(·exact hxl))|(apply yad;(·rfl);(·exact sb_dot (hel _));(·rfl)))|exact tq_));(·rfl);(·rfl);(·rfl);(·(exact to_))))|refine ycg ?_))
      (refine ycn (ycp Try.func69 rfl (by kernel_rfl) rfl) (R1) rfl rfl rfl ?_ ?_; (· (exact to_)))
      repeat' (refine ycf ?_;(first|(first|(apply ybm;(·(first|(first|exact tk_|(apply yad;(·rfl);(·exact hel _);(·exact hxl))|(apply yad;(·rfl);(·exact sb_dot (hel _));(·rfl)))|exact tq_));(·rfl);(·rfl);(·(exact th_)))|refine ybl rfl rfl ?_|((fail_if_success (refine ybi rfl ?_));refine ybj rfl ?_ ?_<;>(intro ht;rw [ht];first|replace ht := of_decide_eq_true ht|replace ht := of_decide_eq_false ht|skip))|(refine tb_ ?_ ?_ ?_;(·(exact to_));(·intro _;(exact to_));intro _)|(first|(refine tqs_ ?_ ?_ ?_;(·(exact to_));(·(exact to_))))|(apply ybn;(·(first|(first|exact tk_|(apply yad;(·rfl);(·exact hel _);(·exact hxl))|(apply yad;(·rfl);(·exact sb_dot (hel _));(·rfl)))|exact tq_));(·rfl);(·rfl);(·rfl);(·(exact to_))))|refine ycg ?_))
      repeat' (first | (refine ycf ?_; apply ybk; (· first | (first | exact tk_ | (apply yad; (· rfl); (· exact hel _); (· exact hxl)) | (apply yad; (· rfl); (· exact sb_dot (hel _)); (· rfl)))); (· rfl); (· rfl)) | refine t1_ ?_ | (refine ta_ ?_; intro _) | ((fail_if_success (refine ybi rfl ?_)); refine ybj rfl ?_ ?_ <;> (intro ht; rw [ht]; first | replace ht := of_decide_eq_true ht | replace ht := of_decide_eq_false ht | skip)) | (refine ych ?_; first | (refine ybw rfl ?_ ?_ <;> intro ht) | (refine ybx rfl ?_ ?_ <;> intro ht)))
      exact nx_ret1 rfl (rv_tmp rfl) (fun w' s' => ⟨by rw [this], s'.nil⟩)
    | true =>
      rw [hR] at R1 hbad
      by_cases h0 : k = 0
      · subst h0
        repeat' (first | (refine ycf ?_; apply ybk; (· first | (first | exact tk_ | (apply yad; (· rfl); (· exact hel _); (· exact hxl)) | (apply yad; (· rfl); (· exact sb_dot (hel _)); (· rfl)))); (· rfl); (· rfl)) | refine t1_ ?_ | (refine ta_ ?_; intro _) | ((fail_if_success (refine ybi rfl ?_)); refine ybj rfl ?_ ?_ <;> (intro ht; rw [ht]; first | replace ht := of_decide_eq_true ht | replace ht := of_decide_eq_false ht | skip)) | (refine ych ?_; first | (refine ybw rfl ?_ ?_ <;> intro ht) | (refine ybx rfl ?_ ?_ <;> intro ht)))
        refine cx_region_draw' rfl (by kernel_rfl) ?_
        repeat' (refine ycf ?_;(first|(first|(apply ybm;(·(first|(first|exact tk_|(apply yad;(·rfl);(·exact hel _);(·exact hxl))|(apply yad;(·rfl);(·exact sb_dot (hel _));(·rfl)))|exact tq_));(·rfl);(·rfl);(·(exact th_)))|refine ybl rfl rfl ?_|((fail_if_success (refine ybi rfl ?_));refine ybj rfl ?_ ?_<;>(intro ht;rw [ht];first|replace ht := of_decide_eq_true ht|replace ht := of_decide_eq_false ht|skip))|(refine tb_ ?_ ?_ ?_;(·(exact to_));(·intro _;(exact to_));intro _)|(first|(refine tqs_ ?_ ?_ ?_;(·(exact to_));(·(exact to_))))|(apply ybn;(·(first|(first|exact tk_|(apply yad;(·rfl);(·exact hel _);(·exact hxl))|(apply yad;(·rfl);(·exact sb_dot (hel _));(·rfl)))|exact tq_));(·rfl);(·rfl);(·rfl);(·(exact to_))))|refine ycg ?_))
        (refine ycn (ycp Try.func69 rfl (by kernel_rfl) rfl) (R1) rfl rfl rfl ?_ ?_; (· (exact to_)))
        repeat' (refine ycf ?_;(first|(first|(apply ybm;(·(first|(first|exact tk_|(apply yad;(·rfl);(·exact hel _);(·exact hxl))|(apply yad;(·rfl);(·exact sb_dot (hel _));(·rfl)))|exact tq_));(·rfl);(·rfl);(·(exact th_)))|refine ybl rfl rfl ?_|((fail_if_success (refine ybi rfl ?_));refine ybj rfl ?_ ?_<;>(intro ht;rw [ht];first|replace ht := of_decide_eq_true ht|replace ht := of_decide_eq_false ht|skip))|(refine tb_ ?_ ?_ ?_;(·(exact to_));(·intro _;(exact to_));intro _)|(first|(refine tqs_ ?_ ?_ ?_;(·(exact to_));(·(exact to_))))|(apply ybn;(·(first|(first|exact tk_|(apply yad;(·rfl);(·exact hel _);(·exact hxl))|(apply yad;(·rfl);(·exact sb_dot (hel _));(·rfl)))|exact tq_));(·rfl);(·rfl);(·rfl);(·(exact to_))))|refine ycg ?_))
        repeat' (first | (refine ycf ?_; apply ybk; (· first | (first | exact tk_ | (apply yad; (· rfl); (· exact hel _); (· exact hxl)) | (apply yad; (· rfl); (· exact sb_dot (hel _)); (· rfl)))); (· rfl); (· rfl)) | refine t1_ ?_ | (refine ta_ ?_; intro _) | ((fail_if_success (refine ybi rfl ?_)); refine ybj rfl ?_ ?_ <;> (intro ht; rw [ht]; first | replace ht := of_decide_eq_true ht | replace ht := of_decide_eq_false ht | skip)) | (refine ych ?_; first | (refine ybw rfl ?_ ?_ <;> intro ht) | (refine ybx rfl ?_ ?_ <;> intro ht)))
        exact nx_round 1 ⟨by omega, hnext (by rw [hbad]; simp)⟩ (by omega) ts_ (fun _ s => s)
      · have hel2 : ∀ L, Cells h L ⟨bs, o + (k - 1) * 20, none⟩ (sbc l[k - 1]) := fun L => hs.elem sbc_len (k - 1) (by omega)
        generalize l[k - 1] = x1 at hel2 hbad
        have hkk : ((k : Int) - 1).toNat = k - 1 := by omega
        have hel3 : ∀ L, Cells h L ⟨bs, o + ((k : Int) - 1).toNat * 20, none⟩ (sbc x1) := fun L => by rw [hkk]; exact hel2 L
        have B2 := B1 x1.d
        by_cases hb : ordD x1.d x0.d < 0
        · rw [decide_eq_true hb] at B2
          repeat' (first | (refine ycf ?_; apply ybk; (· first | (first | exact tk_ | (apply yad; (· rfl); (· exact hel _); (· exact hxl)) | (apply yad; (· rfl); (· exact sb_dot (hel _)); (· rfl)) | (apply yad; (· rfl); (· exact sb_dot (hel3 _)); (· rfl)))); (· rfl); (· rfl)) | refine t1_ ?_ | (refine ta_ ?_; intro _) | ((fail_if_success (refine ybi rfl ?_)); refine ybj rfl ?_ ?_ <;> (intro ht; rw [ht]; first | replace ht := of_decide_eq_true ht | replace ht := of_decide_eq_false ht | skip)) | (refine ych ?_; first | (refine ybw rfl ?_ ?_ <;> intro ht) | (refine ybx rfl ?_ ?_ <;> intro ht)))
          refine cx_region_draw' rfl (by kernel_rfl) ?_
          repeat' (refine ycf ?_;(first|(first|(apply ybm;(·(first|(first|exact tk_|(apply yad;(·rfl);(·exact hel _);(·exact hxl))|(apply yad;(·rfl);(·exact sb_dot (hel _));(·rfl))|(apply yad;(·rfl);(·exact sb_dot (hel3 _));(·rfl)))|exact tq_));(·rfl);(·rfl);(·(exact th_)))|refine ybl rfl rfl ?_|((fail_if_success (refine ybi rfl ?_));refine ybj rfl ?_ ?_<;>(intro ht;rw [ht];first|replace ht := of_decide_eq_true ht|replace ht := of_decide_eq_false ht|skip))|(refine tb_ ?_ ?_ ?_;(·(exact to_));(·intro _;(exact to_));intro _)|(first|(refine tqs_ ?_ ?_ ?_;(·(exact to_));(·(exact to_))))|(apply ybn;(·(first|(first|exact tk_|(apply yad;(·rfl);(·exact hel _);(·exact hxl))|(apply yad;(·rfl);(·exact sb_dot (hel _));(·rfl))|(apply yad;(·rfl);(·exact sb_dot (hel3 _));(·rfl)))|exact tq_));(·rfl);(·rfl);(·rfl);(·(exact to_))))|refine ycg ?_))
          (refine ycn (ycp Try.func69 rfl (by kernel_rfl) rfl) (R1) rfl rfl rfl ?_ ?_; (· (exact to_)))
          repeat' (refine ycf ?_;(first|(first|(apply ybm;(·(first|(first|exact tk_|(apply yad;(·rfl);(·exact hel _);(·exact hxl))|(apply yad;(·rfl);(·exact sb_dot (hel _));(·rfl))|(apply yad;(·rfl);(·exact sb_dot (hel3 _));(·rfl)))|exact tq_));(·rfl);(·rfl);(·(exact th_)))|refine ybl rfl rfl ?_|((fail_if_success (refine ybi rfl ?_));refine ybj rfl ?_ ?_<;>(intro ht;rw [ht];first|replace ht := of_decide_eq_true ht|replace ht := of_decide_eq_false ht|skip))|(refine tb_ ?_ ?_ ?_;(·(exact to_));(·intro _;(exact to_));intro _)|(first|(refine tqs_ ?_ ?_ ?_;(·(exact to_));(·(exact to_))))|(apply ybn;(·(first|(first|exact tk_|(apply yad;(·rfl);(·exact hel _);(·exact hxl))|(apply yad;(·rfl);(·exact sb_dot (hel _));(·rfl))|(apply yad;(·rfl);(·exact sb_dot (hel3 _));(·rfl)))|exact tq_));(·rfl);(·rfl);(·rfl);(·(exact to_))))|refine ycg ?_))
          (refine ycn (ycp Try.func53 rfl (by kernel_rfl) rfl) (B2) rfl rfl rfl ?_ ?_; (· (exact to_)))
          repeat' (refine ycf ?_;(first|(first|(apply ybm;(·(first|(first|exact tk_|(apply yad;(·rfl);(·exact hel _);(·exact hxl))|(apply yad;(·rfl);(·exact sb_dot (hel _));(·rfl))|(apply yad;(·rfl);(·exact sb_dot (hel3 _));(·rfl)))|exact tq_));(·rfl);(·rfl);(·(exact th_)))|refine ybl rfl rfl ?_|((fail_if_success (refine ybi rfl ?_));refine ybj rfl ?_ ?_<;>(intro ht;rw [ht];first|replace ht := of_decide_eq_true ht|replace ht := of_decide_eq_false ht|skip))|(refine tb_ ?_ ?_ ?_;(·(exact to_));(·intro _;(exact to_));intro _)|(first|(refine tqs_ ?_ ?_ ?_;(·(exact to_));(·(exact to_))))|(apply ybn;(·(first|(first|exact tk_|(apply yad;(·rfl);(·exact hel _);(·exact hxl))|(apply yad;(·rfl);(·exact sb_dot (hel _));(·rfl))|(apply yad;(·rfl);(·exact sb_dot (hel3 _));(·rfl)))|exact tq_));(·rfl);(·rfl);(·rfl);(·(exact to_))))|refine ycg ?_))
          repeat' (first | (refine ycf ?_; apply ybk; (· first | (first | exact tk_ | (apply yad; (· rfl); (· exact hel _); (· exact hxl)) | (apply yad; (· rfl); (· exact sb_dot (hel _)); (· rfl)) | (apply yad; (· rfl); (· exact sb_dot (hel3 _)); (· rfl)))); (· rfl); (· rfl)) | refine t1_ ?_ | (refine ta_ ?_; intro _) | ((fail_if_success (refine ybi rfl ?_)); refine ybj rfl ?_ ?_ <;> (intro ht; rw [ht]; first | replace ht := of_decide_eq_true ht | replace ht := of_decide_eq_false ht | skip)) | (refine ych ?_; first | (refine ybw rfl ?_ ?_ <;> intro ht) | (refine ybx rfl ?_ ?_ <;> intro ht)))
          exact nx_round (k + 1) ⟨by omega, hnext (by rw [hbad]; simp; omega)⟩ (by omega) ts_ (fun _ s => s)
        · rw [decide_eq_false hb] at B2
          have := e1 (by rw [hbad]; simp; omega)
          repeat' (first | (refine ycf ?_; apply ybk; (· first | (first | exact tk_ | (apply yad; (· rfl); (· exact hel _); (· exact hxl)) | (apply yad; (· rfl); (· exact sb_dot (hel _)); (· rfl)) | (apply yad; (· rfl); (· exact sb_dot (hel3 _)); (· rfl)))); (· rfl); (· rfl)) | refine t1_ ?_ | (refine ta_ ?_; intro _) | ((fail_if_success (refine ybi rfl ?_)); refine ybj rfl ?_ ?_ <;> (intro ht; rw [ht]; first | replace ht := of_decide_eq_true ht | replace ht := of_decide_eq_false ht | skip)) | (refine ych ?_; first | (refine ybw rfl ?_ ?_ <;> intro ht) | (refine ybx rfl ?_ ?_ <;> intro ht)))
          refine cx_region_draw' rfl (by kernel_rfl) ?_
          repeat' (refine ycf ?_;(first|(first|(apply ybm;(·(first|(first|exact tk_|(apply yad;(·rfl);(·exact hel _);(·exact hxl))|(apply yad;(·rfl);(·exact sb_dot (hel _));(·rfl))|(apply yad;(·rfl);(·exact sb_dot (hel3 _));(·rfl)))|exact tq_));(·rfl);(·rfl);(·(exact th_)))|refine ybl rfl rfl ?_|((fail_if_success (refine ybi rfl ?_));refine ybj rfl ?_ ?_<;>(intro ht;rw [ht];first|replace ht := of_decide_eq_true ht|replace ht := of_decide_eq_false ht|skip))|(refine tb_ ?_ ?_ ?_;(·(exact to_));(·intro _;(exact to_));intro _)|(first|(refine tqs_ ?_ ?_ ?_;(·(exact to_));(·(exact to_))))|(apply ybn;(·(first|(first|exact tk_|(apply yad;(·rfl);(·exact hel _);(·exact hxl))|(apply yad;(·rfl);(·exact sb_dot (hel _));(·rfl))|(apply yad;(·rfl);(·exact sb_dot (hel3 _));(·rfl)))|exact tq_));(·rfl);(·rfl);(·rfl);(·(exact to_))))|refine ycg ?_))
          (refine ycn (ycp Try.func69 rfl (by kernel_rfl) rfl) (R1) rfl rfl rfl ?_ ?_; (· (exact to_)))
          repeat' (refine ycf ?_;(first|(first|(apply ybm;(·(first|(first|exact tk_|(apply yad;(·rfl);(·exact hel _);(·exact hxl))|(apply yad;(·rfl);(·exact sb_dot (hel _));(·rfl))|(apply yad;(·rfl);(·exact sb_dot (hel3 _));(·rfl)))|exact tq_));(·rfl);(·rfl);(·(exact th_)))|refine ybl rfl rfl ?_|((fail_if_success (refine ybi rfl ?_));refine ybj rfl ?_ ?_<;>(intro ht;rw [ht];first|replace ht := of_decide_eq_true ht|replace ht := of_decide_eq_false ht|skip))|(refine tb_ ?_ ?_ ?_;(·(exact to_));(·intro _;(exact to_));intro _)|(first|(refine tqs_ ?_ ?_ ?_;(·(exact to_));(·(exact to_))))|(apply ybn;(·(first|(first|exact tk_|(apply yad;(·rfl);(·exact hel _);(·exact hxl))|(apply yad;(·rfl);(·exact sb_dot (hel _));(·rfl))|(apply yad;(·rfl);(·exact sb_dot (hel3 _));(·rfl)))|exact tq_));(·rfl);(·rfl);(·rfl);(·(exact to_))))|refine ycg ?_))
          (refine ycn (ycp Try.func53 rfl (by kernel_rfl) rfl) (B2) rfl rfl rfl ?_ ?_; (· (exact to_)))
          repeat' (refine ycf ?_;(first|(first|(apply ybm;(·(first|(first|exact tk_|(apply yad;(·rfl);(·exact hel _);(·exact hxl))|(apply yad;(·rfl);(·exact sb_dot (hel _));(·rfl))|(apply yad;(·rfl);(·exact sb_dot (hel3 _));(·rfl)))|exact tq_));(·rfl);(·rfl);(·(exact th_)))|refine ybl rfl rfl ?_|((fail_if_success (refine ybi rfl ?_));refine ybj rfl ?_ ?_<;>(intro ht;rw [ht];first|replace ht := of_decide_eq_true ht|replace ht := of_decide_eq_false ht|skip))|(refine tb_ ?_ ?_ ?_;(·(exact to_));(·intro _;(exact to_));intro _)|(first|(refine tqs_ ?_ ?_ ?_;(·(exact to_));(·(exact to_))))|(apply ybn;(·(first|(first|exact tk_|(apply yad;(·rfl);(·exact hel _);(·exact hxl))|(apply yad;(·rfl);(·exact sb_dot (hel _));(·rfl))|(apply yad;(·rfl);(·exact sb_dot (hel3 _));(·rfl)))|exact tq_));(·rfl);(·rfl);(·rfl);(·(exact to_))))|refine ycg ?_))
          repeat' (first | (refine ycf ?_; apply ybk; (· first | (first | exact tk_ | (apply yad; (· rfl); (· exact hel _); (· exact hxl)) | (apply yad; (· rfl); (· exact sb_dot (hel _)); (· rfl)) | (apply yad; (· rfl); (· exact sb_dot (hel3 _)); (· rfl)))); (· rfl); (· rfl)) | refine t1_ ?_ | (refine ta_ ?_; intro _) | ((fail_if_success (refine ybi rfl ?_)); refine ybj rfl ?_ ?_ <;> (intro ht; rw [ht]; first | replace ht := of_decide_eq_true ht | replace ht := of_decide_eq_false ht | skip)) | (refine ych ?_; first | (refine ybw rfl ?_ ?_ <;> intro ht) | (refine ybx rfl ?_ ?_ <;> intro ht)))
          exact nx_ret1 rfl (rv_tmp rfl) (fun w' s' => ⟨by rw [this], s'.nil⟩)
  · have hke : k = l.length := by omega
    subst hke
    have hno : (List.range (l.map Sb.a).length).any (badAt (l.map Sb.a)) = false := bad_no fun j hj => hok j (by simpa using hj)
    have hrt : ∀ j (hj : j < l.length), rightA l[j].a = true := fun j hj => by
      have := hok j hj
      rw [badAt_eq hj, Bool.or_eq_false_iff] at this
      simpa using this.1
    have hrb : ∀ x ∈ l, rightA x.a = true := fun x hx => by
      obtain ⟨j, hj, rfl⟩ := List.getElem_of_mem hx
      exact hrt j hj
    have e14 : ∀ x ∈ l, ∀ y ∈ l, hasA y.a x.d = true → checkA (l.map Sb.a) = 14 := fun x hx y hy hq => by
      unfold checkA
      rw [if_neg (by rw [List.length_map]; exact h64), if_neg (by rw [hno]; decide), if_pos]
      exact List.any_eq_true.2 ⟨x.a, List.mem_map_of_mem hx, List.any_eq_true.2 ⟨y.a, List.mem_map_of_mem hy, hq⟩⟩
    have e0 : (∀ x ∈ l, ∀ y ∈ l, hasA y.a x.d = false) → checkA (l.map Sb.a) = 0 := fun hq => by
      unfold checkA
      rw [if_neg (by rw [List.length_map]; exact h64), if_neg (by rw [hno]; decide), if_neg]
      intro hc
      obtain ⟨x, hx, hc⟩ := List.any_eq_true.1 hc
      obtain ⟨y, hy, hc⟩ := List.any_eq_true.1 hc
      obtain ⟨x, hx, rfl⟩ := List.mem_map.1 hx
      obtain ⟨y, hy, rfl⟩ := List.mem_map.1 hy
      have := hq x ‹_› y ‹_›
      rw [show hasA y.a x.a.1 = hasA y.a x.d from rfl, this] at hc
      cases hc
    repeat' (first | (refine ycf ?_; apply ybk; (· first | (exact tk_)); (· rfl); (· rfl)) | refine t1_ ?_ | (refine ta_ ?_; intro _) | ((fail_if_success (refine ybi rfl ?_)); refine ybj rfl ?_ ?_ <;> (intro ht; rw [ht]; first | replace ht := of_decide_eq_true ht | replace ht := of_decide_eq_false ht | skip)) | (refine ych ?_; first | (refine ybw rfl ?_ ?_ <;> intro ht) | (refine ybx rfl ?_ ?_ <;> intro ht)))
    refine cx_loop (X := Nat) (fun k => [(0, .slice ad l.length cap), (4, .int .i64 k)]) (fun _ => h) (fun _ => []) (fun i => i ≤ l.length ∧ ∀ j (hj : j < l.length), j < i → ∀ x ∈ l, hasA l[j].a x.d = false) (fun k => l.length - k) 0 ⟨by omega, fun j _ hj => by omega⟩ ts_ (fun _ s => s) ?_
    rintro i ⟨hi, hoi⟩
    by_cases hil : i < l.length
    · obtain ⟨bs, o, rfl⟩ := hs.ad (by omega) (by omega)
      have hel : ∀ L, Cells h L ⟨bs, o + i * 20, none⟩ (sbc l[i]) := fun L => hs.elem sbc_len i hil
      have hxm := List.getElem_mem hil
      have hxv := hsv _ hxm
      have hlim := hll _ hxm
      have hxr := hrt i hil
      repeat' (first | (refine ycf ?_; apply ybk; (· first | (exact tk_)); (· rfl); (· rfl)) | refine t1_ ?_ | (refine ta_ ?_; intro _) | ((fail_if_success (refine ybi rfl ?_)); refine ybj rfl ?_ ?_ <;> (intro ht; rw [ht]; first | replace ht := of_decide_eq_true ht | replace ht := of_decide_eq_false ht | skip)) | (refine ych ?_; first | (refine ybw rfl ?_ ?_ <;> intro ht) | (refine ybx rfl ?_ ?_ <;> intro ht)))
      refine cx_loop (X := Nat) (fun k => [(0, .slice (some ⟨bs, o, none⟩) l.length cap), (4, .int .i64 i), (5, .int .i64 k)]) (fun _ => h) (fun _ => []) (fun k => k ≤ l.length ∧ ∀ j (hj : j < l.length), j < k → hasA l[i].a l[j].d = false) (fun k => l.length - k) 0 ⟨by omega, fun j _ hj => by omega⟩ ts_ (fun _ s => s) ?_
      rintro k ⟨hk, hok2⟩
      by_cases hkl : k < l.length
      · have hel2 : ∀ L, Cells h L ⟨bs, o + k * 20, none⟩ (sbc l[k]) := fun L => hs.elem sbc_len k hkl
        have hym := List.getElem_mem hkl
        have hyr : rightB l[k].d = true := (rightA_ok (hrt k hkl)).1
        have hA := hasA_of hxr hyr
        have H1 := refHas_sp _ l[i].u l[i].l l[k].d h ⟨l[i].hu, _, rfl, hxv.ds⟩ (by omega) hyr
        rw [← hA] at H1
        have E14 := e14 _ hym _ hxm
        have hn2 : hasA l[i].a l[k].d = false → ∀ j (hj : j < l.length), j < k + 1 → hasA l[i].a l[j].d = false := fun hq j hj hjk => by
          by_cases e : j = k
          · subst e; exact hq
          · exact hok2 j hj (by omega)
        have hu := l[i].hu
        cases hq : hasA l[i].a l[k].d with
        | true =>
          rw [hq] at H1
          have := E14 hq
          repeat' (first | (refine ycf ?_; apply ybk; (· first | (first | exact tk_ | (apply yad; (· rfl); (· exact sb_past (hel _)); (· exact ycj hu)) | (apply yad; (· rfl); (· exact sb_dot (hel2 _)); (· rfl)))); (· rfl); (· rfl)) | refine t1_ ?_ | (refine ta_ ?_; intro _) | ((fail_if_success (refine ybi rfl ?_)); refine ybj rfl ?_ ?_ <;> (intro ht; rw [ht]; first | replace ht := of_decide_eq_true ht | replace ht := of_decide_eq_false ht | skip)) | (refine ych ?_; first | (refine ybw rfl ?_ ?_ <;> intro ht) | (refine ybx rfl ?_ ?_ <;> intro ht)))
          refine cx_region_draw' rfl (by kernel_rfl) ?_
          repeat' (refine ycf ?_;(first|(first|(apply ybm;(·(first|(first|exact tk_|(apply yad;(·rfl);(·exact sb_past (hel _));(·exact ycj hu))|(apply yad;(·rfl);(·exact sb_dot (hel2 _));(·rfl)))|exact tq_));(·rfl);(·rfl);(·(exact th_)))|refine ybl rfl rfl ?_|((fail_if_success (refine ybi rfl ?_));refine ybj rfl ?_ ?_<;>(intro ht;rw [ht];first|replace ht := of_decide_eq_true ht|replace ht := of_decide_eq_false ht|skip))|(refine tb_ ?_ ?_ ?_;(·(exact to_));(·intro _;(exact to_));intro _)|(first|(refine tqs_ ?_ ?_ ?_;(·(exact to_));(·(exact to_))))|(apply ybn;(·(first|(first|exact tk_|(apply yad;(·rfl);(·exact sb_past (hel _));(·exact ycj hu))|(apply yad;(·rfl);(·exact sb_dot (hel2 _));(·rfl)))|exact tq_));(·rfl);(·rfl);(·rfl);(·(exact to_))))|refine ycg ?_))
          (refine ycn (ycp Try.func30 rfl (by kernel_rfl) rfl) (H1) rfl rfl rfl ?_ ?_; (· (exact to_)))
          repeat' (refine ycf ?_;(first|(first|(apply ybm;(·(first|(first|exact tk_|(apply yad;(·rfl);(·exact sb_past (hel _));(·exact ycj hu))|(apply yad;(·rfl);(·exact sb_dot (hel2 _));(·rfl)))|exact tq_));(·rfl);(·rfl);(·(exact th_)))|refine ybl rfl rfl ?_|((fail_if_success (refine ybi rfl ?_));refine ybj rfl ?_ ?_<;>(intro ht;rw [ht];first|replace ht := of_decide_eq_true ht|replace ht := of_decide_eq_false ht|skip))|(refine tb_ ?_ ?_ ?_;(·(exact to_));(·intro _;(exact to_));intro _)|(first|(refine tqs_ ?_ ?_ ?_;(·(exact to_));(·(exact to_))))|(apply ybn;(·(first|(first|exact tk_|(apply yad;(·rfl);(·exact sb_past (hel _));(·exact ycj hu))|(apply yad;(·rfl);(·exact sb_dot (hel2 _));(·rfl)))|exact tq_));(·rfl);(·rfl);(·rfl);(·(exact to_))))|refine ycg ?_))
          repeat' (first | (refine ycf ?_; apply ybk; (· first | (first | exact tk_ | (apply yad; (· rfl); (· exact sb_past (hel _)); (· exact ycj hu)) | (apply yad; (· rfl); (· exact sb_dot (hel2 _)); (· rfl)))); (· rfl); (· rfl)) | refine t1_ ?_ | (refine ta_ ?_; intro _) | ((fail_if_success (refine ybi rfl ?_)); refine ybj rfl ?_ ?_ <;> (intro ht; rw [ht]; first | replace ht := of_decide_eq_true ht | replace ht := of_decide_eq_false ht | skip)) | (refine ych ?_; first | (refine ybw rfl ?_ ?_ <;> intro ht) | (refine ybx rfl ?_ ?_ <;> intro ht)))
          exact nx_ret1 rfl (rv_tmp rfl) (fun w' s' => ⟨by rw [this], s'.nil⟩)
        | false =>
          rw [hq] at H1
          repeat' (first | (refine ycf ?_; apply ybk; (· first | (first | exact tk_ | (apply yad; (· rfl); (· exact sb_past (hel _)); (· exact ycj hu)) | (apply yad; (· rfl); (· exact sb_dot (hel2 _)); (· rfl)))); (· rfl); (· rfl)) | refine t1_ ?_ | (refine ta_ ?_; intro _) | ((fail_if_success (refine ybi rfl ?_)); refine ybj rfl ?_ ?_ <;> (intro ht; rw [ht]; first | replace ht := of_decide_eq_true ht | replace ht := of_decide_eq_false ht | skip)) | (refine ych ?_; first | (refine ybw rfl ?_ ?_ <;> intro ht) | (refine ybx rfl ?_ ?_ <;> intro ht)))
          refine cx_region_draw' rfl (by kernel_rfl) ?_
          repeat' (refine ycf ?_;(first|(first|(apply ybm;(·(first|(first|exact tk_|(apply yad;(·rfl);(·exact sb_past (hel _));(·exact ycj hu))|(apply yad;(·rfl);(·exact sb_dot (hel2 _));(·rfl)))|exact tq_));(·rfl);(·rfl);(·(exact th_)))|refine ybl rfl rfl ?_|((fail_if_success (refine ybi rfl ?_));refine ybj rfl ?_ ?_<;>(intro ht;rw [ht];first|replace ht := of_decide_eq_true ht|replace ht := of_decide_eq_false ht|skip))|(refine tb_ ?_ ?_ ?_;(·(exact to_));(·intro _;(exact to_));intro _)|(first|(refine tqs_ ?_ ?_ ?_;(·(exact to_));(·(exact to_))))|(apply ybn;(·(first|(first|exact tk_|(apply yad;(·rfl);(·exact sb_past (hel _));(·exact ycj hu))|(apply yad;(·rfl);(·exact sb_dot (hel2 _));(·rfl)))|exact tq_));(·rfl);(·rfl);(·rfl);(·(exact to_))))|refine ycg ?_))
          (refine ycn (ycp Try.func30 rfl (by kernel_rfl) rfl) (H1) rfl rfl rfl ?_ ?_; (· (exact to_)))
          repeat' (refine ycf ?_;(first|(first|(apply ybm;(·(first|(first|exact tk_|(apply yad;(·rfl);(·exact sb_past (hel _));(·exact ycj hu))|(apply yad;(·rfl);(·exact sb_dot (hel2 _));(·rfl)))|exact tq_));(·rfl);(·rfl);(·(exact th_)))|refine ybl rfl rfl ?_|((fail_if_success (refine ybi rfl ?_));refine ybj rfl ?_ ?_<;>(intro ht;rw [ht];first|replace ht := of_decide_eq_true ht|replace ht := of_decide_eq_false ht|skip))|(refine tb_ ?_ ?_ ?_;(·(exact to_));(·intro _;(exact to_));intro _)|(first|(refine tqs_ ?_ ?_ ?_;(·(exact to_));(·(exact to_))))|(apply ybn;(·(first|(first|exact tk_|(apply yad;(·rfl);(·exact sb_past (hel _));(·exact ycj hu))|(apply yad;(·rfl);(·exact sb_dot (hel2 _));(·rfl)))|exact tq_));(·rfl);(·rfl);(·rfl);(·(exact to_))))|refine ycg ?_))
          repeat' (first | (refine ycf ?_; apply ybk; (· first | (first | exact tk_ | (apply yad; (· rfl); (· exact sb_past (hel _)); (· exact ycj hu)) | (apply yad; (· rfl); (· exact sb_dot (hel2 _)); (· rfl)))); (· rfl); (· rfl)) | refine t1_ ?_ | (refine ta_ ?_; intro _) | ((fail_if_success (refine ybi rfl ?_)); refine ybj rfl ?_ ?_ <;> (intro ht; rw [ht]; first | replace ht := of_decide_eq_true ht | replace ht := of_decide_eq_false ht | skip)) | (refine ych ?_; first | (refine ybw rfl ?_ ?_ <;> intro ht) | (refine ybx rfl ?_ ?_ <;> intro ht)))
          exact nx_round (k + 1) ⟨by omega, hn2 hq⟩ (by omega) ts_ (fun _ s => s)
      · --
        repeat' (first | (refine ycf ?_; apply ybk; (· first | (exact tk_)); (· rfl); (· rfl)) | refine t1_ ?_ | (refine ta_ ?_; intro _) | ((fail_if_success (refine ybi rfl ?_)); refine ybj rfl ?_ ?_ <;> (intro ht; rw [ht]; first | replace ht := of_decide_eq_true ht | replace ht := of_decide_eq_false ht | skip)) | (refine ych ?_; first | (refine ybw rfl ?_ ?_ <;> intro ht) | (refine ybx rfl ?_ ?_ <;> intro ht)))
        refine nx_round (i + 1) ⟨by omega, fun j hj hji x hx => ?_⟩ (by omega) ts_ (fun _ s => s)
        by_cases e : j = i
        · subst e
          obtain ⟨q, hq, rfl⟩ := List.getElem_of_mem hx
          exact hok2 q hq (by omega)
        · exact hoi j hj (by omega) x hx
    · have := e0 fun x hx y hy => by
        obtain ⟨q, hq, rfl⟩ := List.getElem_of_mem hy
        exact hoi q hq (by omega) x hx
      repeat' (first | (refine ycf ?_; apply ybk; (· first | (exact tk_)); (· rfl); (· rfl)) | refine t1_ ?_ | (refine ta_ ?_; intro _) | ((fail_if_success (refine ybi rfl ?_)); refine ybj rfl ?_ ?_ <;> (intro ht; rw [ht]; first | replace ht := of_decide_eq_true ht | replace ht := of_decide_eq_false ht | skip)) | (refine ych ?_; first | (refine ybw rfl ?_ ?_ <;> intro ht) | (refine ybx rfl ?_ ?_ <;> intro ht)))
      exact nx_ret1 rfl (rv_tmp rfl) (fun w' s' => ⟨by rw [this], s'.nil⟩)
end Go.Proofs.Ytkkjppeaaicgaaa
end

section
namespace Go.Proofs.Ytkkjppeaaicgaaa
open Go Go.Ck
set_option maxRecDepth 100000
set_option maxHeartbeats 4000000
set_option linter.unusedVariables false

theorem rsame_sp (va vb : Value) (a b : List Sb) (h : View) (ha : Rs h va a) (hb : Rs h vb b) (hl : a.length ≤ 4611686018427387904) (hm : b.length ≤ 4611686018427387904) (lla : ∀ x ∈ a, x.l.length ≤ 4611686018427387904) (llb : ∀ x ∈ b, x.l.length ≤ 4611686018427387904) (w : World) (s : St ⟨w, h, []⟩ h [] w) :
    Calls Try.prog 23 [va, vb].toArray w fun e w' => e = .returned (.bool (decide (a.map Sb.a = b.map Sb.a))) ∧ St ⟨w, h, []⟩ h [] w' := by
  obtain ⟨hs, hsv⟩ := ha
  obtain ⟨hs2, hsv2⟩ := hb
  obtain ⟨_, ad, cap, rfl, hcap, _⟩ := id hs
  obtain ⟨_, ad2, cap2, rfl, hcap2, _⟩ := id hs2
  refine calls_enter Try.func23 rfl Try.ntmps23 rfl s ?_
  by_cases hlm : a.length = b.length
  · repeat' (first | (refine ycf ?_; apply ybk; (· first | (exact tk_)); (· rfl); (· rfl)) | refine t1_ ?_ | (refine ta_ ?_; intro _) | ((fail_if_success (refine ybi rfl ?_)); refine ybj rfl ?_ ?_ <;> (intro ht; rw [ht]; first | replace ht := of_decide_eq_true ht | replace ht := of_decide_eq_false ht | skip)) | (refine ych ?_; first | (refine ybw rfl ?_ ?_ <;> intro ht) | (refine ybx rfl ?_ ?_ <;> intro ht)))
    refine cx_loop (X := Nat) (fun k => [(0, .slice ad a.length cap), (1, .slice ad2 b.length cap2), (5, .int .i64 k)]) (fun _ => h) (fun _ => []) (fun k => k ≤ a.length ∧ (a.take k).map Sb.a = (b.take k).map Sb.a) (fun k => a.length - k) 0 ⟨by omega, by simp⟩ ts_ (fun _ s => s) ?_
    rintro k ⟨hk, hek⟩
    by_cases hkl : k < a.length
    · have hkm : k < b.length := by omega
      obtain ⟨bs, o, rfl⟩ := hs.ad (by omega) (by omega)
      obtain ⟨bs2, o2, rfl⟩ := hs2.ad (by omega) (by omega)
      have hel : ∀ L, Cells h L ⟨bs, o + k * 20, none⟩ (sbc a[k]) := fun L => hs.elem sbc_len k hkl
      have hel2 : ∀ L, Cells h L ⟨bs2, o2 + k * 20, none⟩ (sbc b[k]) := fun L => hs2.elem sbc_len k hkm
      have hx := hsv _ (List.getElem_mem hkl)
      have hy := hsv2 _ (List.getElem_mem hkm)
      have hlx := lla _ (List.getElem_mem hkl)
      have hly := llb _ (List.getElem_mem hkm)
      have ta : a.take (k + 1) = a.take k ++ [a[k]] := List.take_succ_eq_append_getElem hkl
      have tb : b.take (k + 1) = b.take k ++ [b[k]] := List.take_succ_eq_append_getElem hkm
      have hne : a[k].a ≠ b[k].a → a.map Sb.a ≠ b.map Sb.a := fun hn e => hn (by
        have := congrArg (fun l : List Ab => l[k]?) e
        simpa [hkl, hkm] using this)
      have C1 := refSame_sp _ _ a[k].u b[k].u a[k].l b[k].l h ⟨a[k].hu, _, rfl, hx.ds⟩ ⟨b[k].hu, _, rfl, hy.ds⟩ (by omega) (by omega)
      generalize a[k] = x1 at hel ta hne hx C1
      generalize b[k] = y1 at hel2 tb hne hy C1
      have hbe := bstr_eq hx.by8 hy.by8
      have hu1 := x1.hu
      have hu2 := y1.hu
      by_cases hd : x1.d = y1.d
      · have hde : decide (x1.d = y1.d) = true := decide_eq_true hd
        by_cases hp : x1.u = y1.u ∧ x1.l = y1.l
        · rw [decide_eq_true hp.1, decide_eq_true hp.2, Bool.true_and] at C1
          by_cases hb : x1.b = y1.b
          · --
            repeat' (first|(refine ycf ?_;apply ybk;(·first|(first|exact tk_|(refine qv_neq_agg (t := true) rfl rfl (fun w => by rw [← hde];exact dot_eq _ _ w))|(apply yad;(·rfl);(·exact sb_dot (hel _));(·rfl))|(apply yad;(·rfl);(·exact sb_dot (hel2 _));(·rfl))|(apply yad;(·rfl);(·exact sb_past (hel _));(·exact ycj hu1))|(apply yad;(·rfl);(·exact sb_past (hel2 _));(·exact ycj hu2))|(apply qv_neq_str (t := false);(·rfl);(·rfl);(·rw [hbe, decide_eq_true hb];rfl)))|(apply yae;(·rfl);(·(first|exact sb_body' (hel _) hx.bs|exact sb_body' (hel2 _) hy.bs))));(·rfl);(·rfl))|refine t1_ ?_|(refine ta_ ?_;intro _)|((fail_if_success (refine ybi rfl ?_));refine ybj rfl ?_ ?_<;>(intro ht;rw [ht];first|replace ht := of_decide_eq_true ht|replace ht := of_decide_eq_false ht|skip))|(refine ych ?_;first|(refine ybw rfl ?_ ?_<;>intro ht)|(refine ybx rfl ?_ ?_<;>intro ht)))
            refine cx_region_draw' rfl (by kernel_rfl) ?_
            repeat' (refine ycf ?_;(first|(first|(apply ybm;(·(first|(first|exact tk_|(refine qv_neq_agg (t := true) rfl rfl (fun w => by rw [← hde];exact dot_eq _ _ w))|(apply yad;(·rfl);(·exact sb_dot (hel _));(·rfl))|(apply yad;(·rfl);(·exact sb_dot (hel2 _));(·rfl))|(apply yad;(·rfl);(·exact sb_past (hel _));(·exact ycj hu1))|(apply yad;(·rfl);(·exact sb_past (hel2 _));(·exact ycj hu2))|(apply qv_neq_str (t := false);(·rfl);(·rfl);(·rw [hbe, decide_eq_true hb];rfl)))|(apply yae;(·rfl);(·(first|exact sb_body' (hel _) hx.bs|exact sb_body' (hel2 _) hy.bs)))|exact tq_));(·rfl);(·rfl);(·(exact th_)))|refine ybl rfl rfl ?_|((fail_if_success (refine ybi rfl ?_));refine ybj rfl ?_ ?_<;>(intro ht;rw [ht];first|replace ht := of_decide_eq_true ht|replace ht := of_decide_eq_false ht|skip))|(refine tb_ ?_ ?_ ?_;(·(exact to_));(·intro _;(exact to_));intro _)|(first|(refine tqs_ ?_ ?_ ?_;(·(exact to_));(·(exact to_))))|(apply ybn;(·(first|(first|exact tk_|(refine qv_neq_agg (t := true) rfl rfl (fun w => by rw [← hde];exact dot_eq _ _ w))|(apply yad;(·rfl);(·exact sb_dot (hel _));(·rfl))|(apply yad;(·rfl);(·exact sb_dot (hel2 _));(·rfl))|(apply yad;(·rfl);(·exact sb_past (hel _));(·exact ycj hu1))|(apply yad;(·rfl);(·exact sb_past (hel2 _));(·exact ycj hu2))|(apply qv_neq_str (t := false);(·rfl);(·rfl);(·rw [hbe, decide_eq_true hb];rfl)))|(apply yae;(·rfl);(·(first|exact sb_body' (hel _) hx.bs|exact sb_body' (hel2 _) hy.bs)))|exact tq_));(·rfl);(·rfl);(·rfl);(·(exact to_))))|refine ycg ?_))
            (refine ycn (ycp Try.func42 rfl (by kernel_rfl) rfl) (C1) rfl rfl rfl ?_ ?_; (· (exact to_)))
            repeat' (refine ycf ?_;(first|(first|(apply ybm;(·(first|(first|exact tk_|(refine qv_neq_agg (t := true) rfl rfl (fun w => by rw [← hde];exact dot_eq _ _ w))|(apply yad;(·rfl);(·exact sb_dot (hel _));(·rfl))|(apply yad;(·rfl);(·exact sb_dot (hel2 _));(·rfl))|(apply yad;(·rfl);(·exact sb_past (hel _));(·exact ycj hu1))|(apply yad;(·rfl);(·exact sb_past (hel2 _));(·exact ycj hu2))|(apply qv_neq_str (t := false);(·rfl);(·rfl);(·rw [hbe, decide_eq_true hb];rfl)))|(apply yae;(·rfl);(·(first|exact sb_body' (hel _) hx.bs|exact sb_body' (hel2 _) hy.bs)))|exact tq_));(·rfl);(·rfl);(·(exact th_)))|refine ybl rfl rfl ?_|((fail_if_success (refine ybi rfl ?_));refine ybj rfl ?_ ?_<;>(intro ht;rw [ht];first|replace ht := of_decide_eq_true ht|replace ht := of_decide_eq_false ht|skip))|(refine tb_ ?_ ?_ ?_;(·(exact to_));(·intro _;(exact to_));intro _)|(first|(refine tqs_ ?_ ?_ ?_;(·(exact to_));(·(exact to_))))|(apply ybn;(·(first|(first|exact tk_|(refine qv_neq_agg (t := true) rfl rfl (fun w => by rw [← hde];exact dot_eq _ _ w))|(apply yad;(·rfl);(·exact sb_dot (hel _));(·rfl))|(apply yad;(·rfl);(·exact sb_dot (hel2 _));(·rfl))|(apply yad;(·rfl);(·exact sb_past (hel _));(·exact ycj hu1))|(apply yad;(·rfl);(·exact sb_past (hel2 _));(·exact ycj hu2))|(apply qv_neq_str (t := false);(·rfl);(·rfl);(·rw [hbe, decide_eq_true hb];rfl)))|(apply yae;(·rfl);(·(first|exact sb_body' (hel _) hx.bs|exact sb_body' (hel2 _) hy.bs)))|exact tq_));(·rfl);(·rfl);(·rfl);(·(exact to_))))|refine ycg ?_))
            repeat' (first|(refine ycf ?_;apply ybk;(·first|(first|exact tk_|(refine qv_neq_agg (t := true) rfl rfl (fun w => by rw [← hde];exact dot_eq _ _ w))|(apply yad;(·rfl);(·exact sb_dot (hel _));(·rfl))|(apply yad;(·rfl);(·exact sb_dot (hel2 _));(·rfl))|(apply yad;(·rfl);(·exact sb_past (hel _));(·exact ycj hu1))|(apply yad;(·rfl);(·exact sb_past (hel2 _));(·exact ycj hu2))|(apply qv_neq_str (t := false);(·rfl);(·rfl);(·rw [hbe, decide_eq_true hb];rfl)))|(apply yae;(·rfl);(·(first|exact sb_body' (hel _) hx.bs|exact sb_body' (hel2 _) hy.bs))));(·rfl);(·rfl))|refine t1_ ?_|(refine ta_ ?_;intro _)|((fail_if_success (refine ybi rfl ?_));refine ybj rfl ?_ ?_<;>(intro ht;rw [ht];first|replace ht := of_decide_eq_true ht|replace ht := of_decide_eq_false ht|skip))|(refine ych ?_;first|(refine ybw rfl ?_ ?_<;>intro ht)|(refine ybx rfl ?_ ?_<;>intro ht)))
            refine nx_round (k + 1) ⟨by omega, ?_⟩ (by omega) ts_ (fun _ s => s)
            rw [ta, tb, List.map_append, List.map_append, hek]
            congr 1
            show [x1.a] = [y1.a]
            show [(x1.d, x1.u, x1.l, x1.b)] = [(y1.d, y1.u, y1.l, y1.b)]
            rw [hd, hp.1, hp.2, hb]
          · --
            repeat' (first|(refine ycf ?_;apply ybk;(·first|(first|exact tk_|(refine qv_neq_agg (t := true) rfl rfl (fun w => by rw [← hde];exact dot_eq _ _ w))|(apply yad;(·rfl);(·exact sb_dot (hel _));(·rfl))|(apply yad;(·rfl);(·exact sb_dot (hel2 _));(·rfl))|(apply yad;(·rfl);(·exact sb_past (hel _));(·exact ycj hu1))|(apply yad;(·rfl);(·exact sb_past (hel2 _));(·exact ycj hu2))|(apply qv_neq_str (t := true);(·rfl);(·rfl);(·rw [hbe, decide_eq_false hb];rfl)))|(apply yae;(·rfl);(·(first|exact sb_body' (hel _) hx.bs|exact sb_body' (hel2 _) hy.bs))));(·rfl);(·rfl))|refine t1_ ?_|(refine ta_ ?_;intro _)|((fail_if_success (refine ybi rfl ?_));refine ybj rfl ?_ ?_<;>(intro ht;rw [ht];first|replace ht := of_decide_eq_true ht|replace ht := of_decide_eq_false ht|skip))|(refine ych ?_;first|(refine ybw rfl ?_ ?_<;>intro ht)|(refine ybx rfl ?_ ?_<;>intro ht)))
            refine cx_region_draw' rfl (by kernel_rfl) ?_
            repeat' (refine ycf ?_;(first|(first|(apply ybm;(·(first|(first|exact tk_|(refine qv_neq_agg (t := true) rfl rfl (fun w => by rw [← hde];exact dot_eq _ _ w))|(apply yad;(·rfl);(·exact sb_dot (hel _));(·rfl))|(apply yad;(·rfl);(·exact sb_dot (hel2 _));(·rfl))|(apply yad;(·rfl);(·exact sb_past (hel _));(·exact ycj hu1))|(apply yad;(·rfl);(·exact sb_past (hel2 _));(·exact ycj hu2))|(apply qv_neq_str (t := true);(·rfl);(·rfl);(·rw [hbe, decide_eq_false hb];rfl)))|(apply yae;(·rfl);(·(first|exact sb_body' (hel _) hx.bs|exact sb_body' (hel2 _) hy.bs)))|exact tq_));(·rfl);(·rfl);(·(exact th_)))|refine ybl rfl rfl ?_|((fail_if_success (refine ybi rfl ?_));refine ybj rfl ?_ ?_<;>(intro ht;rw [ht];first|replace ht := of_decide_eq_true ht|replace ht := of_decide_eq_false ht|skip))|(refine tb_ ?_ ?_ ?_;(·(exact to_));(·intro _;(exact to_));intro _)|(first|(refine tqs_ ?_ ?_ ?_;(·(exact to_));(·(exact to_))))|(apply ybn;(·(first|(first|exact tk_|(refine qv_neq_agg (t := true) rfl rfl (fun w => by rw [← hde];exact dot_eq _ _ w))|(apply yad;(·rfl);(·exact sb_dot (hel _));(·rfl))|(apply yad;(·rfl);(·exact sb_dot (hel2 _));(·rfl))|(apply yad;(·rfl);(·exact sb_past (hel _));(·exact ycj hu1))|(apply yad;(·rfl);(·exact sb_past (hel2 _));(·exact ycj hu2))|(apply qv_neq_str (t := true);(·rfl);(·rfl);(·rw [hbe, decide_eq_false hb];rfl)))|(apply yae;(·rfl);(·(first|exact sb_body' (hel _) hx.bs|exact sb_body' (hel2 _) hy.bs)))|exact tq_));(·rfl);(·rfl);(·rfl);(·(exact to_))))|refine ycg ?_))
            (refine ycn (ycp Try.func42 rfl (by kernel_rfl) rfl) (C1) rfl rfl rfl ?_ ?_; (· (exact to_)))
            repeat' (refine ycf ?_;(first|(first|(apply ybm;(·(first|(first|exact tk_|(refine qv_neq_agg (t := true) rfl rfl (fun w => by rw [← hde];exact dot_eq _ _ w))|(apply yad;(·rfl);(·exact sb_dot (hel _));(·rfl))|(apply yad;(·rfl);(·exact sb_dot (hel2 _));(·rfl))|(apply yad;(·rfl);(·exact sb_past (hel _));(·exact ycj hu1))|(apply yad;(·rfl);(·exact sb_past (hel2 _));(·exact ycj hu2))|(apply qv_neq_str (t := true);(·rfl);(·rfl);(·rw [hbe, decide_eq_false hb];rfl)))|(apply yae;(·rfl);(·(first|exact sb_body' (hel _) hx.bs|exact sb_body' (hel2 _) hy.bs)))|exact tq_));(·rfl);(·rfl);(·(exact th_)))|refine ybl rfl rfl ?_|((fail_if_success (refine ybi rfl ?_));refine ybj rfl ?_ ?_<;>(intro ht;rw [ht];first|replace ht := of_decide_eq_true ht|replace ht := of_decide_eq_false ht|skip))|(refine tb_ ?_ ?_ ?_;(·(exact to_));(·intro _;(exact to_));intro _)|(first|(refine tqs_ ?_ ?_ ?_;(·(exact to_));(·(exact to_))))|(apply ybn;(·(first|(first|exact tk_|(refine qv_neq_agg (t := true) rfl rfl (fun w => by rw [← hde];exact dot_eq _ _ w))|(apply yad;(·rfl);(·exact sb_dot (hel _));(·rfl))|(apply yad;(·rfl);(·exact sb_dot (hel2 _));(·rfl))|(apply yad;(·rfl);(·exact sb_past (hel _));(·exact ycj hu1))|(apply yad;(·rfl);(·exact sb_past (hel2 _));(·exact ycj hu2))|(apply qv_neq_str (t := true);(·rfl);(·rfl);(·rw [hbe, decide_eq_false hb];rfl)))|(apply yae;(·rfl);(·(first|exact sb_body' (hel _) hx.bs|exact sb_body' (hel2 _) hy.bs)))|exact tq_));(·rfl);(·rfl);(·rfl);(·(exact to_))))|refine ycg ?_))
            repeat' (first|(refine ycf ?_;apply ybk;(·first|(first|exact tk_|(refine qv_neq_agg (t := true) rfl rfl (fun w => by rw [← hde];exact dot_eq _ _ w))|(apply yad;(·rfl);(·exact sb_dot (hel _));(·rfl))|(apply yad;(·rfl);(·exact sb_dot (hel2 _));(·rfl))|(apply yad;(·rfl);(·exact sb_past (hel _));(·exact ycj hu1))|(apply yad;(·rfl);(·exact sb_past (hel2 _));(·exact ycj hu2))|(apply qv_neq_str (t := true);(·rfl);(·rfl);(·rw [hbe, decide_eq_false hb];rfl)))|(apply yae;(·rfl);(·(first|exact sb_body' (hel _) hx.bs|exact sb_body' (hel2 _) hy.bs))));(·rfl);(·rfl))|refine t1_ ?_|(refine ta_ ?_;intro _)|((fail_if_success (refine ybi rfl ?_));refine ybj rfl ?_ ?_<;>(intro ht;rw [ht];first|replace ht := of_decide_eq_true ht|replace ht := of_decide_eq_false ht|skip))|(refine ych ?_;first|(refine ybw rfl ?_ ?_<;>intro ht)|(refine ybx rfl ?_ ?_<;>intro ht)))
            refine nx_ret1 rfl (rv_tmp rfl) (fun w' s' => ⟨?_, s'.nil⟩)
            rw [decide_eq_false (hne fun e => hb (congrArg (·.2.2.2) e))]
        · have hpf : (decide (x1.u = y1.u) && decide (x1.l = y1.l)) = false := by
            rw [← Bool.decide_and]; exact decide_eq_false hp
          rw [hpf] at C1
          repeat' (first|(refine ycf ?_;apply ybk;(·first|(first|exact tk_|(refine qv_neq_agg (t := true) rfl rfl (fun w => by rw [← hde];exact dot_eq _ _ w))|(apply yad;(·rfl);(·exact sb_dot (hel _));(·rfl))|(apply yad;(·rfl);(·exact sb_dot (hel2 _));(·rfl))|(apply yad;(·rfl);(·exact sb_past (hel _));(·exact ycj hu1))|(apply yad;(·rfl);(·exact sb_past (hel2 _));(·exact ycj hu2)))|(apply yae;(·rfl);(·(first|exact sb_body' (hel _) hx.bs|exact sb_body' (hel2 _) hy.bs))));(·rfl);(·rfl))|refine t1_ ?_|(refine ta_ ?_;intro _)|((fail_if_success (refine ybi rfl ?_));refine ybj rfl ?_ ?_<;>(intro ht;rw [ht];first|replace ht := of_decide_eq_true ht|replace ht := of_decide_eq_false ht|skip))|(refine ych ?_;first|(refine ybw rfl ?_ ?_<;>intro ht)|(refine ybx rfl ?_ ?_<;>intro ht)))
          refine cx_region_draw' rfl (by kernel_rfl) ?_
          repeat' (refine ycf ?_;(first|(first|(apply ybm;(·(first|(first|exact tk_|(refine qv_neq_agg (t := true) rfl rfl (fun w => by rw [← hde];exact dot_eq _ _ w))|(apply yad;(·rfl);(·exact sb_dot (hel _));(·rfl))|(apply yad;(·rfl);(·exact sb_dot (hel2 _));(·rfl))|(apply yad;(·rfl);(·exact sb_past (hel _));(·exact ycj hu1))|(apply yad;(·rfl);(·exact sb_past (hel2 _));(·exact ycj hu2)))|(apply yae;(·rfl);(·(first|exact sb_body' (hel _) hx.bs|exact sb_body' (hel2 _) hy.bs)))|exact tq_));(·rfl);(·rfl);(·(exact th_)))|refine ybl rfl rfl ?_|((fail_if_success (refine ybi rfl ?_));refine ybj rfl ?_ ?_<;>(intro ht;rw [ht];first|replace ht := of_decide_eq_true ht|replace ht := of_decide_eq_false ht|skip))|(refine tb_ ?_ ?_ ?_;(·(exact to_));(·intro _;(exact to_));intro _)|(first|(refine tqs_ ?_ ?_ ?_;(·(exact to_));(·(exact to_))))|(apply ybn;(·(first|(first|exact tk_|(refine qv_neq_agg (t := true) rfl rfl (fun w => by rw [← hde];exact dot_eq _ _ w))|(apply yad;(·rfl);(·exact sb_dot (hel _));(·rfl))|(apply yad;(·rfl);(·exact sb_dot (hel2 _));(·rfl))|(apply yad;(·rfl);(·exact sb_past (hel _));(·exact ycj hu1))|(apply yad;(·rfl);(·exact sb_past (hel2 _));(·exact ycj hu2)))|(apply yae;(·rfl);(·(first|exact sb_body' (hel _) hx.bs|exact sb_body' (hel2 _) hy.bs)))|exact tq_));(·rfl);(·rfl);(·rfl);(·(exact to_))))|refine ycg ?_))
          (refine ycn (ycp Try.func42 rfl (by kernel_rfl) rfl) (C1) rfl rfl rfl ?_ ?_; (· (exact to_)))
          repeat' (refine ycf ?_;(first|(first|(apply ybm;(·(first|(first|exact tk_|(refine qv_neq_agg (t := true) rfl rfl (fun w => by rw [← hde];exact dot_eq _ _ w))|(apply yad;(·rfl);(·exact sb_dot (hel _));(·rfl))|(apply yad;(·rfl);(·exact sb_dot (hel2 _));(·rfl))|(apply yad;(·rfl);(·exact sb_past (hel _));(·exact ycj hu1))|(apply yad;(·rfl);(·exact sb_past (hel2 _));(·exact ycj hu2)))|(apply yae;(·rfl);(·(first|exact sb_body' (hel _) hx.bs|exact sb_body' (hel2 _) hy.bs)))|exact tq_));(·rfl);(·rfl);(·(exact th_)))|refine ybl rfl rfl ?_|((fail_if_success (refine ybi rfl ?_));refine ybj rfl ?_ ?_<;>(intro ht;rw [ht];first|replace ht := of_decide_eq_true ht|replace ht := of_decide_eq_false ht|skip))|(refine tb_ ?_ ?_ ?_;(·(exact to_));(·intro _;(exact to_));intro _)|(first|(refine tqs_ ?_ ?_ ?_;(·(exact to_));(·(exact to_))))|(apply ybn;(·(first|(first|exact tk_|(refine qv_neq_agg (t := true) rfl rfl (fun w => by rw [← hde];exact dot_eq _ _ w))|(apply yad;(·rfl);(·exact sb_dot (hel _));(·rfl))|(apply yad;(·rfl);(·exact sb_dot (hel2 _));(·rfl))|(apply yad;(·rfl);(·exact sb_past (hel _));(·exact ycj hu1))|(apply yad;(·rfl);(·exact sb_past (hel2 _));(·exact ycj hu2)))|(apply yae;(·rfl);(·(first|exact sb_body' (hel _) hx.bs|exact sb_body' (hel2 _) hy.bs)))|exact tq_));(·rfl);(·rfl);(·rfl);(·(exact to_))))|refine ycg ?_))
          repeat' (first|(refine ycf ?_;apply ybk;(·first|(first|exact tk_|(refine qv_neq_agg (t := true) rfl rfl (fun w => by rw [← hde];exact dot_eq _ _ w))|(apply yad;(·rfl);(·exact sb_dot (hel _));(·rfl))|(apply yad;(·rfl);(·exact sb_dot (hel2 _));(·rfl))|(apply yad;(·rfl);(·exact sb_past (hel _));(·exact ycj hu1))|(apply yad;(·rfl);(·exact sb_past (hel2 _));(·exact ycj hu2)))|(apply yae;(·rfl);(·(first|exact sb_body' (hel _) hx.bs|exact sb_body' (hel2 _) hy.bs))));(·rfl);(·rfl))|refine t1_ ?_|(refine ta_ ?_;intro _)|((fail_if_success (refine ybi rfl ?_));refine ybj rfl ?_ ?_<;>(intro ht;rw [ht];first|replace ht := of_decide_eq_true ht|replace ht := of_decide_eq_false ht|skip))|(refine ych ?_;first|(refine ybw rfl ?_ ?_<;>intro ht)|(refine ybx rfl ?_ ?_<;>intro ht)))
          refine nx_ret1 rfl (rv_tmp rfl) (fun w' s' => ⟨?_, s'.nil⟩)
          rw [decide_eq_false (hne fun e => hp ⟨congrArg (·.2.1) e, congrArg (·.2.2.1) e⟩)]
      · have hde : decide (x1.d = y1.d) = false := decide_eq_false hd
        repeat' (first|(refine ycf ?_;apply ybk;(·first|(first|exact tk_|(refine qv_neq_agg (t := false) rfl rfl (fun w => by rw [← hde];exact dot_eq _ _ w))|(apply yad;(·rfl);(·exact sb_dot (hel _));(·rfl))|(apply yad;(·rfl);(·exact sb_dot (hel2 _));(·rfl)))|(apply yae;(·rfl);(·(first|exact sb_body' (hel _) hx.bs|exact sb_body' (hel2 _) hy.bs))));(·rfl);(·rfl))|refine t1_ ?_|(refine ta_ ?_;intro _)|((fail_if_success (refine ybi rfl ?_));refine ybj rfl ?_ ?_<;>(intro ht;rw [ht];first|replace ht := of_decide_eq_true ht|replace ht := of_decide_eq_false ht|skip))|(refine ych ?_;first|(refine ybw rfl ?_ ?_<;>intro ht)|(refine ybx rfl ?_ ?_<;>intro ht)))
        refine cx_region_draw' rfl (by kernel_rfl) ?_
        repeat' (refine ycf ?_;(first|(first|(apply ybm;(·(first|(first|exact tk_|(refine qv_neq_agg (t := false) rfl rfl (fun w => by rw [← hde];exact dot_eq _ _ w))|(apply yad;(·rfl);(·exact sb_dot (hel _));(·rfl))|(apply yad;(·rfl);(·exact sb_dot (hel2 _));(·rfl)))|(apply yae;(·rfl);(·(first|exact sb_body' (hel _) hx.bs|exact sb_body' (hel2 _) hy.bs)))|exact tq_));(·rfl);(·rfl);(·(exact th_)))|refine ybl rfl rfl ?_|((fail_if_success (refine ybi rfl ?_));refine ybj rfl ?_ ?_<;>(intro ht;rw [ht];first|replace ht := of_decide_eq_true ht|replace ht := of_decide_eq_false ht|skip))|(refine tb_ ?_ ?_ ?_;(·(exact to_));(·intro _;(exact to_));intro _)|(first|(refine tqs_ ?_ ?_ ?_;(·(exact to_));(·(exact to_))))|(apply ybn;(·(first|(first|exact tk_|(refine qv_neq_agg (t := false) rfl rfl (fun w => by rw [← hde];exact dot_eq _ _ w))|(apply yad;(·rfl);(·exact sb_dot (hel _));(·rfl))|(apply yad;(·rfl);(·exact sb_dot (hel2 _));(·rfl)))|(apply yae;(·rfl);(·(first|exact sb_body' (hel _) hx.bs|exact sb_body' (hel2 _) hy.bs)))|exact tq_));(·rfl);(·rfl);(·rfl);(·(exact to_))))|refine ycg ?_))
        repeat' (first|(refine ycf ?_;apply ybk;(·first|(first|exact tk_|(refine qv_neq_agg (t := false) rfl rfl (fun w => by rw [← hde];exact dot_eq _ _ w))|(apply yad;(·rfl);(·exact sb_dot (hel _));(·rfl))|(apply yad;(·rfl);(·exact sb_dot (hel2 _));(·rfl)))|(apply yae;(·rfl);(·(first|exact sb_body' (hel _) hx.bs|exact sb_body' (hel2 _) hy.bs))));(·rfl);(·rfl))|refine t1_ ?_|(refine ta_ ?_;intro _)|((fail_if_success (refine ybi rfl ?_));refine ybj rfl ?_ ?_<;>(intro ht;rw [ht];first|replace ht := of_decide_eq_true ht|replace ht := of_decide_eq_false ht|skip))|(refine ych ?_;first|(refine ybw rfl ?_ ?_<;>intro ht)|(refine ybx rfl ?_ ?_<;>intro ht)))
        refine nx_ret1 rfl (rv_tmp rfl) (fun w' s' => ⟨?_, s'.nil⟩)
        rw [decide_eq_false (hne fun e => hd (congrArg (·.1) e))]
    · --
      repeat' (first | (refine ycf ?_; apply ybk; (· first | (exact tk_) | (apply yae; (· rfl); (· (first | exact sb_body' (hel _) hx.bs | exact sb_body' (hel2 _) hy.bs)))); (· rfl); (· rfl)) | refine t1_ ?_ | (refine ta_ ?_; intro _) | ((fail_if_success (refine ybi rfl ?_)); refine ybj rfl ?_ ?_ <;> (intro ht; rw [ht]; first | replace ht := of_decide_eq_true ht | replace ht := of_decide_eq_false ht | skip)) | (refine ych ?_; first | (refine ybw rfl ?_ ?_ <;> intro ht) | (refine ybx rfl ?_ ?_ <;> intro ht)))
      refine nx_ret1 rfl (rv_tmp rfl) (fun w' s' => ⟨?_, s'.nil⟩)
      rw [List.take_of_length_le (by omega), List.take_of_length_le (by omega)] at hek
      rw [decide_eq_true hek]
  · repeat' (first | (refine ycf ?_; apply ybk; (· first | (exact tk_) | (apply yae; (· rfl); (· (first | exact sb_body' (hel _) hx.bs | exact sb_body' (hel2 _) hy.bs)))); (· rfl); (· rfl)) | refine t1_ ?_ | (refine ta_ ?_; intro _) | ((fail_if_success (refine ybi rfl ?_)); refine ybj rfl ?_ ?_ <;> (intro ht; rw [ht]; first | replace ht := of_decide_eq_true ht | replace ht := of_decide_eq_false ht | skip)) | (refine ych ?_; first | (refine ybw rfl ?_ ?_ <;> intro ht) | (refine ybx rfl ?_ ?_ <;> intro ht)))
    refine nx_ret1 rfl (rv_tmp rfl) (fun w' s' => ⟨?_, s'.nil⟩)
    rw [decide_eq_false (map_ne_len hlm)]
end Go.Proofs.Ytkkjppeaaicgaaa
end
