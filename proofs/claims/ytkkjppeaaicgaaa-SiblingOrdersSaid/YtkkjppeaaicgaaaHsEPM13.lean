/-
  Part 13 of a proof: SbRa DotY.
  Conditions: each theorem states its own.
-/
import Derived.Test.YtkkjppeaaicgaaaHsEPM12
section
namespace Go.Proofs.Ytkkjppeaaicgaaa
open Go Go.Ck
set_option maxRecDepth 100000
set_option maxHeartbeats 4000000
set_option linter.unusedVariables false

theorem rright_sp (z : Sb) (h : View) (hx : Rv h z) (hl : z.l.length ≤ 4611686018427387904) (hbl : z.b.length ≤ 9223372036854775807) (w : World) (s : St ⟨w, h, []⟩ h [] w) :
    Calls Try.prog 69 [sbv z].toArray w fun e w' => e = .returned (.bool (rightA z.a)) ∧ St ⟨w, h, []⟩ h [] w' := by
  have hc1 : Cx h (cxv z.u z.mv) z.u z.l := ⟨z.hu, _, rfl, hx.ds⟩
  have hbs := hx.bs
  refine calls_enter Try.func69 rfl Try.ntmps69 rfl s ?_
  have ea : rightA z.a = (rightB z.d && (decide (checkC z.u z.l = 0) && (!(decide (checkC z.u z.l = 0) && rightB z.d && hasC z.u z.l z.d) && decide ((z.b.length : Int) ≤ 16384)))) := rfl
  rw [ea]
  have D1 := refDot_sp z.d h
  cases hR : rightB z.d with
  | false =>
    rw [hR] at D1
    repeat' (first | (refine ycf ?_; apply ybk; (· first | (first | (apply yad; (· rfl); (· exact sb_past (yaz 0 rfl)); (· exact ycj z.hu)) | (apply yad; (· rfl); (· exact sb_dot (yaz 0 rfl)); (· rfl)) | exact qv_len_bstr rfl) | (apply yae; (· rfl); (· (exact sb_body0 (yaz 0 rfl) hbs)))); (· rfl); (· rfl)) | refine t1_ ?_ | (refine ta_ ?_; intro _) | ((fail_if_success (refine ybi rfl ?_)); refine ybj rfl ?_ ?_ <;> (intro ht; rw [ht]; first | replace ht := of_decide_eq_true ht | replace ht := of_decide_eq_false ht | skip)) | (refine ych ?_; first | (refine ybw rfl ?_ ?_ <;> intro ht) | (refine ybx rfl ?_ ?_ <;> intro ht)))
    (refine ycn (ycp Try.func88 rfl (by kernel_rfl) rfl) (D1) rfl rfl rfl ?_ ?_; (· (exact to_)))
    repeat' (first | (refine ycf ?_; apply ybk; (· first | (first | (apply yad; (· rfl); (· exact sb_past (yaz 0 rfl)); (· exact ycj z.hu)) | (apply yad; (· rfl); (· exact sb_dot (yaz 0 rfl)); (· rfl)) | exact qv_len_bstr rfl) | (apply yae; (· rfl); (· (exact sb_body0 (yaz 0 rfl) hbs)))); (· rfl); (· rfl)) | refine t1_ ?_ | (refine ta_ ?_; intro _) | ((fail_if_success (refine ybi rfl ?_)); refine ybj rfl ?_ ?_ <;> (intro ht; rw [ht]; first | replace ht := of_decide_eq_true ht | replace ht := of_decide_eq_false ht | skip)) | (refine ych ?_; first | (refine ybw rfl ?_ ?_ <;> intro ht) | (refine ybx rfl ?_ ?_ <;> intro ht)))
    exact nx_ret1 rfl (rv_tmp rfl) (fun w' s' => ⟨by simp, s'.nil⟩)
  | true =>
    rw [hR] at D1
    have K1 := refCheck_sp _ z.u z.l h hc1 hl
    have H1 := refHas_sp _ z.u z.l z.d h hc1 hl hR
    by_cases hk : checkC z.u z.l = 0
    · rw [hk] at K1 ⊢
      rw [show decide ((0 : Int) = 0) = true from rfl, Bool.true_and]
      cases hH : hasC z.u z.l z.d with
      | true =>
        rw [hH] at H1
        repeat' (first | (refine ycf ?_; apply ybk; (· first | (first | (apply yad; (· rfl); (· exact sb_past (yaz 0 rfl)); (· exact ycj z.hu)) | (apply yad; (· rfl); (· exact sb_dot (yaz 0 rfl)); (· rfl)) | exact qv_len_bstr rfl) | (apply yae; (· rfl); (· (exact sb_body0 (yaz 0 rfl) hbs)))); (· rfl); (· rfl)) | refine t1_ ?_ | (refine ta_ ?_; intro _) | ((fail_if_success (refine ybi rfl ?_)); refine ybj rfl ?_ ?_ <;> (intro ht; rw [ht]; first | replace ht := of_decide_eq_true ht | replace ht := of_decide_eq_false ht | skip)) | (refine ych ?_; first | (refine ybw rfl ?_ ?_ <;> intro ht) | (refine ybx rfl ?_ ?_ <;> intro ht)))
        (refine ycn (ycp Try.func88 rfl (by kernel_rfl) rfl) (D1) rfl rfl rfl ?_ ?_; (· (exact to_)))
        repeat' (first | (refine ycf ?_; apply ybk; (· first | (first | (apply yad; (· rfl); (· exact sb_past (yaz 0 rfl)); (· exact ycj z.hu)) | (apply yad; (· rfl); (· exact sb_dot (yaz 0 rfl)); (· rfl)) | exact qv_len_bstr rfl) | (apply yae; (· rfl); (· (exact sb_body0 (yaz 0 rfl) hbs)))); (· rfl); (· rfl)) | refine t1_ ?_ | (refine ta_ ?_; intro _) | ((fail_if_success (refine ybi rfl ?_)); refine ybj rfl ?_ ?_ <;> (intro ht; rw [ht]; first | replace ht := of_decide_eq_true ht | replace ht := of_decide_eq_false ht | skip)) | (refine ych ?_; first | (refine ybw rfl ?_ ?_ <;> intro ht) | (refine ybx rfl ?_ ?_ <;> intro ht)))
        (refine ycn (ycp Try.func89 rfl (by kernel_rfl) rfl) (K1) rfl rfl rfl ?_ ?_; (· (exact to_)))
        repeat' (first | (refine ycf ?_; apply ybk; (· first | (first | (apply yad; (· rfl); (· exact sb_past (yaz 0 rfl)); (· exact ycj z.hu)) | (apply yad; (· rfl); (· exact sb_dot (yaz 0 rfl)); (· rfl)) | exact qv_len_bstr rfl) | (apply yae; (· rfl); (· (exact sb_body0 (yaz 0 rfl) hbs)))); (· rfl); (· rfl)) | refine t1_ ?_ | (refine ta_ ?_; intro _) | ((fail_if_success (refine ybi rfl ?_)); refine ybj rfl ?_ ?_ <;> (intro ht; rw [ht]; first | replace ht := of_decide_eq_true ht | replace ht := of_decide_eq_false ht | skip)) | (refine ych ?_; first | (refine ybw rfl ?_ ?_ <;> intro ht) | (refine ybx rfl ?_ ?_ <;> intro ht)))
        (refine ycn (ycp Try.func30 rfl (by kernel_rfl) rfl) (H1) rfl rfl rfl ?_ ?_; (· (exact to_)))
        repeat' (first | (refine ycf ?_; apply ybk; (· first | (first | (apply yad; (· rfl); (· exact sb_past (yaz 0 rfl)); (· exact ycj z.hu)) | (apply yad; (· rfl); (· exact sb_dot (yaz 0 rfl)); (· rfl)) | exact qv_len_bstr rfl) | (apply yae; (· rfl); (· (exact sb_body0 (yaz 0 rfl) hbs)))); (· rfl); (· rfl)) | refine t1_ ?_ | (refine ta_ ?_; intro _) | ((fail_if_success (refine ybi rfl ?_)); refine ybj rfl ?_ ?_ <;> (intro ht; rw [ht]; first | replace ht := of_decide_eq_true ht | replace ht := of_decide_eq_false ht | skip)) | (refine ych ?_; first | (refine ybw rfl ?_ ?_ <;> intro ht) | (refine ybx rfl ?_ ?_ <;> intro ht)))
        exact nx_ret1 rfl (rv_tmp rfl) (fun w' s' => ⟨by simp, s'.nil⟩)
      | false =>
        rw [hH] at H1
        repeat' (first | (refine ycf ?_; apply ybk; (· first | (first | (apply yad; (· rfl); (· exact sb_past (yaz 0 rfl)); (· exact ycj z.hu)) | (apply yad; (· rfl); (· exact sb_dot (yaz 0 rfl)); (· rfl)) | exact qv_len_bstr rfl) | (apply yae; (· rfl); (· (exact sb_body0 (yaz 0 rfl) hbs)))); (· rfl); (· rfl)) | refine t1_ ?_ | (refine ta_ ?_; intro _) | ((fail_if_success (refine ybi rfl ?_)); refine ybj rfl ?_ ?_ <;> (intro ht; rw [ht]; first | replace ht := of_decide_eq_true ht | replace ht := of_decide_eq_false ht | skip)) | (refine ych ?_; first | (refine ybw rfl ?_ ?_ <;> intro ht) | (refine ybx rfl ?_ ?_ <;> intro ht)))
        (refine ycn (ycp Try.func88 rfl (by kernel_rfl) rfl) (D1) rfl rfl rfl ?_ ?_; (· (exact to_)))
        repeat' (first | (refine ycf ?_; apply ybk; (· first | (first | (apply yad; (· rfl); (· exact sb_past (yaz 0 rfl)); (· exact ycj z.hu)) | (apply yad; (· rfl); (· exact sb_dot (yaz 0 rfl)); (· rfl)) | exact qv_len_bstr rfl) | (apply yae; (· rfl); (· (exact sb_body0 (yaz 0 rfl) hbs)))); (· rfl); (· rfl)) | refine t1_ ?_ | (refine ta_ ?_; intro _) | ((fail_if_success (refine ybi rfl ?_)); refine ybj rfl ?_ ?_ <;> (intro ht; rw [ht]; first | replace ht := of_decide_eq_true ht | replace ht := of_decide_eq_false ht | skip)) | (refine ych ?_; first | (refine ybw rfl ?_ ?_ <;> intro ht) | (refine ybx rfl ?_ ?_ <;> intro ht)))
        (refine ycn (ycp Try.func89 rfl (by kernel_rfl) rfl) (K1) rfl rfl rfl ?_ ?_; (· (exact to_)))
        repeat' (first | (refine ycf ?_; apply ybk; (· first | (first | (apply yad; (· rfl); (· exact sb_past (yaz 0 rfl)); (· exact ycj z.hu)) | (apply yad; (· rfl); (· exact sb_dot (yaz 0 rfl)); (· rfl)) | exact qv_len_bstr rfl) | (apply yae; (· rfl); (· (exact sb_body0 (yaz 0 rfl) hbs)))); (· rfl); (· rfl)) | refine t1_ ?_ | (refine ta_ ?_; intro _) | ((fail_if_success (refine ybi rfl ?_)); refine ybj rfl ?_ ?_ <;> (intro ht; rw [ht]; first | replace ht := of_decide_eq_true ht | replace ht := of_decide_eq_false ht | skip)) | (refine ych ?_; first | (refine ybw rfl ?_ ?_ <;> intro ht) | (refine ybx rfl ?_ ?_ <;> intro ht)))
        (refine ycn (ycp Try.func30 rfl (by kernel_rfl) rfl) (H1) rfl rfl rfl ?_ ?_; (· (exact to_)))
        repeat' (first | (refine ycf ?_; apply ybk; (· first | (first | (apply yad; (· rfl); (· exact sb_past (yaz 0 rfl)); (· exact ycj z.hu)) | (apply yad; (· rfl); (· exact sb_dot (yaz 0 rfl)); (· rfl)) | exact qv_len_bstr rfl) | (apply yae; (· rfl); (· (exact sb_body0 (yaz 0 rfl) hbs)))); (· rfl); (· rfl)) | refine t1_ ?_ | (refine ta_ ?_; intro _) | ((fail_if_success (refine ybi rfl ?_)); refine ybj rfl ?_ ?_ <;> (intro ht; rw [ht]; first | replace ht := of_decide_eq_true ht | replace ht := of_decide_eq_false ht | skip)) | (refine ych ?_; first | (refine ybw rfl ?_ ?_ <;> intro ht) | (refine ybx rfl ?_ ?_ <;> intro ht)))
        exact nx_ret1 rfl (rv_tmp rfl) (fun w' s' => ⟨by simp, s'.nil⟩)
    · generalize checkC z.u z.l = cz at hk K1 ⊢
      rw [decide_eq_false hk]
      repeat' (first | (refine ycf ?_; apply ybk; (· first | (first | (apply qv_eql_no; (· rfl); (· rfl); (· exact hk)) | (apply yad; (· rfl); (· exact sb_past (yaz 0 rfl)); (· exact ycj z.hu)) | (apply yad; (· rfl); (· exact sb_dot (yaz 0 rfl)); (· rfl))) | (apply yae; (· rfl); (· (exact sb_body0 (yaz 0 rfl) hbs)))); (· rfl); (· rfl)) | refine t1_ ?_ | (refine ta_ ?_; intro _) | ((fail_if_success (refine ybi rfl ?_)); refine ybj rfl ?_ ?_ <;> (intro ht; rw [ht]; first | replace ht := of_decide_eq_true ht | replace ht := of_decide_eq_false ht | skip)) | (refine ych ?_; first | (refine ybw rfl ?_ ?_ <;> intro ht) | (refine ybx rfl ?_ ?_ <;> intro ht)))
      (refine ycn (ycp Try.func88 rfl (by kernel_rfl) rfl) (D1) rfl rfl rfl ?_ ?_; (· (exact to_)))
      repeat' (first | (refine ycf ?_; apply ybk; (· first | (first | (apply qv_eql_no; (· rfl); (· rfl); (· exact hk)) | (apply yad; (· rfl); (· exact sb_past (yaz 0 rfl)); (· exact ycj z.hu)) | (apply yad; (· rfl); (· exact sb_dot (yaz 0 rfl)); (· rfl))) | (apply yae; (· rfl); (· (exact sb_body0 (yaz 0 rfl) hbs)))); (· rfl); (· rfl)) | refine t1_ ?_ | (refine ta_ ?_; intro _) | ((fail_if_success (refine ybi rfl ?_)); refine ybj rfl ?_ ?_ <;> (intro ht; rw [ht]; first | replace ht := of_decide_eq_true ht | replace ht := of_decide_eq_false ht | skip)) | (refine ych ?_; first | (refine ybw rfl ?_ ?_ <;> intro ht) | (refine ybx rfl ?_ ?_ <;> intro ht)))
      (refine ycn (ycp Try.func89 rfl (by kernel_rfl) rfl) (K1) rfl rfl rfl ?_ ?_; (· (exact to_)))
      repeat' (first | (refine ycf ?_; apply ybk; (· first | (first | (apply qv_eql_no; (· rfl); (· rfl); (· exact hk)) | (apply yad; (· rfl); (· exact sb_past (yaz 0 rfl)); (· exact ycj z.hu)) | (apply yad; (· rfl); (· exact sb_dot (yaz 0 rfl)); (· rfl))) | (apply yae; (· rfl); (· (exact sb_body0 (yaz 0 rfl) hbs)))); (· rfl); (· rfl)) | refine t1_ ?_ | (refine ta_ ?_; intro _) | ((fail_if_success (refine ybi rfl ?_)); refine ybj rfl ?_ ?_ <;> (intro ht; rw [ht]; first | replace ht := of_decide_eq_true ht | replace ht := of_decide_eq_false ht | skip)) | (refine ych ?_; first | (refine ybw rfl ?_ ?_ <;> intro ht) | (refine ybx rfl ?_ ?_ <;> intro ht)))
      exact nx_ret1 rfl (rv_tmp rfl) (fun w' s' => ⟨by simp, s'.nil⟩)

theorem rbefore_sp (a b : Dt) (h : View) (w : World) (s : St ⟨w, h, []⟩ h [] w) :
    Calls Try.prog 53 [dv a, dv b].toArray w fun e w' => e = .returned (.bool (decide (ordD a b < 0))) ∧ St ⟨w, h, []⟩ h [] w' := by
  refine calls_enter Try.func53 rfl Try.ntmps53 rfl s ?_
  by_cases h1 : a.1 < b.1
  · rw [decide_eq_true (ord_neg.2 (.inl h1))]
    repeat' (first | (refine ycf ?_; apply ybk; (· first | (exact tk_) | (apply yae; (· rfl); (· (exact sb_body0 (yaz 0 rfl) hbs)))); (· rfl); (· rfl)) | refine t1_ ?_ | (refine ta_ ?_; intro _) | ((fail_if_success (refine ybi rfl ?_)); refine ybj rfl ?_ ?_ <;> (intro ht; rw [ht]; first | replace ht := of_decide_eq_true ht | replace ht := of_decide_eq_false ht | skip)) | (refine ych ?_; first | (refine ybw rfl ?_ ?_ <;> intro ht) | (refine ybx rfl ?_ ?_ <;> intro ht)))
    exact nx_ret1 rfl (rv_tmp rfl) (fun w' s' => ⟨rfl, s'.nil⟩)
  · by_cases h2 : a.1 = b.1
    · by_cases h3 : a.2 < b.2
      · rw [decide_eq_true (ord_neg.2 (.inr ⟨h2, h3⟩))]
        repeat' (first | (refine ycf ?_; apply ybk; (· first | (exact tk_) | (apply yae; (· rfl); (· (exact sb_body0 (yaz 0 rfl) hbs)))); (· rfl); (· rfl)) | refine t1_ ?_ | (refine ta_ ?_; intro _) | ((fail_if_success (refine ybi rfl ?_)); refine ybj rfl ?_ ?_ <;> (intro ht; rw [ht]; first | replace ht := of_decide_eq_true ht | replace ht := of_decide_eq_false ht | skip)) | (refine ych ?_; first | (refine ybw rfl ?_ ?_ <;> intro ht) | (refine ybx rfl ?_ ?_ <;> intro ht)))
        exact nx_ret1 rfl (rv_tmp rfl) (fun w' s' => ⟨rfl, s'.nil⟩)
      · rw [decide_eq_false (fun q => by rw [ord_neg] at q; omega)]
        repeat' (first | (refine ycf ?_; apply ybk; (· first | (exact tk_) | (apply yae; (· rfl); (· (exact sb_body0 (yaz 0 rfl) hbs)))); (· rfl); (· rfl)) | refine t1_ ?_ | (refine ta_ ?_; intro _) | ((fail_if_success (refine ybi rfl ?_)); refine ybj rfl ?_ ?_ <;> (intro ht; rw [ht]; first | replace ht := of_decide_eq_true ht | replace ht := of_decide_eq_false ht | skip)) | (refine ych ?_; first | (refine ybw rfl ?_ ?_ <;> intro ht) | (refine ybx rfl ?_ ?_ <;> intro ht)))
        exact nx_ret1 rfl (rv_tmp rfl) (fun w' s' => ⟨rfl, s'.nil⟩)
    · rw [decide_eq_false (fun q => by rw [ord_neg] at q; omega)]
      repeat' (first | (refine ycf ?_; apply ybk; (· first | (exact tk_) | (apply yae; (· rfl); (· (exact sb_body0 (yaz 0 rfl) hbs)))); (· rfl); (· rfl)) | refine t1_ ?_ | (refine ta_ ?_; intro _) | ((fail_if_success (refine ybi rfl ?_)); refine ybj rfl ?_ ?_ <;> (intro ht; rw [ht]; first | replace ht := of_decide_eq_true ht | replace ht := of_decide_eq_false ht | skip)) | (refine ych ?_; first | (refine ybw rfl ?_ ?_ <;> intro ht) | (refine ybx rfl ?_ ?_ <;> intro ht)))
      exact nx_ret1 rfl (rv_tmp rfl) (fun w' s' => ⟨rfl, s'.nil⟩)

theorem hasA_of {x : Sb} {d : Dt} (hx : rightA x.a = true) (hd : rightB d = true) : hasA x.a d = hasC x.u x.l d := by
  have := (rightA_ok hx).2.1
  show (decide (checkC x.u x.l = 0) && rightB d && hasC x.u x.l d) = _
  rw [show checkC x.u x.l = 0 from this, hd]
  rfl
theorem rcheck_sp (v : Value) (l : List Sb) (h : View) (hs : Rs h v l) (hl : l.length ≤ 4611686018427387904) (hll : ∀ x ∈ l, x.l.length ≤ 4611686018427387904 ∧ x.b.length ≤ 4611686018427387904) (w : World) (s : St ⟨w, h, []⟩ h [] w) :
    Calls Try.prog 52 [v].toArray w fun e w' => e = .returned (.int .i64 (checkA (l.map Sb.a))) ∧ St ⟨w, h, []⟩ h [] w' := by
  obtain ⟨hs, hsv⟩ := hs
  obtain ⟨_, ad, cap, rfl, hcap, _⟩ := id hs
  refine calls_enter Try.func52 rfl Try.ntmps52 rfl s ?_
  by_cases h64 : 64 < l.length
  · have e5 : checkA (l.map Sb.a) = 5 := by unfold checkA; rw [List.length_map, if_pos h64]
    repeat' (first | (refine ycf ?_; apply ybk; (· first | (exact tk_)); (· rfl); (· rfl)) | refine t1_ ?_ | (refine ta_ ?_; intro _) | ((fail_if_success (refine ybi rfl ?_)); refine ybj rfl ?_ ?_ <;> (intro ht; rw [ht]; first | replace ht := of_decide_eq_true ht | replace ht := of_decide_eq_false ht | skip)) | (refine ych ?_; first | (refine ybw rfl ?_ ?_ <;> intro ht) | (refine ybx rfl ?_ ?_ <;> intro ht)))
    exact nx_ret1 rfl (rv_tmp rfl) (fun w' s' => ⟨by rw [e5], s'.nil⟩)
  repeat' (first | (refine ycf ?_; apply ybk; (· first | (exact tk_)); (· rfl); (· rfl)) | refine t1_ ?_ | (refine ta_ ?_; intro _) | ((fail_if_success (refine ybi rfl ?_)); refine ybj rfl ?_ ?_ <;> (intro ht; rw [ht]; first | replace ht := of_decide_eq_true ht | replace ht := of_decide_eq_false ht | skip)) | (refine ych ?_; first | (refine ybw rfl ?_ ?_ <;> intro ht) | (refine ybx rfl ?_ ?_ <;> intro ht)))
  refine cx_loop (X := Nat) (fun k => [(0, .slice ad l.length cap), (3, .int .i64 k)]) (fun _ => h) (fun _ => []) (fun k => k ≤ l.length ∧ ∀ j, j < k → badAt (l.map Sb.a) j = false) (fun k => l.length - k) 0 ⟨by omega, fun j hj => by omega⟩ ts_ (fun _ s => s) ?_
  rintro k ⟨hk, hok⟩
  by_cases hkl : k < l.length
  · obtain ⟨bs, o, rfl⟩ := hs.ad (by omega) (by omega)
    have hel : ∀ L, Cells h L ⟨bs, o + k * 20, none⟩ (sbc l[k]) := fun L => hs.elem sbc_len k hkl
    have hxv := hsv _ (List.getElem_mem hkl)
    have hlim := hll _ (List.getElem_mem hkl)
    have hbad := badAt_eq hkl
    have e1 : badAt (l.map Sb.a) k = true → checkA (l.map Sb.a) = 1 := fun hb => by
      unfold checkA
      rw [List.length_map, if_neg h64, ← List.length_map (f := Sb.a), if_pos (bad_yes (by simpa using hkl) hb)]
    have hnext : badAt (l.map Sb.a) k = false → ∀ j, j < k + 1 → badAt (l.map Sb.a) j = false := fun hb j hj => by
      by_cases e : j = k
      · subst e; exact hb
      · exact hok j (by omega)
    have R1 := rright_sp l[k] h hxv hlim.1 (by omega)
    have B1 := fun d => rbefore_sp d l[k].d h
    generalize l[k] = x0 at hel hxv hlim hbad R1 B1
    have hxl := sbc_len x0
    cases hR : rightA x0.a with
    | false =>
      rw [hR] at R1 hbad
      have := e1 (by rw [hbad]; rfl)
      repeat' (first | (refine ycf ?_; apply ybk; (· first | (first | exact tk_ | (apply yad; (· rfl); (· exact hel _); (· exact hxl)) | (apply yad; (· rfl); (· exact sb_dot (hel _)); (· rfl)))); (· rfl); (· rfl)) | refine t1_ ?_ | (refine ta_ ?_; intro _) | ((fail_if_success (refine ybi rfl ?_)); refine ybj rfl ?_ ?_ <;> (intro ht; rw [ht]; first | replace ht := of_decide_eq_true ht | replace ht := of_decide_eq_false ht | skip)) | (refine ych ?_; first | (refine ybw rfl ?_ ?_ <;> intro ht) | (refine ybx rfl ?_ ?_ <;> intro ht)))
      refine cx_region_draw' rfl (by kernel_rfl) ?_
      repeat' (refine ycf ?_;(first|(first|(apply ybm;(·(first|(first|exact tk_|(apply yad;(·rfl);(·exact hel _);(·exact hxl))|(apply yad;(·rfl);(·exact sb_dot (hel _));(·rfl)))|exact tq_));(·rfl);(·rfl);(·(exact th_)))|refine ybl rfl rfl ?_|((fail_if_success (refine ybi rfl ?_));refine ybj rfl ?_ ?_<;>(intro ht;rw [ht];first|replace ht := of_decide_eq_true ht|replace ht := of_decide_eq_false ht|skip))|(refine tb_ ?_ ?_ ?_;(·(exact to_));(·intro _;(exact to_));intro _)|(first|(refine tqs_ ?_ ?_ ?_;(·(exact to_));(·(exact to_))))|(apply ybn;(·(first|(first|exact tk_|(apply yad;(·rfl);(·exact hel _);(·exact hxl))|(apply yad;(·rfl);(·exact sb_dot (hel _));(·rfl)))|exact tq_));(·rfl);(·rfl);(·rfl);(·(exact to_))))|refine ycg ?_))
      (refine ycn (ycp Try.func69 rfl (by kernel_rfl) rfl) (R1) rfl rfl rfl ?_ ?_; (· (exact to_)))
      repeat' (refine ycf ?_;(first|(first|(apply ybm;(·(first|(first|exact tk_|(apply yad;(·rfl);(·exact hel _);(·exact hxl))|(apply yad;(·rfl);(·exact sb_dot (hel _));(·rfl)))|exact tq_));(·rfl);(·rfl);(·(exact th_)))|refine ybl rfl rfl ?_|((fail_if_success (refine ybi rfl ?_));refine ybj rfl ?_ ?_<;>(intro ht;rw [ht];first|replace ht := of_decide_eq_true ht|replace ht := of_decide_eq_false ht|skip))|(refine tb_ ?_ ?_ ?_;(·(exact to_));(·intro _;(exact to_));intro _)|(first|(refine tqs_ ?_ ?_ ?_;(·(exact to_));(·(exact to_))))|(apply ybn;(·(first|(first|exact tk_|(apply yad;(·rfl);(·exact hel _);(·exact hxl))|(apply yad;(·rfl);(·exact sb_dot (hel _));(·rfl)))|exact tq_));(·rfl);(·rfl);(·rfl);(·(exact to_))))|refine ycg ?_))
      repeat' (first | (refine ycf ?_; apply ybk; (· first | (first | exact tk_ | (apply yad; (· rfl); (· exact hel _); (· exact hxl)) | (apply yad; (· rfl); (· exact sb_dot (hel _)); (· rfl)))); (· rfl); (· rfl)) | refine t1_ ?_ | (refine ta_ ?_; intro _) | ((fail_if_success (refine ybi rfl ?_)); refine ybj rfl ?_ ?_ <;> (intro ht; rw [ht]; first | replace ht := of_decide_eq_true ht | replace ht := of_decide_eq_false ht | skip)) | (refine ych ?_; first | (refine ybw rfl ?_ ?_ <;> intro ht) | (refine ybx rfl ?_ ?_ <;> intro ht)))
      exact nx_ret1 rfl (rv_tmp rfl) (fun w' s' => ⟨by rw [this], s'.nil⟩)
    | true =>
      rw [hR] at R1 hbad
      by_cases h0 : k = 0
      · subst h0
        repeat' (first | (refine ycf ?_; apply ybk; (· first | (first | exact tk_ | (apply yad; (· rfl); (· exact hel _); (· exact hxl)) | (apply yad; (· rfl); (· exact sb_dot (hel _)); (· rfl)))); (· rfl); (· rfl)) | refine t1_ ?_ | (refine ta_ ?_; intro _) | ((fail_if_success (refine ybi rfl ?_)); refine ybj rfl ?_ ?_ <;> (intro ht; rw [ht]; first | replace ht := of_decide_eq_true ht | replace ht := of_decide_eq_false ht | skip)) | (refine ych ?_; first | (refine ybw rfl ?_ ?_ <;> intro ht) | (refine ybx rfl ?_ ?_ <;> intro ht)))
        refine cx_region_draw' rfl (by kernel_rfl) ?_
        repeat' (refine ycf ?_;(first|(first|(apply ybm;(·(first|(first|exact tk_|(apply yad;(·rfl);(·exact hel _);(·exact hxl))|(apply yad;(·rfl);(·exact sb_dot (hel _));(·rfl)))|exact tq_));(·rfl);(·rfl);(·(exact th_)))|refine ybl rfl rfl ?_|((fail_if_success (refine ybi rfl ?_));refine ybj rfl ?_ ?_<;>(intro ht;rw [ht];first|replace ht := of_decide_eq_true ht|replace ht := of_decide_eq_false ht|skip))|(refine tb_ ?_ ?_ ?_;(·(exact to_));(·intro _;(exact to_));intro _)|(first|(refine tqs_ ?_ ?_ ?_;(·(exact to_));(·(exact to_))))|(apply ybn;(·(first|(first|exact tk_|(apply yad;(·rfl);(·exact hel _);(·exact hxl))|(apply yad;(·rfl);(·exact sb_dot (hel _));(·rfl)))|exact tq_));(·rfl);(·rfl);(·rfl);(·(exact to_))))|refine ycg ?_))
        (refine ycn (ycp Try.func69 rfl (by kernel_rfl) rfl) (R1) rfl rfl rfl ?_ ?_; (· (exact to_)))
        repeat' (refine ycf ?_;(first|(first|(apply ybm;(·(first|(first|exact tk_|(apply yad;(·rfl);(·exact hel _);(·exact hxl))|(apply yad;(·rfl);(·exact sb_dot (hel _));(·rfl)))|exact tq_));(·rfl);(·rfl);(·(exact th_)))|refine ybl rfl rfl ?_|((fail_if_success (refine ybi rfl ?_));refine ybj rfl ?_ ?_<;>(intro ht;rw [ht];first|replace ht := of_decide_eq_true ht|replace ht := of_decide_eq_false ht|skip))|(refine tb_ ?_ ?_ ?_;(·(exact to_));(·intro _;(exact to_));intro _)|(first|(refine tqs_ ?_ ?_ ?_;(·(exact to_));(·(exact to_))))|(apply ybn;(·(first|(first|exact tk_|(apply yad;(·rfl);(·exact hel _);(·exact hxl))|(apply yad;(·rfl);(·exact sb_dot (hel _));(·rfl)))|exact tq_));(·rfl);(·rfl);(·rfl);(·(exact to_))))|refine ycg ?_))
        repeat' (first | (refine ycf ?_; apply ybk; (· first | (first | exact tk_ | (apply yad; (· rfl); (· exact hel _); (· exact hxl)) | (apply yad; (· rfl); (· exact sb_dot (hel _)); (· rfl)))); (· rfl); (· rfl)) | refine t1_ ?_ | (refine ta_ ?_; intro _) | ((fail_if_success (refine ybi rfl ?_)); refine ybj rfl ?_ ?_ <;> (intro ht; rw [ht]; first | replace ht := of_decide_eq_true ht | replace ht := of_decide_eq_false ht | skip)) | (refine ych ?_; first | (refine ybw rfl ?_ ?_ <;> intro ht) | (refine ybx rfl ?_ ?_ <;> intro ht)))
        exact nx_round 1 ⟨by omega, hnext (by rw [hbad]; simp)⟩ (by omega) ts_ (fun _ s => s)
      · have hel2 : ∀ L, Cells h L ⟨bs, o + (k - 1) * 20, none⟩ (sbc l[k - 1]) := fun L => hs.elem sbc_len (k - 1) (by omega)
        generalize l[k - 1] = x1 at hel2 hbad
        have hkk : ((k : Int) - 1).toNat = k - 1 := by omega
        have hel3 : ∀ L, Cells h L ⟨bs, o + ((k : Int) - 1).toNat * 20, none⟩ (sbc x1) := fun L => by rw [hkk]; exact hel2 L
        have B2 := B1 x1.d
        by_cases hb : ordD x1.d x0.d < 0
        · rw [decide_eq_true hb] at B2
          repeat' (first | (refine ycf ?_; apply ybk; (· first | (first | exact tk_ | (apply yad; (· rfl); (· exact hel _); (· exact hxl)) | (apply yad; (· rfl); (· exact sb_dot (hel _)); (· rfl)) | (apply yad; (· rfl); (· exact sb_dot (hel3 _)); (· rfl)))); (· rfl); (· rfl)) | refine t1_ ?_ | (refine ta_ ?_; intro _) | ((fail_if_success (refine ybi rfl ?_)); refine ybj rfl ?_ ?_ <;> (intro ht; rw [ht]; first | replace ht := of_decide_eq_true ht | replace ht := of_decide_eq_false ht | skip)) | (refine ych ?_; first | (refine ybw rfl ?_ ?_ <;> intro ht) | (refine ybx rfl ?_ ?_ <;> intro ht)))
          refine cx_region_draw' rfl (by kernel_rfl) ?_
          repeat' (refine ycf ?_;(first|(first|(apply ybm;(·(first|(first|exact tk_|(apply yad;(·rfl);(·exact hel _);(·exact hxl))|(apply yad;(·rfl);(·exact sb_dot (hel _));(·rfl))|(apply yad;(·rfl);(·exact sb_dot (hel3 _));(·rfl)))|exact tq_));(·rfl);(·rfl);(·(exact th_)))|refine ybl rfl rfl ?_|((fail_if_success (refine ybi rfl ?_));refine ybj rfl ?_ ?_<;>(intro ht;rw [ht];first|replace ht := of_decide_eq_true ht|replace ht := of_decide_eq_false ht|skip))|(refine tb_ ?_ ?_ ?_;(·(exact to_));(·intro _;(exact to_));intro _)|(first|(refine tqs_ ?_ ?_ ?_;(·(exact to_));(·(exact to_))))|(apply ybn;(·(first|(first|exact tk_|(apply yad;(·rfl);(·exact hel _);(·exact hxl))|(apply yad;(·rfl);(·exact sb_dot (hel _));(·rfl))|(apply yad;(·rfl);(·exact sb_dot (hel3 _));(·rfl)))|exact tq_));(·rfl);(·rfl);(·rfl);(·(exact to_))))|refine ycg ?_))
          (refine ycn (ycp Try.func69 rfl (by kernel_rfl) rfl) (R1) rfl rfl rfl ?_ ?_; (· (exact to_)))
          repeat' (refine ycf ?_;(first|(first|(apply ybm;(·(first|(first|exact tk_|(apply yad;(·rfl);(·exact hel _);(·exact hxl))|(apply yad;(·rfl);(·exact sb_dot (hel _));(·rfl))|(apply yad;(·rfl);(·exact sb_dot (hel3 _));(·rfl)))|exact tq_));(·rfl);(·rfl);(·(exact th_)))|refine ybl rfl rfl ?_|((fail_if_success (refine ybi rfl ?_));refine ybj rfl ?_ ?_<;>(intro ht;rw [ht];first|replace ht := of_decide_eq_true ht|replace ht := of_decide_eq_false ht|skip))|(refine tb_ ?_ ?_ ?_;(·(exact to_));(·intro _;(exact to_));intro _)|(first|(refine tqs_ ?_ ?_ ?_;(·(exact to_));(·(exact to_))))|(apply ybn;(·(first|(first|exact tk_|(apply yad;(·rfl);(·exact hel _);(·exact hxl))|(apply yad;(·rfl);(·exact sb_dot (hel _));(·rfl))|(apply yad;(·rfl);(·exact sb_dot (hel3 _));(·rfl)))|exact tq_));(·rfl);(·rfl);(·rfl);(·(exact to_))))|refine ycg ?_))
          (refine ycn (ycp Try.func53 rfl (by kernel_rfl) rfl) (B2) rfl rfl rfl ?_ ?_; (· (exact to_)))
          repeat' (refine ycf ?_;(first|(first|(apply ybm;(·(first|(first|exact tk_|(apply yad;(·rfl);(·exact hel _);(·exact hxl))|(apply yad;(·rfl);(·exact sb_dot (hel _));(·rfl))|(apply yad;(·rfl);(·exact sb_dot (hel3 _));(·rfl)))|exact tq_));(·rfl);(·rfl);(·(exact th_)))|refine ybl rfl rfl ?_|((fail_if_success (refine ybi rfl ?_));refine ybj rfl ?_ ?_<;>(intro ht;rw [ht];first|replace ht := of_decide_eq_true ht|replace ht := of_decide_eq_false ht|skip))|(refine tb_ ?_ ?_ ?_;(·(exact to_));(·intro _;(exact to_));intro _)|(first|(refine tqs_ ?_ ?_ ?_;(·(exact to_));(·(exact to_))))|(apply ybn;(·(first|(first|exact tk_|(apply yad;(·rfl);(·exact hel _);(·exact hxl))|(apply yad;(·rfl);(·exact sb_dot (hel _));(·rfl))|(apply yad;(·rfl);(·exact sb_dot (hel3 _));(·rfl)))|exact tq_));(·rfl);(·rfl);(·rfl);(·(exact to_))))|refine ycg ?_))
          repeat' (first | (refine ycf ?_; apply ybk; (· first | (first | exact tk_ | (apply yad; (· rfl); (· exact hel _); (· exact hxl)) | (apply yad; (· rfl); (· exact sb_dot (hel _)); (· rfl)) | (apply yad; (· rfl); (· exact sb_dot (hel3 _)); (· rfl)))); (· rfl); (· rfl)) | refine t1_ ?_ | (refine ta_ ?_; intro _) | ((fail_if_success (refine ybi rfl ?_)); refine ybj rfl ?_ ?_ <;> (intro ht; rw [ht]; first | replace ht := of_decide_eq_true ht | replace ht := of_decide_eq_false ht | skip)) | (refine ych ?_; first | (refine ybw rfl ?_ ?_ <;> intro ht) | (refine ybx rfl ?_ ?_ <;> intro ht)))
          exact nx_round (k + 1) ⟨by omega, hnext (by rw [hbad]; simp; omega)⟩ (by omega) ts_ (fun _ s => s)
        · rw [decide_eq_false hb] at B2
          have := e1 (by rw [hbad]; simp; omega)
          repeat' (first | (refine ycf ?_; apply ybk; (· first | (first | exact tk_ | (apply yad; (· rfl); (· exact hel _); (· exact hxl)) | (apply yad; (· rfl); (· exact sb_dot (hel _)); (· rfl)) | (apply yad; (· rfl); (· exact sb_dot (hel3 _)); (· rfl)))); (· rfl); (· rfl)) | refine t1_ ?_ | (refine ta_ ?_; intro _) | ((fail_if_success (refine ybi rfl ?_)); refine ybj rfl ?_ ?_ <;> (intro ht; rw [ht]; first | replace ht := of_decide_eq_true ht | replace ht := of_decide_eq_false ht | skip)) | (refine ych ?_; first | (refine ybw rfl ?_ ?_ <;> intro ht) | (refine ybx rfl ?_ ?_ <;> intro ht)))
          refine cx_region_draw' rfl (by kernel_rfl) ?_
          repeat' (refine ycf ?_;(first|(first|(apply ybm;(·(first|(first|exact tk_|(apply yad;(·rfl);(·exact hel _);(·exact hxl))|(apply yad;(·rfl);(·exact sb_dot (hel _));(·rfl))|(apply yad;(·rfl);(·exact sb_dot (hel3 _));(·rfl)))|exact tq_));(·rfl);(·rfl);(·(exact th_)))|refine ybl rfl rfl ?_|((fail_if_success (refine ybi rfl ?_));refine ybj rfl ?_ ?_<;>(intro ht;rw [ht];first|replace ht := of_decide_eq_true ht|replace ht := of_decide_eq_false ht|skip))|(refine tb_ ?_ ?_ ?_;(·(exact to_));(·intro _;(exact to_));intro _)|(first|(refine tqs_ ?_ ?_ ?_;(·(exact to_));(·(exact to_))))|(apply ybn;(·(first|(first|exact tk_|(apply yad;(·rfl);(·exact hel _);(·exact hxl))|(apply yad;(·rfl);(·exact sb_dot (hel _));(·rfl))|(apply yad;(·rfl);(·exact sb_dot (hel3 _));(·rfl)))|exact tq_));(·rfl);(·rfl);(·rfl);(·(exact to_))))|refine ycg ?_))
          (refine ycn (ycp Try.func69 rfl (by kernel_rfl) rfl) (R1) rfl rfl rfl ?_ ?_; (· (exact to_)))
          repeat' (refine ycf ?_;(first|(first|(apply ybm;(·(first|(first|exact tk_|(apply yad;(·rfl);(·exact hel _);(·exact hxl))|(apply yad;(·rfl);(·exact sb_dot (hel _));(·rfl))|(apply yad;(·rfl);(·exact sb_dot (hel3 _));(·rfl)))|exact tq_));(·rfl);(·rfl);(·(exact th_)))|refine ybl rfl rfl ?_|((fail_if_success (refine ybi rfl ?_));refine ybj rfl ?_ ?_<;>(intro ht;rw [ht];first|replace ht := of_decide_eq_true ht|replace ht := of_decide_eq_false ht|skip))|(refine tb_ ?_ ?_ ?_;(·(exact to_));(·intro _;(exact to_));intro _)|(first|(refine tqs_ ?_ ?_ ?_;(·(exact to_));(·(exact to_))))|(apply ybn;(·(first|(first|exact tk_|(apply yad;(·rfl);(·exact hel _);(·exact hxl))|(apply yad;(·rfl);(·exact sb_dot (hel _));(·rfl))|(apply yad;(·rfl);(·exact sb_dot (hel3 _));(·rfl)))|exact tq_));(·rfl);(·rfl);(·rfl);(·(exact to_))))|refine ycg ?_))
          (refine ycn (ycp Try.func53 rfl (by kernel_rfl) rfl) (B2) rfl rfl rfl ?_ ?_; (· (exact to_)))
          repeat' (refine ycf ?_;(first|(first|(apply ybm;(·(first|(first|exact tk_|(apply yad;(·rfl);(·exact hel _);(·exact hxl))|(apply yad;(·rfl);(·exact sb_dot (hel _));(·rfl))|(apply yad;(·rfl);(·exact sb_dot (hel3 _));(·rfl)))|exact tq_));(·rfl);(·rfl);(·(exact th_)))|refine ybl rfl rfl ?_|((fail_if_success (refine ybi rfl ?_));refine ybj rfl ?_ ?_<;>(intro ht;rw [ht];first|replace ht := of_decide_eq_true ht|replace ht := of_decide_eq_false ht|skip))|(refine tb_ ?_ ?_ ?_;(·(exact to_));(·intro _;(exact to_));intro _)|(first|(refine tqs_ ?_ ?_ ?_;(·(exact to_));(·(exact to_))))|(apply ybn;(·(first|(first|exact tk_|(apply yad;(·rfl);(·exact hel _);(·exact hxl))|(apply yad;(·rfl);(·exact sb_dot (hel _));(·rfl))|(apply yad;(·rfl);(·exact sb_dot (hel3 _));(·rfl)))|exact tq_));(·rfl);(·rfl);(·rfl);(·(exact to_))))|refine ycg ?_))
          repeat' (first | (refine ycf ?_; apply ybk; (· first | (first | exact tk_ | (apply yad; (· rfl); (· exact hel _); (· exact hxl)) | (apply yad; (· rfl); (· exact sb_dot (hel _)); (· rfl)) | (apply yad; (· rfl); (· exact sb_dot (hel3 _)); (· rfl)))); (· rfl); (· rfl)) | refine t1_ ?_ | (refine ta_ ?_; intro _) | ((fail_if_success (refine ybi rfl ?_)); refine ybj rfl ?_ ?_ <;> (intro ht; rw [ht]; first | replace ht := of_decide_eq_true ht | replace ht := of_decide_eq_false ht | skip)) | (refine ych ?_; first | (refine ybw rfl ?_ ?_ <;> intro ht) | (refine ybx rfl ?_ ?_ <;> intro ht)))
          exact nx_ret1 rfl (rv_tmp rfl) (fun w' s' => ⟨by rw [this], s'.nil⟩)
  · have hke : k = l.length := by omega
    subst hke
    have hno : (List.range (l.map Sb.a).length).any (badAt (l.map Sb.a)) = false := bad_no fun j hj => hok j (by simpa using hj)
    have hrt : ∀ j (hj : j < l.length), rightA l[j].a = true := fun j hj => by
      have := hok j hj
      rw [badAt_eq hj, Bool.or_eq_false_iff] at this
      simpa using this.1
    have hrb : ∀ x ∈ l, rightA x.a = true := fun x hx => by
      obtain ⟨j, hj, rfl⟩ := List.getElem_of_mem hx
      exact hrt j hj
    have e14 : ∀ x ∈ l, ∀ y ∈ l, hasA y.a x.d = true → checkA (l.map Sb.a) = 14 := fun x hx y hy hq => by
      unfold checkA
      rw [if_neg (by rw [List.length_map]; exact h64), if_neg (by rw [hno]; decide), if_pos]
      exact List.any_eq_true.2 ⟨x.a, List.mem_map_of_mem hx, List.any_eq_true.2 ⟨y.a, List.mem_map_of_mem hy, hq⟩⟩
    have e0 : (∀ x ∈ l, ∀ y ∈ l, hasA y.a x.d = false) → checkA (l.map Sb.a) = 0 := fun hq => by
      unfold checkA
      rw [if_neg (by rw [List.length_map]; exact h64), if_neg (by rw [hno]; decide), if_neg]
      intro hc
      obtain ⟨x, hx, hc⟩ := List.any_eq_true.1 hc
      obtain ⟨y, hy, hc⟩ := List.any_eq_true.1 hc
      obtain ⟨x, hx, rfl⟩ := List.mem_map.1 hx
      obtain ⟨y, hy, rfl⟩ := List.mem_map.1 hy
      have := hq x ‹_› y ‹_›
      rw [show hasA y.a x.a.1 = hasA y.a x.d from rfl, this] at hc
      cases hc
    repeat' (first | (refine ycf ?_; apply ybk; (· first | (exact tk_)); (· rfl); (· rfl)) | refine t1_ ?_ | (refine ta_ ?_; intro _) | ((fail_if_success (refine ybi rfl ?_)); refine ybj rfl ?_ ?_ <;> (intro ht; rw [ht]; first | replace ht := of_decide_eq_true ht | replace ht := of_decide_eq_false ht | skip)) | (refine ych ?_; first | (refine ybw rfl ?_ ?_ <;> intro ht) | (refine ybx rfl ?_ ?_ <;> intro ht)))
    refine cx_loop (X := Nat) (fun k => [(0, .slice ad l.length cap), (4, .int .i64 k)]) (fun _ => h) (fun _ => []) (fun i => i ≤ l.length ∧ ∀ j (hj : j < l.length), j < i → ∀ x ∈ l, hasA l[j].a x.d = false) (fun k => l.length - k) 0 ⟨by omega, fun j _ hj => by omega⟩ ts_ (fun _ s => s) ?_
    rintro i ⟨hi, hoi⟩
    by_cases hil : i < l.length
    · obtain ⟨bs, o, rfl⟩ := hs.ad (by omega) (by omega)
      have hel : ∀ L, Cells h L ⟨bs, o + i * 20, none⟩ (sbc l[i]) := fun L => hs.elem sbc_len i hil
      have hxm := List.getElem_mem hil
      have hxv := hsv _ hxm
      have hlim := hll _ hxm
      have hxr := hrt i hil
      repeat' (first | (refine ycf ?_; apply ybk; (· first | (exact tk_)); (· rfl); (· rfl)) | refine t1_ ?_ | (refine ta_ ?_; intro _) | ((fail_if_success (refine ybi rfl ?_)); refine ybj rfl ?_ ?_ <;> (intro ht; rw [ht]; first | replace ht := of_decide_eq_true ht | replace ht := of_decide_eq_false ht | skip)) | (refine ych ?_; first | (refine ybw rfl ?_ ?_ <;> intro ht) | (refine ybx rfl ?_ ?_ <;> intro ht)))
      refine cx_loop (X := Nat) (fun k => [(0, .slice (some ⟨bs, o, none⟩) l.length cap), (4, .int .i64 i), (5, .int .i64 k)]) (fun _ => h) (fun _ => []) (fun k => k ≤ l.length ∧ ∀ j (hj : j < l.length), j < k → hasA l[i].a l[j].d = false) (fun k => l.length - k) 0 ⟨by omega, fun j _ hj => by omega⟩ ts_ (fun _ s => s) ?_
      rintro k ⟨hk, hok2⟩
      by_cases hkl : k < l.length
      · have hel2 : ∀ L, Cells h L ⟨bs, o + k * 20, none⟩ (sbc l[k]) := fun L => hs.elem sbc_len k hkl
        have hym := List.getElem_mem hkl
        have hyr : rightB l[k].d = true := (rightA_ok (hrt k hkl)).1
        have hA := hasA_of hxr hyr
        have H1 := refHas_sp _ l[i].u l[i].l l[k].d h ⟨l[i].hu, _, rfl, hxv.ds⟩ (by omega) hyr
        rw [← hA] at H1
        have E14 := e14 _ hym _ hxm
        have hn2 : hasA l[i].a l[k].d = false → ∀ j (hj : j < l.length), j < k + 1 → hasA l[i].a l[j].d = false := fun hq j hj hjk => by
          by_cases e : j = k
          · subst e; exact hq
          · exact hok2 j hj (by omega)
        have hu := l[i].hu
        cases hq : hasA l[i].a l[k].d with
        | true =>
          rw [hq] at H1
          have := E14 hq
          repeat' (first | (refine ycf ?_; apply ybk; (· first | (first | exact tk_ | (apply yad; (· rfl); (· exact sb_past (hel _)); (· exact ycj hu)) | (apply yad; (· rfl); (· exact sb_dot (hel2 _)); (· rfl)))); (· rfl); (· rfl)) | refine t1_ ?_ | (refine ta_ ?_; intro _) | ((fail_if_success (refine ybi rfl ?_)); refine ybj rfl ?_ ?_ <;> (intro ht; rw [ht]; first | replace ht := of_decide_eq_true ht | replace ht := of_decide_eq_false ht | skip)) | (refine ych ?_; first | (refine ybw rfl ?_ ?_ <;> intro ht) | (refine ybx rfl ?_ ?_ <;> intro ht)))
          refine cx_region_draw' rfl (by kernel_rfl) ?_
          repeat' (refine ycf ?_;(first|(first|(apply ybm;(·(first|(first|exact tk_|(apply yad;(·rfl);(·exact sb_past (hel _));(·exact ycj hu))|(apply yad;(·rfl);(·exact sb_dot (hel2 _));(·rfl)))|exact tq_));(·rfl);(·rfl);(·(exact th_)))|refine ybl rfl rfl ?_|((fail_if_success (refine ybi rfl ?_));refine ybj rfl ?_ ?_<;>(intro ht;rw [ht];first|replace ht := of_decide_eq_true ht|replace ht := of_decide_eq_false ht|skip))|(refine tb_ ?_ ?_ ?_;(·(exact to_));(·intro _;(exact to_));intro _)|(first|(refine tqs_ ?_ ?_ ?_;(·(exact to_));(·(exact to_))))|(apply ybn;(·(first|(first|exact tk_|(apply yad;(·rfl);(·exact sb_past (hel _));(·exact ycj hu))|(apply yad;(·rfl);(·exact sb_dot (hel2 _));(·rfl)))|exact tq_));(·rfl);(·rfl);(·rfl);(·(exact to_))))|refine ycg ?_))
          (refine ycn (ycp Try.func30 rfl (by kernel_rfl) rfl) (H1) rfl rfl rfl ?_ ?_; (· (exact to_)))
          repeat' (refine ycf ?_;(first|(first|(apply ybm;(·(first|(first|exact tk_|(apply yad;(·rfl);(·exact sb_past (hel _));(·exact ycj hu))|(apply yad;(·rfl);(·exact sb_dot (hel2 _));(·rfl)))|exact tq_));(·rfl);(·rfl);(·(exact th_)))|refine ybl rfl rfl ?_|((fail_if_success (refine ybi rfl ?_));refine ybj rfl ?_ ?_<;>(intro ht;rw [ht];first|replace ht := of_decide_eq_true ht|replace ht := of_decide_eq_false ht|skip))|(refine tb_ ?_ ?_ ?_;(·(exact to_));(·intro _;(exact to_));intro _)|(first|(refine tqs_ ?_ ?_ ?_;(·(exact to_));(·(exact to_))))|(apply ybn;(·(first|(first|exact tk_|(apply yad;(·rfl);(·exact sb_past (hel _));(·exact ycj hu))|(apply yad;(·rfl);(·exact sb_dot (hel2 _));(·rfl)))|exact tq_));(·rfl);(·rfl);(·rfl);(·(exact to_))))|refine ycg ?_))
          repeat' (first | (refine ycf ?_; apply ybk; (· first | (first | exact tk_ | (apply yad; (· rfl); (· exact sb_past (hel _)); (· exact ycj hu)) | (apply yad; (· rfl); (· exact sb_dot (hel2 _)); (· rfl)))); (· rfl); (· rfl)) | refine t1_ ?_ | (refine ta_ ?_; intro _) | ((fail_if_success (refine ybi rfl ?_)); refine ybj rfl ?_ ?_ <;> (intro ht; rw [ht]; first | replace ht := of_decide_eq_true ht | replace ht := of_decide_eq_false ht | skip)) | (refine ych ?_; first | (refine ybw rfl ?_ ?_ <;> intro ht) | (refine ybx rfl ?_ ?_ <;> intro ht)))
          exact nx_ret1 rfl (rv_tmp rfl) (fun w' s' => ⟨by rw [this], s'.nil⟩)
        | false =>
          rw [hq] at H1
          repeat' (first | (refine ycf ?_; apply ybk; (· first | (first | exact tk_ | (apply yad; (· rfl); (· exact sb_past (hel _)); (· exact ycj hu)) | (apply yad; (· rfl); (· exact sb_dot (hel2 _)); (· rfl)))); (· rfl); (· rfl)) | refine t1_ ?_ | (refine ta_ ?_; intro _) | ((fail_if_success (refine ybi rfl ?_)); refine ybj rfl ?_ ?_ <;> (intro ht; rw [ht]; first | replace ht := of_decide_eq_true ht | replace ht := of_decide_eq_false ht | skip)) | (refine ych ?_; first | (refine ybw rfl ?_ ?_ <;> intro ht) | (refine ybx rfl ?_ ?_ <;> intro ht)))
          refine cx_region_draw' rfl (by kernel_rfl) ?_
          repeat' (refine ycf ?_;(first|(first|(apply ybm;(·(first|(first|exact tk_|(apply yad;(·rfl);(·exact sb_past (hel _));(·exact ycj hu))|(apply yad;(·rfl);(·exact sb_dot (hel2 _));(·rfl)))|exact tq_));(·rfl);(·rfl);(·(exact th_)))|refine ybl rfl rfl ?_|((fail_if_success (refine ybi rfl ?_));refine ybj rfl ?_ ?_<;>(intro ht;rw [ht];first|replace ht := of_decide_eq_true ht|replace ht := of_decide_eq_false ht|skip))|(refine tb_ ?_ ?_ ?_;(·(exact to_));(·intro _;(exact to_));intro _)|(first|(refine tqs_ ?_ ?_ ?_;(·(exact to_));(·(exact to_))))|(apply ybn;(·(first|(first|exact tk_|(apply yad;(·rfl);(·exact sb_past (hel _));(·exact ycj hu))|(apply yad;(·rfl);(·exact sb_dot (hel2 _));(·rfl)))|exact tq_));(·rfl);(·rfl);(·rfl);(·(exact to_))))|refine ycg ?_))
          (refine ycn (ycp Try.func30 rfl (by kernel_rfl) rfl) (H1) rfl rfl rfl ?_ ?_; (· (exact to_)))
          repeat' (refine ycf ?_;(first|(first|(apply ybm;(·(first|(first|exact tk_|(apply yad;(·rfl);(·exact sb_past (hel _));(·exact ycj hu))|(apply yad;(·rfl);(·exact sb_dot (hel2 _));(·rfl)))|exact tq_));(·rfl);(·rfl);(·(exact th_)))|refine ybl rfl rfl ?_|((fail_if_success (refine ybi rfl ?_));refine ybj rfl ?_ ?_<;>(intro ht;rw [ht];first|replace ht := of_decide_eq_true ht|replace ht := of_decide_eq_false ht|skip))|(refine tb_ ?_ ?_ ?_;(·(exact to_));(·intro _;(exact to_));intro _)|(first|(refine tqs_ ?_ ?_ ?_;(·(exact to_));(·(exact to_))))|(apply ybn;(·(first|(first|exact tk_|(apply yad;(·rfl);(·exact sb_past (hel _));(·exact ycj hu))|(apply yad;(·rfl);(·exact sb_dot (hel2 _));(·rfl)))|exact tq_));(·rfl);(·rfl);(·rfl);(·(exact to_))))|refine ycg ?_))
          repeat' (first | (refine ycf ?_; apply ybk; (· first | (first | exact tk_ | (apply yad; (· rfl); (· exact sb_past (hel _)); (· exact ycj hu)) | (apply yad; (· rfl); (· exact sb_dot (hel2 _)); (· rfl)))); (· rfl); (· rfl)) | refine t1_ ?_ | (refine ta_ ?_; intro _) | ((fail_if_success (refine ybi rfl ?_)); refine ybj rfl ?_ ?_ <;> (intro ht; rw [ht]; first | replace ht := of_decide_eq_true ht | replace ht := of_decide_eq_false ht | skip)) | (refine ych ?_; first | (refine ybw rfl ?_ ?_ <;> intro ht) | (refine ybx rfl ?_ ?_ <;> intro ht)))
          exact nx_round (k + 1) ⟨by omega, hn2 hq⟩ (by omega) ts_ (fun _ s => s)
      · --
        repeat' (first | (refine ycf ?_; apply ybk; (· first | (exact tk_)); (· rfl); (· rfl)) | refine t1_ ?_ | (refine ta_ ?_; intro _) | ((fail_if_success (refine ybi rfl ?_)); refine ybj rfl ?_ ?_ <;> (intro ht; rw [ht]; first | replace ht := of_decide_eq_true ht | replace ht := of_decide_eq_false ht | skip)) | (refine ych ?_; first | (refine ybw rfl ?_ ?_ <;> intro ht) | (refine ybx rfl ?_ ?_ <;> intro ht)))
        refine nx_round (i + 1) ⟨by omega, fun j hj hji x hx => ?_⟩ (by omega) ts_ (fun _ s => s)
        by_cases e : j = i
        · subst e
          obtain ⟨q, hq, rfl⟩ := List.getElem_of_mem hx
          exact hok2 q hq (by omega)
        · exact hoi j hj (by omega) x hx
    · have := e0 fun x hx y hy => by
        obtain ⟨q, hq, rfl⟩ := List.getElem_of_mem hy
        exact hoi q hq (by omega) x hx
      repeat' (first | (refine ycf ?_; apply ybk; (· first | (exact tk_)); (· rfl); (· rfl)) | refine t1_ ?_ | (refine ta_ ?_; intro _) | ((fail_if_success (refine ybi rfl ?_)); refine ybj rfl ?_ ?_ <;> (intro ht; rw [ht]; first | replace ht := of_decide_eq_true ht | replace ht := of_decide_eq_false ht | skip)) | (refine ych ?_; first | (refine ybw rfl ?_ ?_ <;> intro ht) | (refine ybx rfl ?_ ?_ <;> intro ht)))
      exact nx_ret1 rfl (rv_tmp rfl) (fun w' s' => ⟨by rw [this], s'.nil⟩)
end Go.Proofs.Ytkkjppeaaicgaaa
end

section
namespace Go.Proofs.Ytkkjppeaaicgaaa
open Go Go.Ck Go.Shelf
set_option maxRecDepth 100000
set_option maxHeartbeats 1000000
set_option linter.unusedVariables false

theorem make_inv {u0 u : List Int} {more M : List Dt} (hu : u.length = 16) (hb : ∀ x ∈ u, 0 ≤ x ∧ x ≤ 1099511627776) (h1 : ∀ x, rightB x = true → uD u0 x ≤ uD u x) (h2 : ∀ x, rightB x = true → x.2 ≤ uD u x → x.2 ≤ uD u0 x ∨ x ∈ more)
    (hfix : ∀ d ∈ more, d.2 ≠ uD u d + 1) (hr : ∀ d ∈ more, rightB d = true) (hs : M.Pairwise fun x y => ordD x y < 0) (hm : ∀ x, x ∈ M ↔ x ∈ more ∧ uD u x < x.2) :
    Inv u M ∧ ∀ x, rightB x = true → hasC u M x = (hasC u0 [] x || decide (x ∈ more)) := by
  refine ⟨⟨hu, hb, fun e he => ?_, hs⟩, fun x hx => ?_⟩
  · obtain ⟨q1, q2⟩ := (hm e).1 he
    have := hfix e q1
    exact ⟨hr e q1, by omega⟩
  · unfold hasC
    rw [Bool.eq_iff_iff]
    simp only [Bool.or_eq_true, decide_eq_true_iff, List.not_mem_nil, or_false]
    constructor
    · rintro (h | h)
      · exact h2 x hx h
      · exact .inr ((hm x).1 h).1
    · rintro (h | h)
      · exact .inl (by have := h1 x hx; omega)
      · by_cases hq : x.2 ≤ uD u x
        · exact .inl hq
        · exact .inr ((hm x).2 ⟨h, by omega⟩)

def insD (M : List Dt) (k : Nat) (d : Dt) : List Dt := M.take k ++ d :: M.drop k
theorem insD_len {M : List Dt} {k : Nat} {d : Dt} : (insD M k d).length = M.length + 1 := by
  simp [insD]; omega
theorem insD_all {M : List Dt} {d : Dt} : insD M M.length d = M ++ [d] := by simp [insD]
theorem insD_mem {M : List Dt} {k : Nat} {d x : Dt} : x ∈ insD M k d ↔ x = d ∨ x ∈ M := by
  unfold insD
  rw [List.mem_append, List.mem_cons]
  constructor
  · rintro (h | h | h)
    · exact .inr (List.mem_of_mem_take h)
    · exact .inl h
    · exact .inr (List.mem_of_mem_drop h)
  · rintro (h | h)
    · exact .inr (.inl h)
    · rw [← List.take_append_drop k M, List.mem_append] at h
      rcases h with h | h
      · exact .inl h
      · exact .inr (.inr h)
theorem insD_at {M : List Dt} {k j : Nat} {d : Dt} (hj : j < k) (hk : k ≤ M.length) : (insD M k d)[j]'(by rw [insD_len]; omega) = M[j]'(by omega) := by
  unfold insD
  rw [List.getElem_append_left (by simp; omega), List.getElem_take]
theorem insD_set {M : List Dt} {k : Nat} {d : Dt} (h0 : 0 < k) (hk : k ≤ M.length) : ((insD M k d).set k (M[k - 1]'(by omega))).set (k - 1) d = insD M (k - 1) d := by
  have e1 : M.take k = M.take (k - 1) ++ [M[k - 1]'(by omega)] := by
    have := List.take_succ_eq_append_getElem (l := M) (i := k - 1) (by omega)
    rwa [show k - 1 + 1 = k by omega] at this
  have e2 : M.drop (k - 1) = M[k - 1]'(by omega) :: M.drop k := by
    have := List.drop_eq_getElem_cons (l := M) (i := k - 1) (by omega)
    rwa [show k - 1 + 1 = k by omega] at this
  have l1 : (M.take (k - 1)).length = k - 1 := by simp; omega
  unfold insD
  rw [e1, e2, List.append_assoc, List.set_append_right _ _ (by omega), l1, show k - (k - 1) = 1 by omega]
  rw [List.set_append_right _ _ (by omega), l1, Nat.sub_self]
  rfl
theorem insD_sorted {M : List Dt} {k : Nat} {d : Dt} (hs : M.Pairwise fun x y => ordD x y < 0) (hk : k ≤ M.length) (hd : ∀ e ∈ M.drop k, ordD d e < 0) (hl : ∀ (h0 : 0 < k), ordD (M[k - 1]'(by omega)) d < 0) : (insD M k d).Pairwise fun x y => ordD x y < 0 := by
  unfold insD
  rw [← List.take_append_drop k M, List.pairwise_append] at hs
  obtain ⟨q1, q2, q3⟩ := hs
  refine List.pairwise_append.2 ⟨q1, List.pairwise_cons.2 ⟨hd, q2⟩, fun e he x hx => ?_⟩
  rcases List.mem_cons.1 hx with rfl | hx
  · obtain ⟨i, hi, rfl⟩ := List.getElem_of_mem he
    have hik : i < k := by simp at hi; omega
    rw [List.getElem_take]
    have hl' := hl (by omega)
    by_cases hc : i = k - 1
    · subst hc; exact hl'
    · have hp : (M.take k).Pairwise fun x y => ordD x y < 0 := q1
      have := List.pairwise_iff_getElem.1 hp i (k - 1) hi (by simp; omega) (by omega)
      rw [List.getElem_take, List.getElem_take] at this
      rw [ord_iff] at this hl' ⊢
      omega
  · exact q3 e he x hx

theorem spl_dot : ∀ {l : List Dt} {j : Nat} {x : Dt}, j < l.length → spl (l.flatMap dcs) (j * 2) (dcs x) = (l.set j x).flatMap dcs
  | y :: l, 0, x, _ => by
    show ([] ++ dcs x) ++ ((dcs y ++ l.flatMap dcs).drop (0 + 2)) = dcs x ++ l.flatMap dcs
    rfl
  | y :: l, j + 1, x, hj => by
    have ih := spl_dot (l := l) (j := j) (x := x) (by simpa using hj)
    unfold spl at ih ⊢
    have e1 : (j + 1) * 2 = (dcs y).length + j * 2 := by rw [dcs_len]; omega
    have e2 : (j + 1) * 2 + (dcs x).length = (dcs y).length + (j * 2 + (dcs x).length) := by rw [dcs_len, dcs_len]; omega
    rw [List.flatMap_cons, e2, e1, List.take_length_add_append, List.drop_length_add_append]
    show dcs y ++ _ ++ _ ++ _ = dcs y ++ (l.set j x).flatMap dcs
    rw [← ih]
    simp

theorem sum_set : ∀ {u : List Int} {i : Nat} {x : Int}, i < u.length → (u.set i x).sum = u.sum - u.getD i 0 + x
  | y :: u, 0, x, _ => by simp; omega
  | y :: u, i + 1, x, hi => by
    have := sum_set (u := u) (i := i) (x := x) (by simpa using hi)
    simp only [List.set_cons_succ, List.sum_cons, List.getD_cons_succ, this]
    omega
theorem sum_le : ∀ {u : List Int}, (∀ x ∈ u, 0 ≤ x ∧ x ≤ 1099511627776) → u.sum ≤ 1099511627776 * u.length
  | [], _ => by simp
  | y :: u, h => by
    have h1 := sum_le (u := u) (fun x hx => h x (List.mem_cons_of_mem _ hx))
    have h2 := h y (List.mem_cons_self ..)
    simp only [List.sum_cons, List.length_cons]
    omega

/-- what holds of the numbers all along -/
structure MkI (u0 : List Int) (more : List Dt) (u : List Int) : Prop where
  len : u.length = 16
  bd : ∀ x ∈ u, 0 ≤ x ∧ x ≤ 1099511627776
  ge : ∀ x, rightB x = true → uD u0 x ≤ uD u x
  mem : ∀ x, rightB x = true → x.2 ≤ uD u x → x.2 ≤ uD u0 x ∨ x ∈ more
theorem MkI.step {u0 u : List Int} {more : List Dt} (h : MkI u0 more u) {d : Dt} (hd : d ∈ more) (hr : rightB d = true) (he : d.2 = uD u d + 1) : MkI u0 more (u.set (d.1 - 1).toNat d.2) := by
  have hd4 := right_of hr
  refine ⟨by simpa using h.len, fun x hx => ?_, fun x hx => ?_, fun x hx hle => ?_⟩
  · rcases List.mem_or_eq_of_mem_set hx with hx | rfl
    · exact h.bd x hx
    · omega
  · rw [uD_set h.len hr hx]
    have := h.ge x hx
    split
    · rename_i hc
      have : uD u x = uD u d := by unfold uD; rw [hc]
      omega
    · exact this
  · rw [uD_set h.len hr hx] at hle
    split at hle
    · rename_i hc
      have hxd : uD u x = uD u d := by unfold uD; rw [hc]
      by_cases hq : x.2 = d.2
      · exact .inr (by rw [show x = d from Prod.ext hc hq]; exact hd)
      · exact h.mem x hx (by omega)
    · exact h.mem x hx hle
end Go.Proofs.Ytkkjppeaaicgaaa
end
