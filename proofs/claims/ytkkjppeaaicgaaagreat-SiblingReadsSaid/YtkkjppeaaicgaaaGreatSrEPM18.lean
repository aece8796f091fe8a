/-
  Part 18 of a proof: SrC SrD SbX SbY.
  Conditions: each theorem states its own.
-/
import Derived.Test.YtkkjppeaaicgaaaGreatSrEPM17
section
namespace Go.Proofs.YtkkjppeaaicgaaaGreat
open Go Go.Ck
set_option maxRecDepth 100000
set_option maxHeartbeats 4000000
set_option linter.unusedVariables false

theorem rsRead_sp (l : List Int) (hb : Bytes l) (hl : l.length ≤ 1000000) (h : View) (w : World) (s : St ⟨w, h, []⟩ h [] w) :
    Calls Tryz.prog 5 [.string (bstr l)].toArray w fun en w' => ∃ x : View × Value × List Sb, en = .returned (.tuple #[x.2.1, .bool (srS l).1]) ∧ St ⟨w, h, []⟩ x.1 [] w' ∧ (Rs x.1 x.2.1 x.2.2 ∧ x.2.2.map Sb.a = (srS l).2) := by
  have hok0 : RsOk (smS l).2 := smS_ok hb hl
  have hbd := smS_bd hb hl
  refine calls_enter Tryz.func5 rfl Tryz.ntmps5 rfl s ?_
  repeat' (first | refine tw_ ?_ | (refine ta_ ?_; intro _) | ((fail_if_success (refine ybi rfl ?_)); refine ybj rfl ?_ ?_ <;> (intro ht; rw [ht]; first | replace ht := of_decide_eq_true ht | replace ht := of_decide_eq_false ht | skip)) | (refine ych ?_; first | (refine ybw rfl ?_ ?_ <;> intro ht) | (refine ybx rfl ?_ ?_ <;> intro ht)))
  rename_i bi
  (refine rx_call_m (ycp Tryz.func17 rfl (by kernel_rfl) rfl) (perm_at (k := 0) rfl) (rSmall_sp bi l 0 64 hb (by omega) h) rfl rfl rfl ?_ ?_ ?_; (· (exact to_)); (· intro _ _ hle; (exact to_)); intro x px hle)
  rw [show numC (l, 0) 1 64 = smS l from rfl]
  have eS : srS l = if (sbsC (smS l).1.toNat (smS l).2).1.2 = true ∧ endC (sbsC (smS l).1.toNat (smS l).2).2 = 0 ∧ checkA (sbsC (smS l).1.toNat (smS l).2).1.1 = 0 then (true, (sbsC (smS l).1.toNat (smS l).2).1.1) else (false, []) := rfl
  rw [eS]
  clear eS px hle
  generalize smS l = M at hok0 hbd ⊢
  obtain ⟨nv, st⟩ := M
  dsimp only at hok0 hbd ⊢
  obtain ⟨n, rfl⟩ : ∃ n : Nat, nv = n := ⟨nv.toNat, by omega⟩
  rw [Int.toNat_natCast]
  repeat' (first | refine tw_ ?_ | (refine ta_ ?_; intro _) | ((fail_if_success (refine ybi rfl ?_)); refine ybj rfl ?_ ?_ <;> (intro ht; rw [ht]; first | replace ht := of_decide_eq_true ht | replace ht := of_decide_eq_false ht | skip)) | (refine ych ?_; first | (refine ybw rfl ?_ ?_ <;> intro ht) | (refine ybx rfl ?_ ?_ <;> intro ht)))
  refine cx_row 57 20 ?_
  refine cx_loop (X := Nat × View × Value × List Sb)
    (fun y => [(2, .slice none 0 0), (3, .bool false), (4, .pointer (some ⟨bi, 0, none⟩)), (5, .int .i64 (n : Nat)), (6, y.2.2.1), (7, .bool (sbsC y.1 st).1.2), (8, .int .i64 (y.1 : Nat))])
    (fun y => y.2.1) (fun y => [Res.row 57 20 y.2.2.1 y.1 (y.2.2.2.flatMap sbc), rinR bi (sbsC y.1 st).2.1 (sbsC y.1 st).2.2])
    (fun y => y.1 ≤ n ∧ Le h y.2.1 ∧ (∀ z ∈ y.2.2.2, Rv y.2.1 z) ∧ y.2.2.2.map Sb.a = (sbsC y.1 st).1.1)
    (fun y => n - y.1) (0, h, .slice none 0 0, []) ⟨Nat.zero_le _, Le.refl _, (fun z hz => by cases hz), rfl⟩ ts_ (fun _ s => s) ?_
  rintro ⟨k, hk, mv, zs⟩ ⟨q1, q2, q4, q5⟩
  dsimp only at q1 q2 q4 q5 ⊢
  obtain ⟨hok, hlen⟩ := sbsC_ok hok0 k
  by_cases hgo : k < n ∧ (sbsC k st).2.2 = 0
  · obtain ⟨hkn, hz⟩ := hgo
    have eD : sbsC (k + 1) st = (((sbsC k st).1.1 ++ [sbA (sbsC k st).2], (sbsC k st).1.2 && (sb4 (sbsC k st).2).1), (sb5 (sbsC k st).2).2) := rfl
    generalize sbsC k st = D at hok hlen q5 eD hz ⊢
    obtain ⟨⟨A, rb⟩, ls, e⟩ := D
    dsimp only at hok hlen q5 eD hz ⊢
    subst hz
    repeat' (first | (refine ycf ?_; apply ybk; (· first | (first | (apply qv_nilCheck; rfl) | exact tk_)); (· rfl); (· rfl)) | refine t1_ ?_ | (refine ta_ ?_; intro _) | ((fail_if_success (refine ybi rfl ?_)); refine ybj rfl ?_ ?_ <;> (intro ht; rw [ht]; first | replace ht := of_decide_eq_true ht | replace ht := of_decide_eq_false ht | skip)) | (refine ych ?_; first | (refine ybw rfl ?_ ?_ <;> intro ht) | (refine ybx rfl ?_ ?_ <;> intro ht)))
    (refine rx_call_m (ycp Tryz.func18 rfl (by kernel_rfl) rfl) (perm_at (k := 1) rfl) (rNum_sp bi ls 0 1099511627776 hok.b (by omega) hk) rfl rfl rfl ?_ ?_ ?_; (· (exact to_)); (· intro _ _ hle; (exact to_)); intro x px hle)
    have hok1 := sb1_ok hok
    have hok2 := sb2_ok hok
    have hok3 := sb3_ok hok
    have hok5 := sb5_ok hok
    have hl4 := sb4_len hok
    rw [show numC (ls, 0) 8 1099511627776 = sb1 (ls, 0) from rfl]
    have e2 : numC (sb1 (ls, 0)).2 8 1099511627776 = sb2 (ls, 0) := rfl
    have e3 : byC (sb2 (ls, 0)).2 16384 = sb3 (ls, 0) := rfl
    have e4 : rdS (sb3 (ls, 0)).1 = sb4 (ls, 0) := rfl
    have e5 : byC (sb3 (ls, 0)).2 16384 = sb5 (ls, 0) := rfl
    have eA : sbA (ls, 0) = (((sb1 (ls, 0)).1, (sb2 (ls, 0)).1), (sb4 (ls, 0)).2.1, (sb4 (ls, 0)).2.2, (sb5 (ls, 0)).1) := rfl
    rw [eA] at eD
    clear eA
    generalize sb1 (ls, 0) = S1 at hok1 e2 eD ⊢
    obtain ⟨n1, ls1, e1⟩ := S1
    dsimp only at hok1 e2 eD ⊢
    repeat' (first | (refine ycf ?_; apply ybk; (· first | (first | (apply qv_nilCheck; rfl) | exact tk_)); (· rfl); (· rfl)) | refine t1_ ?_ | (refine ta_ ?_; intro _) | ((fail_if_success (refine ybi rfl ?_)); refine ybj rfl ?_ ?_ <;> (intro ht; rw [ht]; first | replace ht := of_decide_eq_true ht | replace ht := of_decide_eq_false ht | skip)) | (refine ych ?_; first | (refine ybw rfl ?_ ?_ <;> intro ht) | (refine ybx rfl ?_ ?_ <;> intro ht)))
    rename_i b9
    (refine rx_call_m (ycp Tryz.func18 rfl (by kernel_rfl) rfl) (perm_at (k := 1) rfl) (rNum_sp bi ls1 e1 1099511627776 hok1.b (by omega) hk) rfl rfl rfl ?_ ?_ ?_; (· (exact to_)); (· intro _ _ hle; (exact to_)); intro x px hle)
    rw [e2]
    generalize sb2 (ls, 0) = S2 at hok2 e3 eD ⊢
    obtain ⟨n2, ls2, er2⟩ := S2
    dsimp only at hok2 e3 eD ⊢
    repeat' (first | (refine ycf ?_; apply ybk; (· first | (first | (apply qv_nilCheck; rfl) | exact tk_)); (· rfl); (· rfl)) | refine t1_ ?_ | (refine ta_ ?_; intro _) | ((fail_if_success (refine ybi rfl ?_)); refine ybj rfl ?_ ?_ <;> (intro ht; rw [ht]; first | replace ht := of_decide_eq_true ht | replace ht := of_decide_eq_false ht | skip)) | (refine ych ?_; first | (refine ybw rfl ?_ ?_ <;> intro ht) | (refine ybx rfl ?_ ?_ <;> intro ht)))
    (refine rx_call_m (ycp Tryz.func20 rfl (by kernel_rfl) rfl) (perm_at (k := 0) rfl) (rInBytes_sp bi ls2 er2 16384 hok2.b (by omega) hok2.l hk) rfl rfl rfl ?_ ?_ ?_; (· (exact to_)); (· intro _ _ hle; (exact to_)); intro x px hle)
    rw [e3]
    generalize sb3 (ls, 0) = S3 at hok3 e4 e5 eD ⊢
    obtain ⟨bs3, ls3, er3⟩ := S3
    dsimp only at hok3 e4 e5 eD ⊢
    repeat' (first | (refine ycf ?_; apply ybk; (· first | (first | (apply qv_nilCheck; rfl) | exact tk_)); (· rfl); (· rfl)) | refine t1_ ?_ | (refine ta_ ?_; intro _) | ((fail_if_success (refine ybi rfl ?_)); refine ybj rfl ?_ ?_ <;> (intro ht; rw [ht]; first | replace ht := of_decide_eq_true ht | replace ht := of_decide_eq_false ht | skip)) | (refine ych ?_; first | (refine ybw rfl ?_ ?_ <;> intro ht) | (refine ybx rfl ?_ ?_ <;> intro ht)))
    clear px hle
    (refine yco (ycp Tryz.func19 rfl (by kernel_rfl) rfl) (rRead_s bs3 hok3.2.1 (by omega) hk) rfl rfl rfl ?_ ?_ ?_; (· (exact to_)); (· intro _ _ hle; (exact to_)); intro x px hle)
    rw [e4] at px ⊢
    generalize sb4 (ls, 0) = S4 at px hl4 eD ⊢
    obtain ⟨t4, U, M⟩ := S4
    obtain ⟨h4, v4⟩ := x
    dsimp only at px hl4 eD ⊢
    have hle4 : Le hk h4 := hle
    clear hle
    obtain ⟨hu, mv4, rfl, hD4⟩ := px
    obtain ⟨_, ad4, cap4, rfl, _, _⟩ := id hD4
    obtain ⟨z0, hz0⟩ : ∃ z0 : Sb, z0 = ⟨(n1, n2), zeroU, rfl, [], .slice none 0 0, [], .string ⟨#[]⟩⟩ := ⟨_, rfl⟩
    obtain ⟨y1, hy1⟩ : ∃ y1 : Sb, y1 = ⟨(n1, n2), U, hu, M, .slice ad4 M.length cap4, [], .string ⟨#[]⟩⟩ := ⟨_, rfl⟩
    obtain ⟨y2, hy2⟩ : ∃ y2 : Sb, y2 = ⟨(n1, n2), U, hu, M, .slice ad4 M.length cap4, (sb5 (ls, 0)).1, .string (bstr (sb5 (ls, 0)).1)⟩ := ⟨_, rfl⟩
    have g1 : spl (sbc ⟨(n1, n2), zeroU, rfl, [], .slice none 0 0, [], .string ⟨#[]⟩⟩) (0 + 2) (cxc U (.slice ad4 M.length cap4)) = sbc y1 := by rw [hy1]; exact spl_past_r hu
    have g2 : spl (sbc y1) (0 + 19) [.string (bstr (sb5 (ls, 0)).1)] = sbc y2 := by rw [hy1, hy2]; exact spl_body_s
    have vy2 : Rv h4 y2 := by rw [hy2]; exact ⟨hD4, rfl, hok5.2.1⟩
    have ay2 : y2.a = ((n1, n2), U, M, (sb5 (ls, 0)).1) := by rw [hy2]; rfl
    have hyo := vy2.one
    have hyl := sbc_len y2
    rw [← ay2] at eD
    have hfin : ∀ rb2, (rb && t4) = rb2 → (∀ z ∈ zs ++ [y2], Rv h4 z) ∧ (zs ++ [y2]).map Sb.a = (sbsC (k + 1) st).1.1 ∧ (sbsC (k + 1) st).1.2 = rb2 ∧ (sbsC (k + 1) st).2 = (sb5 (ls, 0)).2 := fun rb2 hr => by
      refine ⟨fun z hz => ?_, ?_, ?_, ?_⟩
      · rcases List.mem_append.1 hz with hz | hz
        · exact (q4 z hz).mono hle4
        · rw [List.mem_singleton.1 hz]; exact vy2
      · rw [eD, List.map_append, q5]
        simp
      · rw [eD]; exact hr
      · rw [eD]
    clear eD
    repeat' (first|(refine ycf ?_;apply ybk;(·first|(first|exact tk_|(apply yad;(·rfl);(·exact yaz 0 rfl);(·exact ycj hu))));(·rfl);(·rfl))|(first|(refine ybg 0 rfl rfl rfl (cxc_sz hu) (cxc_fit hu) (cxc_one rfl) (ybh (cxc_all hu)) rfl rfl ?_ ?_ ?_;(·(exact to_));(·(exact to_)))|(refine ybg 2 rfl rfl rfl (cxc_sz hu) (past_fit_r (x := ⟨(n1, n2), zeroU, rfl, [], .slice none 0 0, [], .string ⟨#[]⟩⟩) hu) (cxc_one rfl) g1 rfl rfl ?_ ?_ ?_;(·(exact to_));(·(exact to_))))|refine t1_ ?_|(refine ta_ ?_;intro _)|((fail_if_success (refine ybi rfl ?_));refine ybj rfl ?_ ?_<;>(intro ht;rw [ht];first|replace ht := of_decide_eq_true ht|replace ht := of_decide_eq_false ht|skip))|(refine ych ?_;first|(refine ybw rfl ?_ ?_<;>intro ht)|(refine ybx rfl ?_ ?_<;>intro ht)))
    · (refine rx_call_m (ycp Tryz.func20 rfl (by kernel_rfl) rfl) (perm_at (k := 1) rfl) (rInBytes_sp bi ls3 er3 16384 hok3.1.b (by omega) hok3.1.l h4) rfl rfl rfl ?_ ?_ ?_; (· (exact to_)); (· intro _ _ hle; (exact to_)); intro x px hle)
      rw [e5]
      repeat' (first|(refine ycf ?_;apply ybk;(·first|(first|exact tk_|(apply yad;(·rfl);(·exact yaz 2 rfl);(·exact hyl))|(apply yad;(·rfl);(·exact yaz 3 rfl);(·exact hyl))));(·rfl);(·rfl))|(first|(refine ybg 3 rfl rfl rfl rfl (sbv_fit (by omega)) rfl g2 rfl rfl ?_ ?_ ?_;(·(exact to_));(·(exact to_)))|(refine ybg 2 rfl rfl rfl rfl (sbv_fit (by omega)) rfl g2 rfl rfl ?_ ?_ ?_;(·(exact to_));(·(exact to_))))|refine t1_ ?_|(refine ta_ ?_;intro _)|((fail_if_success (refine ybi rfl ?_));refine ybj rfl ?_ ?_<;>(intro ht;rw [ht];first|replace ht := of_decide_eq_true ht|replace ht := of_decide_eq_false ht|skip))|(refine ych ?_;first|(refine ybw rfl ?_ ?_<;>intro ht)|(refine ybx rfl ?_ ?_<;>intro ht)))
      refine yba (ybd rfl rfl rfl (ybe rfl (sbc_sz y2))) rfl rfl rfl ybf (fun _ => ybf) ?_
      intro b42
      refine rx_append (sz := 20) 4 rfl rfl rfl (yaz 0 rfl) (by show (sbc y2).length = 1 * 20; exact hyl) (fun u hu => List.all_eq_true.1 (sbc_one hyo.1 hyo.2) u hu) rfl (by omega) (by unfold maxLen; omega) (by omega) rfl rfl rfl ybf (fun _ => ybf) ?_
      intro v9 _
      repeat' (first | (refine ycf ?_; apply ybk; (· first | (exact tk_)); (· rfl); (· rfl)) | refine t1_ ?_ | (refine ta_ ?_; intro _) | ((fail_if_success (refine ybi rfl ?_)); refine ybj rfl ?_ ?_ <;> (intro ht; rw [ht]; first | replace ht := of_decide_eq_true ht | replace ht := of_decide_eq_false ht | skip)) | (refine ych ?_; first | (refine ybw rfl ?_ ?_ <;> intro ht) | (refine ybx rfl ?_ ?_ <;> intro ht)))
      obtain ⟨f1, f2, f3, f4⟩ := hfin t4 (by rw [ht]; rfl)
      refine nx_round (k + 1, h4, v9, zs ++ [y2]) ⟨by show k + 1 ≤ n; omega, q2.trans hle4, f1, f2⟩ (by show n - (k + 1) < n - k; omega) (by dsimp only; rw [f3]; exact ts_) (fun _ s => ?_)
      dsimp only
      rw [f4, List.flatMap_append, show [y2].flatMap sbc = sbc y2 by simp]
      exact (s.tl.perm (List.perm_append_comm (l₁ := [_]) (l₂ := [_, _, _]))).tl.tl
    · (refine rx_call_m (ycp Tryz.func20 rfl (by kernel_rfl) rfl) (perm_at (k := 1) rfl) (rInBytes_sp bi ls3 er3 16384 hok3.1.b (by omega) hok3.1.l h4) rfl rfl rfl ?_ ?_ ?_; (· (exact to_)); (· intro _ _ hle; (exact to_)); intro x px hle)
      rw [e5]
      repeat' (first|(refine ycf ?_;apply ybk;(·first|(first|exact tk_|(apply yad;(·rfl);(·exact yaz 2 rfl);(·exact hyl))|(apply yad;(·rfl);(·exact yaz 3 rfl);(·exact hyl))));(·rfl);(·rfl))|(first|(refine ybg 3 rfl rfl rfl rfl (sbv_fit (by omega)) rfl g2 rfl rfl ?_ ?_ ?_;(·(exact to_));(·(exact to_)))|(refine ybg 2 rfl rfl rfl rfl (sbv_fit (by omega)) rfl g2 rfl rfl ?_ ?_ ?_;(·(exact to_));(·(exact to_))))|refine t1_ ?_|(refine ta_ ?_;intro _)|((fail_if_success (refine ybi rfl ?_));refine ybj rfl ?_ ?_<;>(intro ht;rw [ht];first|replace ht := of_decide_eq_true ht|replace ht := of_decide_eq_false ht|skip))|(refine ych ?_;first|(refine ybw rfl ?_ ?_<;>intro ht)|(refine ybx rfl ?_ ?_<;>intro ht)))
      refine yba (ybd rfl rfl rfl (ybe rfl (sbc_sz y2))) rfl rfl rfl ybf (fun _ => ybf) ?_
      intro b42
      refine rx_append (sz := 20) 4 rfl rfl rfl (yaz 0 rfl) (by show (sbc y2).length = 1 * 20; exact hyl) (fun u hu => List.all_eq_true.1 (sbc_one hyo.1 hyo.2) u hu) rfl (by omega) (by unfold maxLen; omega) (by omega) rfl rfl rfl ybf (fun _ => ybf) ?_
      intro v9 _
      repeat' (first | (refine ycf ?_; apply ybk; (· first | (exact tk_)); (· rfl); (· rfl)) | refine t1_ ?_ | (refine ta_ ?_; intro _) | ((fail_if_success (refine ybi rfl ?_)); refine ybj rfl ?_ ?_ <;> (intro ht; rw [ht]; first | replace ht := of_decide_eq_true ht | replace ht := of_decide_eq_false ht | skip)) | (refine ych ?_; first | (refine ybw rfl ?_ ?_ <;> intro ht) | (refine ybx rfl ?_ ?_ <;> intro ht)))
      obtain ⟨f1, f2, f3, f4⟩ := hfin false (by rw [ht]; rfl)
      refine nx_round (k + 1, h4, v9, zs ++ [y2]) ⟨by show k + 1 ≤ n; omega, q2.trans hle4, f1, f2⟩ (by show n - (k + 1) < n - k; omega) (by dsimp only; rw [f3]; exact ts_) (fun _ s => ?_)
      dsimp only
      rw [f4, List.flatMap_append, show [y2].flatMap sbc = sbc y2 by simp]
      exact (s.tl.perm (List.perm_append_comm (l₁ := [_]) (l₂ := [_, _, _]))).tl.tl
  · by_cases hkn : k < n
    · have hz : (sbsC k st).2.2 ≠ 0 := fun hx => hgo ⟨hkn, hx⟩
      have hbad : (if (sbsC n st).1.2 = true ∧ endC (sbsC n st).2 = 0 ∧ checkA (sbsC n st).1.1 = 0 then (true, (sbsC n st).1.1) else (false, [])) = ((false, []) : Bool × List Ab) := if_neg fun hx => by
        have h1 := sbsC_err hz (n - k)
        rw [Nat.add_sub_cancel' q1] at h1
        refine endC_err ?_ hx.2.1
        rw [h1]; exact hz
      rw [hbad]
      generalize sbsC k st = D at hok hlen q5 hz ⊢
      obtain ⟨⟨A, rb⟩, ls, e⟩ := D
      dsimp only at hok hlen q5 hz ⊢
      have hee : endC (ls, e) ≠ 0 := endC_err hz
      repeat' (first | (refine ycf ?_; apply ybk; (· first | (first | (apply qv_nilCheck; rfl) | exact tk_)); (· rfl); (· rfl)) | refine t1_ ?_ | (refine ta_ ?_; intro _) | ((fail_if_success (refine ybi rfl ?_)); refine ybj rfl ?_ ?_ <;> (intro ht; rw [ht]; first | replace ht := of_decide_eq_true ht | replace ht := of_decide_eq_false ht | skip)) | (refine ych ?_; first | (refine ybw rfl ?_ ?_ <;> intro ht) | (refine ybx rfl ?_ ?_ <;> intro ht)))
      (refine rx_call_m (ycp Tryz.func21 rfl (by kernel_rfl) rfl) (perm_at (k := 1) rfl) (rEnd_sp bi ls e hk) rfl rfl rfl ?_ ?_ ?_; (· (exact to_)); (· intro _ _ hle; (exact to_)); intro x px hle)
      generalize endC (ls, e) = ez at hee ⊢
      repeat' (first | (refine ycf ?_; apply ybk; (· first | (first | (apply qv_nilCheck; rfl) | exact tk_)); (· rfl); (· rfl)) | refine t1_ ?_ | (refine ta_ ?_; intro _) | ((fail_if_success (refine ybi rfl ?_)); refine ybj rfl ?_ ?_ <;> (intro ht; rw [ht]; first | replace ht := of_decide_eq_true ht | replace ht := of_decide_eq_false ht | skip)) | (refine ych ?_; first | (refine ybw rfl ?_ ?_ <;> intro ht) | (refine ybx rfl ?_ ?_ <;> intro ht)))
      exact nx_ret2 rfl (rv_tmp rfl) (rv_tmp rfl) (fun w' s' => ⟨(hk, .slice none 0 0, []), rfl, s'.nil, ⟨Sc.nil hk 20 none 0, fun z hz => by cases hz⟩, rfl⟩)
    · have ek : k = n := by omega
      subst ek
      have fz : Fits zs := fits_sbs hok0 q5 (by omega)
      generalize sbsC k st = D at hok hlen q5 ⊢
      obtain ⟨⟨A, rb⟩, ls, e⟩ := D
      dsimp only at hok hlen q5 ⊢
      have hzl : zs.length = k := by rw [← hlen, ← q5, List.length_map]
      repeat' (first | (refine ycf ?_; apply ybk; (· first | (first | (apply qv_nilCheck; rfl) | exact tk_)); (· rfl); (· rfl)) | refine t1_ ?_ | (refine ta_ ?_; intro _) | ((fail_if_success (refine ybi rfl ?_)); refine ybj rfl ?_ ?_ <;> (intro ht; rw [ht]; first | replace ht := of_decide_eq_true ht | replace ht := of_decide_eq_false ht | skip)) | (refine ych ?_; first | (refine ybw rfl ?_ ?_ <;> intro ht) | (refine ybx rfl ?_ ?_ <;> intro ht)))
      refine rx_persist rfl fun h6 hle6 hsm => ?_
      rw [← hzl] at hsm
      have S6 : Rs h6 mv zs := ⟨hsm, fun z hz => (q4 z hz).mono hle6⟩
      obtain ⟨_, ad6, cap6, rfl, _, _⟩ := id S6.1
      have C6 := rcheck_sp _ zs h6 S6 (by have := fz.1; omega) (fun x hx => by have := fz.2 x hx; omega)
      rw [q5] at C6
      (refine rx_call_m (ycp Tryz.func21 rfl (by kernel_rfl) rfl) (perm_at (k := 0) rfl) (rEnd_sp bi ls e h6) rfl rfl rfl ?_ ?_ ?_; (· (exact to_)); (· intro _ _ hle; (exact to_)); intro x px hle)
      by_cases hE : endC (ls, e) = 0
      · rw [hE]
        cases rb with
        | false =>
          rw [show (if false = true ∧ (0 : Int) = 0 ∧ checkA A = 0 then (true, A) else (false, [])) = (false, []) from if_neg (fun hx => by cases hx.1)]
          repeat' (first | (refine ycf ?_; apply ybk; (· first | (first | (apply qv_nilCheck; rfl) | exact tk_)); (· rfl); (· rfl)) | refine t1_ ?_ | (refine ta_ ?_; intro _) | ((fail_if_success (refine ybi rfl ?_)); refine ybj rfl ?_ ?_ <;> (intro ht; rw [ht]; first | replace ht := of_decide_eq_true ht | replace ht := of_decide_eq_false ht | skip)) | (refine ych ?_; first | (refine ybw rfl ?_ ?_ <;> intro ht) | (refine ybx rfl ?_ ?_ <;> intro ht)))
          exact nx_ret2 rfl (rv_tmp rfl) (rv_tmp rfl) (fun w' s' => ⟨(h6, .slice none 0 0, []), rfl, s'.nil, ⟨Sc.nil h6 20 none 0, fun z hz => by cases hz⟩, rfl⟩)
        | true =>
          repeat' (first | (refine ycf ?_; apply ybk; (· first | (first | (apply qv_nilCheck; rfl) | exact tk_)); (· rfl); (· rfl)) | refine t1_ ?_ | (refine ta_ ?_; intro _) | ((fail_if_success (refine ybi rfl ?_)); refine ybj rfl ?_ ?_ <;> (intro ht; rw [ht]; first | replace ht := of_decide_eq_true ht | replace ht := of_decide_eq_false ht | skip)) | (refine ych ?_; first | (refine ybw rfl ?_ ?_ <;> intro ht) | (refine ybx rfl ?_ ?_ <;> intro ht)))
          (refine ycn (ycp Tryz.func22 rfl (by kernel_rfl) rfl) (C6) rfl rfl rfl ?_ ?_; (· (exact to_)))
          by_cases hC : checkA A = 0
          · rw [show (if true = true ∧ (0 : Int) = 0 ∧ checkA A = 0 then (true, A) else (false, [])) = (true, A) from if_pos ⟨rfl, rfl, hC⟩, hC]
            repeat' (first | (refine ycf ?_; apply ybk; (· first | (first | (apply qv_nilCheck; rfl) | exact tk_)); (· rfl); (· rfl)) | refine t1_ ?_ | (refine ta_ ?_; intro _) | ((fail_if_success (refine ybi rfl ?_)); refine ybj rfl ?_ ?_ <;> (intro ht; rw [ht]; first | replace ht := of_decide_eq_true ht | replace ht := of_decide_eq_false ht | skip)) | (refine ych ?_; first | (refine ybw rfl ?_ ?_ <;> intro ht) | (refine ybx rfl ?_ ?_ <;> intro ht)))
            exact nx_ret2 rfl (rv_tmp rfl) (rv_tmp rfl) (fun w' s' => ⟨(h6, _, zs), rfl, s'.nil, S6, q5⟩)
          · rw [show (if true = true ∧ (0 : Int) = 0 ∧ checkA A = 0 then (true, A) else (false, [])) = (false, []) from if_neg (fun hx => hC hx.2.2)]
            generalize checkA A = cz at hC ⊢
            repeat' (first | (refine ycf ?_; apply ybk; (· first | (first | (apply qv_nilCheck; rfl) | exact tk_)); (· rfl); (· rfl)) | refine t1_ ?_ | (refine ta_ ?_; intro _) | ((fail_if_success (refine ybi rfl ?_)); refine ybj rfl ?_ ?_ <;> (intro ht; rw [ht]; first | replace ht := of_decide_eq_true ht | replace ht := of_decide_eq_false ht | skip)) | (refine ych ?_; first | (refine ybw rfl ?_ ?_ <;> intro ht) | (refine ybx rfl ?_ ?_ <;> intro ht)))
            exact nx_ret2 rfl (rv_tmp rfl) (rv_tmp rfl) (fun w' s' => ⟨(h6, .slice none 0 0, []), rfl, s'.nil, ⟨Sc.nil h6 20 none 0, fun z hz => by cases hz⟩, rfl⟩)
      · rw [show (if rb = true ∧ endC (ls, e) = 0 ∧ checkA A = 0 then (true, A) else (false, [])) = (false, []) from if_neg (fun hx => hE hx.2.1)]
        generalize endC (ls, e) = ez at hE ⊢
        repeat' (first | (refine ycf ?_; apply ybk; (· first | (first | (apply qv_nilCheck; rfl) | exact tk_)); (· rfl); (· rfl)) | refine t1_ ?_ | (refine ta_ ?_; intro _) | ((fail_if_success (refine ybi rfl ?_)); refine ybj rfl ?_ ?_ <;> (intro ht; rw [ht]; first | replace ht := of_decide_eq_true ht | replace ht := of_decide_eq_false ht | skip)) | (refine ych ?_; first | (refine ybw rfl ?_ ?_ <;> intro ht) | (refine ybx rfl ?_ ?_ <;> intro ht)))
        exact nx_ret2 rfl (rv_tmp rfl) (rv_tmp rfl) (fun w' s' => ⟨(h6, .slice none 0 0, []), rfl, s'.nil, ⟨Sc.nil h6 20 none 0, fun z hz => by cases hz⟩, rfl⟩)
end Go.Proofs.YtkkjppeaaicgaaaGreat
end

section
namespace Go.Proofs.YtkkjppeaaicgaaaGreat
open Go Go.Ck
set_option maxRecDepth 100000
set_option maxHeartbeats 4000000
set_option linter.unusedVariables false

theorem encA_flat (l : List Ab) {k : Nat} (hk : k < l.length) : (l.take (k + 1)).flatMap encA = (l.take k).flatMap encA ++ encA l[k] := flat_succ hk
theorem flat_le {l : List Ab} : ∀ k, ((l.take k).flatMap encA).length ≤ (l.flatMap encA).length := fun k => by
  have : l.flatMap encA = (l.take k).flatMap encA ++ (l.drop k).flatMap encA := by rw [← List.flatMap_append, List.take_append_drop]
  rw [this, List.length_append]
  omega
theorem encA_len (a : Ab) : (encA a).length = 24 + (encW a.2.1 a.2.2.1).length + a.2.2.2.length := by
  simp only [encA, List.length_append, num8_len, num4_len]
  omega
theorem sWrite_sp (v : Value) (l : List Sb) (h : View) (hs : Ss h v l) (fl : Fits l) (hsz : (encS (l.map Sb.a)).length ≤ 900000) (w : World) (s : St ⟨w, h, []⟩ h [] w) :
    Calls Tryz.prog 9 [v].toArray w fun e w' => ∃ x : View × Value, e = .returned (.tuple #[x.2, .int .i64 (checkA (l.map Sb.a))]) ∧ St ⟨w, h, []⟩ x.1 [] w' ∧ Bs8 x.1 x.2 (if checkA (l.map Sb.a) = 0 then encS (l.map Sb.a) else []) := by
  obtain ⟨_, ad, cap, rfl, _, _⟩ := id hs.1
  have C1 := scheck_sp _ l h hs (by have := fl.1; omega) (fun x hx => by have := fl.2 x hx; omega)
  refine calls_enter Tryz.func9 rfl Tryz.ntmps9 rfl s ?_
  repeat' (first | refine tw_ ?_ | (refine ta_ ?_; intro _) | ((fail_if_success (refine ybi rfl ?_)); refine ybj rfl ?_ ?_ <;> (intro ht; rw [ht]; first | replace ht := of_decide_eq_true ht | replace ht := of_decide_eq_false ht | skip)) | (refine ych ?_; first | (refine ybw rfl ?_ ?_ <;> intro ht) | (refine ybx rfl ?_ ?_ <;> intro ht)))
  (refine ycn (ycp Tryz.func16 rfl (by kernel_rfl) rfl) (C1) rfl rfl rfl ?_ ?_; (· (exact to_)))
  by_cases hk0 : checkA (l.map Sb.a) = 0
  · rw [hk0]
    repeat' (first | (refine ycf ?_; apply ybk; (· first | (exact tk_)); (· rfl); (· rfl)) | refine t1_ ?_ | (refine ta_ ?_; intro _) | ((fail_if_success (refine ybi rfl ?_)); refine ybj rfl ?_ ?_ <;> (intro ht; rw [ht]; first | replace ht := of_decide_eq_true ht | replace ht := of_decide_eq_false ht | skip)) | (refine ych ?_; first | (refine ybw rfl ?_ ?_ <;> intro ht) | (refine ybx rfl ?_ ?_ <;> intro ht)))
    rename_i bo
    obtain ⟨c64, cR, _, _⟩ := checkA_ok hk0
    rw [List.length_map] at c64
    have hszs : ((l.map Sb.a).flatMap encA).length ≤ 900000 := by
      have e : (encS (l.map Sb.a)).length = 1 + ((l.map Sb.a).flatMap encA).length := by unfold encS; rw [List.length_append, num1_len]
      omega
    refine rx_row 5 1 ?_
    refine rx_perm (List.Perm.swap _ _ _) ?_
    (refine rx_call_2 (ycp Tryz.func26 rfl (by kernel_rfl) rfl) (OutSmall_sp bo (.slice none 0 0) [] false l.length (by omega) (by omega) (by simp) h) rfl rfl rfl ?_ ?_ ?_; (· (exact to_)); (· intro _ _ hle; (exact to_)); intro x px hle)
    repeat' (first | (refine ycf ?_; apply ybk; (· first | (exact tk_)); (· rfl); (· rfl)) | refine t1_ ?_ | (refine ta_ ?_; intro _) | ((fail_if_success (refine ybi rfl ?_)); refine ybj rfl ?_ ?_ <;> (intro ht; rw [ht]; first | replace ht := of_decide_eq_true ht | replace ht := of_decide_eq_false ht | skip)) | (refine ych ?_; first | (refine ybw rfl ?_ ?_ <;> intro ht) | (refine ybx rfl ?_ ?_ <;> intro ht)))
    refine cx_loop (X := Nat × View × Value) (fun y => [(5, .pointer (some ⟨bo, 0, none⟩)), (20, .slice ad l.length cap), (21, .int .i64 (l.length : Nat)), (22, .int .i64 (y.1 : Nat))]) (fun y => y.2.1) (fun y => [outR bo y.2.2 false, rowB y.2.2 (num1 l.length ++ ((l.map Sb.a).take y.1).flatMap encA)])
      (fun y => y.1 ≤ l.length ∧ Le h y.2.1) (fun y => l.length - y.1) (0, h, x) ⟨Nat.zero_le _, Le.refl _⟩ ts_ (fun _ s => ?_) ?_
    · dsimp only
      rw [List.take_zero, List.flatMap_nil, List.append_nil]
      exact s
    clear px hle
    rintro ⟨k, hk, v⟩ ⟨q1, q2⟩
    dsimp only at q1 q2 ⊢
    have hpl : (num1 l.length ++ ((l.map Sb.a).take k).flatMap encA).length ≤ 900001 := by
      have := flat_le (l := l.map Sb.a) k
      rw [List.length_append, num1_len]
      omega
    by_cases hkl : k < l.length
    · obtain ⟨bs, o, rfl⟩ := hs.1.ad (by omega) (by omega)
      have hel : ∀ L, Cells hk L ⟨bs, o + k * 20, none⟩ (sbc l[k]) := fun L => (hs.mono q2).1.elem sbc_len k hkl
      have hxm := List.getElem_mem hkl
      have vx := (hs.2 _ hxm).mono q2
      obtain ⟨r1, r2, _, r4⟩ := rightA_ok (cR _ (List.mem_map_of_mem hxm))
      have fx := fl.2 _ hxm
      have hstep : ((l.map Sb.a).take (k + 1)).flatMap encA = ((l.map Sb.a).take k).flatMap encA ++ encA (l[k].a) := by
        rw [encA_flat _ (by rw [List.length_map]; exact hkl), List.getElem_map]
      have hsl : (((l.map Sb.a).take k).flatMap encA).length + (encA (l[k].a)).length ≤ 900000 := by
        rw [← List.length_append, ← hstep]
        exact Nat.le_trans (flat_le _) hszs
      generalize l[k] = x0 at hel vx r1 r2 r4 fx hstep hsl
      have hx0 := sbc_len x0
      have hone := vx.one
      have hu := x0.hu
      have hal := encA_len x0.a
      have ea : encA x0.a = num8 x0.d.1 ++ num8 x0.d.2 ++ (num4 (encW x0.u x0.l).length ++ encW x0.u x0.l) ++ (num4 x0.b.length ++ x0.b) := rfl
      have hal : (encA x0.a).length = 24 + (encW x0.u x0.l).length + x0.b.length := hal
      have r2 : checkC x0.u x0.l = 0 := r2
      have hd4 := right_of r1
      have hd4 : 1 ≤ x0.d.1 ∧ x0.d.1 ≤ 16 ∧ 1 ≤ x0.d.2 ∧ x0.d.2 ≤ 1099511627776 := hd4
      have W1 := Write_sp (cxv x0.u x0.mv) x0.u x0.l hk ⟨hu, _, rfl, vx.ds⟩ (by omega)
      rw [r2, if_pos rfl] at W1
      repeat' (first | (refine ycf ?_; apply ybk; (· first | (first | exact tk_ | (apply yad; (· rfl); (· exact hel _); (· exact hx0)) | (apply yad; (· rfl); (· exact sb_past (yaz 0 rfl)); (· exact ycj hu)))); (· rfl); (· rfl)) | (refine ybg 0 rfl rfl rfl (sbc_sz x0) (sbc_fit rfl) (sbc_one hone.1 hone.2) (ybh (sbc_all rfl)) rfl rfl ?_ ?_ ?_; (· (exact to_)); (· (exact to_))) | refine t1_ ?_ | (refine ta_ ?_; intro _) | ((fail_if_success (refine ybi rfl ?_)); refine ybj rfl ?_ ?_ <;> (intro ht; rw [ht]; first | replace ht := of_decide_eq_true ht | replace ht := of_decide_eq_false ht | skip)) | (refine ych ?_; first | (refine ybw rfl ?_ ?_ <;> intro ht) | (refine ybx rfl ?_ ?_ <;> intro ht)))
      rename_i b7
      (refine yco (ycp Tryz.func27 rfl (by kernel_rfl) rfl) (W1) rfl rfl rfl ?_ ?_ ?_; (· (exact to_)); (· intro _ _ hle; (exact to_)); intro x px hle)
      obtain ⟨h2, v2⟩ := x
      dsimp only at px
      have hle2 : Le hk h2 := hle
      clear hle
      have pw := px
      obtain ⟨_, ad2, cap2, rfl, _, _⟩ := id pw
      repeat' (first | (refine ycf ?_; apply ybk; (· first | (first | exact tk_ | (apply yad; (· rfl); (· exact hel _); (· exact hx0)) | (apply yad; (· rfl); (· exact sb_past (yaz 0 rfl)); (· exact ycj hu)))); (· rfl); (· rfl)) | (refine ybg 0 rfl rfl rfl (sbc_sz x0) (sbc_fit rfl) (sbc_one hone.1 hone.2) (ybh (sbc_all rfl)) rfl rfl ?_ ?_ ?_; (· (exact to_)); (· (exact to_))) | refine t1_ ?_ | (refine ta_ ?_; intro _) | ((fail_if_success (refine ybi rfl ?_)); refine ybj rfl ?_ ?_ <;> (intro ht; rw [ht]; first | replace ht := of_decide_eq_true ht | replace ht := of_decide_eq_false ht | skip)) | (refine ych ?_; first | (refine ybw rfl ?_ ?_ <;> intro ht) | (refine ybx rfl ?_ ?_ <;> intro ht)))
      refine cx_perm (List.Perm.trans (List.Perm.swap _ _ _) (List.Perm.cons _ (List.Perm.swap _ _ _))) ?_
      refine cx_region_draw [Res.blk b7 (.cells (sbc x0).toArray 46 (0, 0))] rfl (by kernel_rfl) ?_
      repeat' (refine ycf ?_;(first|(first|(apply ybm;(·(first|(apply yae;(·rfl);(·(first|exact sb_cl (yaz 0 rfl)|exact sb_nu (yaz 0 rfl)|exact sb_body (yaz 0 rfl))))|exact tq_));(·rfl);(·rfl);(·(first|exact fun _ s => Hd.sub s (Le.refl h2) (fun r hr => List.mem_cons_of_mem _ (List.mem_cons_of_mem _ (List.mem_append_left [] hr))))))|refine ybl rfl rfl ?_|((fail_if_success (refine ybi rfl ?_));refine ybj rfl ?_ ?_<;>(intro ht;rw [ht];first|replace ht := of_decide_eq_true ht|replace ht := of_decide_eq_false ht|skip))|(refine tb_ ?_ ?_ ?_;(·(first|exact ybf|(refine .inl ?_;(first|exact fun _ s => Hd.sub s (Le.refl h2) (fun r hr => List.mem_cons_of_mem _ (List.mem_cons_of_mem _ (List.mem_append_left [] hr)))))|exact to_));(·intro _;(first|exact ybf|(refine .inl ?_;(first|exact fun _ s => Hd.sub s (Le.refl h2) (fun r hr => List.mem_cons_of_mem _ (List.mem_cons_of_mem _ (List.mem_append_left [] hr)))))|exact to_));intro _)|(first|(refine tqs_ ?_ ?_ ?_;(·(first|exact ybf|(refine .inl ?_;(first|exact fun _ s => Hd.sub s (Le.refl h2) (fun r hr => List.mem_cons_of_mem _ (List.mem_cons_of_mem _ (List.mem_append_left [] hr)))))|exact to_));(·(first|exact ybf|(refine .inl ?_;(first|exact fun _ s => Hd.sub s (Le.refl h2) (fun r hr => List.mem_cons_of_mem _ (List.mem_cons_of_mem _ (List.mem_append_left [] hr)))))|exact to_))))|(apply ybn;(·(first|(apply yae;(·rfl);(·(first|exact sb_cl (yaz 0 rfl)|exact sb_nu (yaz 0 rfl)|exact sb_body (yaz 0 rfl))))|exact tq_));(·rfl);(·rfl);(·rfl);(·(first|exact ybf|(refine .inl ?_;(first|exact fun _ s => Hd.sub s (Le.refl h2) (fun r hr => List.mem_cons_of_mem _ (List.mem_cons_of_mem _ (List.mem_append_left [] hr)))))|exact to_))))|refine ycg ?_))
      (refine rx_call_2 (ycp Tryz.func28 rfl (by kernel_rfl) rfl) (OutNum_sp bo v _ false x0.d.1 (by omega) (by omega) (by omega) h2) rfl rfl rfl ?_ ?_ ?_; (· (first | exact ybf | (refine .inl ?_; (first | exact fun _ s => Hd.sub s (Le.refl h2) (fun r hr => List.mem_cons_of_mem _ (List.mem_cons_of_mem _ (List.mem_append_left [] hr))))) | exact to_)); (· intro _ _ hle; (first | exact ybf | (refine .inl ?_; (first | exact fun _ s => Hd.sub s (Le.refl h2) (fun r hr => List.mem_cons_of_mem _ (List.mem_cons_of_mem _ (List.mem_append_left [] hr))))) | exact to_)); intro x px hle)
      repeat' (refine ycf ?_;(first|(first|(apply ybm;(·(first|(apply yae;(·rfl);(·(first|exact sb_cl (yaz 0 rfl)|exact sb_nu (yaz 0 rfl)|exact sb_body (yaz 0 rfl))))|exact tq_));(·rfl);(·rfl);(·(first|exact fun _ s => Hd.sub s (Le.refl h2) (fun r hr => List.mem_cons_of_mem _ (List.mem_cons_of_mem _ (List.mem_append_left [] hr))))))|refine ybl rfl rfl ?_|((fail_if_success (refine ybi rfl ?_));refine ybj rfl ?_ ?_<;>(intro ht;rw [ht];first|replace ht := of_decide_eq_true ht|replace ht := of_decide_eq_false ht|skip))|(refine tb_ ?_ ?_ ?_;(·(first|exact ybf|(refine .inl ?_;(first|exact fun _ s => Hd.sub s (Le.refl h2) (fun r hr => List.mem_cons_of_mem _ (List.mem_cons_of_mem _ (List.mem_append_left [] hr)))))|exact to_));(·intro _;(first|exact ybf|(refine .inl ?_;(first|exact fun _ s => Hd.sub s (Le.refl h2) (fun r hr => List.mem_cons_of_mem _ (List.mem_cons_of_mem _ (List.mem_append_left [] hr)))))|exact to_));intro _)|(first|(refine tqs_ ?_ ?_ ?_;(·(first|exact ybf|(refine .inl ?_;(first|exact fun _ s => Hd.sub s (Le.refl h2) (fun r hr => List.mem_cons_of_mem _ (List.mem_cons_of_mem _ (List.mem_append_left [] hr)))))|exact to_));(·(first|exact ybf|(refine .inl ?_;(first|exact fun _ s => Hd.sub s (Le.refl h2) (fun r hr => List.mem_cons_of_mem _ (List.mem_cons_of_mem _ (List.mem_append_left [] hr)))))|exact to_))))|(apply ybn;(·(first|(apply yae;(·rfl);(·(first|exact sb_cl (yaz 0 rfl)|exact sb_nu (yaz 0 rfl)|exact sb_body (yaz 0 rfl))))|exact tq_));(·rfl);(·rfl);(·rfl);(·(first|exact ybf|(refine .inl ?_;(first|exact fun _ s => Hd.sub s (Le.refl h2) (fun r hr => List.mem_cons_of_mem _ (List.mem_cons_of_mem _ (List.mem_append_left [] hr)))))|exact to_))))|refine ycg ?_))
      (refine rx_call_2 (ycp Tryz.func28 rfl (by kernel_rfl) rfl) (OutNum_sp bo x _ false x0.d.2 (by omega) (by omega) (by rw [List.length_append, List.length_reverse, putLow_len]; omega) h2) rfl rfl rfl ?_ ?_ ?_; (· (first | exact ybf | (refine .inl ?_; (first | exact fun _ s => Hd.sub s (Le.refl h2) (fun r hr => List.mem_cons_of_mem _ (List.mem_cons_of_mem _ (List.mem_append_left [] hr))))) | exact to_)); (· intro _ _ hle; (first | exact ybf | (refine .inl ?_; (first | exact fun _ s => Hd.sub s (Le.refl h2) (fun r hr => List.mem_cons_of_mem _ (List.mem_cons_of_mem _ (List.mem_append_left [] hr))))) | exact to_)); intro x px hle)
      repeat' (refine ycf ?_;(first|(first|(apply ybm;(·(first|(apply yae;(·rfl);(·(first|exact sb_cl (yaz 0 rfl)|exact sb_nu (yaz 0 rfl)|exact sb_body (yaz 0 rfl))))|exact tq_));(·rfl);(·rfl);(·(first|exact fun _ s => Hd.sub s (Le.refl h2) (fun r hr => List.mem_cons_of_mem _ (List.mem_cons_of_mem _ (List.mem_append_left [] hr))))))|refine ybl rfl rfl ?_|((fail_if_success (refine ybi rfl ?_));refine ybj rfl ?_ ?_<;>(intro ht;rw [ht];first|replace ht := of_decide_eq_true ht|replace ht := of_decide_eq_false ht|skip))|(refine tb_ ?_ ?_ ?_;(·(first|exact ybf|(refine .inl ?_;(first|exact fun _ s => Hd.sub s (Le.refl h2) (fun r hr => List.mem_cons_of_mem _ (List.mem_cons_of_mem _ (List.mem_append_left [] hr)))))|exact to_));(·intro _;(first|exact ybf|(refine .inl ?_;(first|exact fun _ s => Hd.sub s (Le.refl h2) (fun r hr => List.mem_cons_of_mem _ (List.mem_cons_of_mem _ (List.mem_append_left [] hr)))))|exact to_));intro _)|(first|(refine tqs_ ?_ ?_ ?_;(·(first|exact ybf|(refine .inl ?_;(first|exact fun _ s => Hd.sub s (Le.refl h2) (fun r hr => List.mem_cons_of_mem _ (List.mem_cons_of_mem _ (List.mem_append_left [] hr)))))|exact to_));(·(first|exact ybf|(refine .inl ?_;(first|exact fun _ s => Hd.sub s (Le.refl h2) (fun r hr => List.mem_cons_of_mem _ (List.mem_cons_of_mem _ (List.mem_append_left [] hr)))))|exact to_))))|(apply ybn;(·(first|(apply yae;(·rfl);(·(first|exact sb_cl (yaz 0 rfl)|exact sb_nu (yaz 0 rfl)|exact sb_body (yaz 0 rfl))))|exact tq_));(·rfl);(·rfl);(·rfl);(·(first|exact ybf|(refine .inl ?_;(first|exact fun _ s => Hd.sub s (Le.refl h2) (fun r hr => List.mem_cons_of_mem _ (List.mem_cons_of_mem _ (List.mem_append_left [] hr)))))|exact to_))))|refine ycg ?_))
      (refine rx_call_2 (ycp Tryz.func29 rfl (by kernel_rfl) rfl) (OutBytes_sp bo x _ false _ (encW x0.u x0.l) (by simp only [List.length_append, List.length_reverse, putLow_len]; rw [List.length_append, num1_len] at hpl; rw [num1_len]; omega) h2 pw) rfl rfl rfl ?_ ?_ ?_; (· (first | exact ybf | (refine .inl ?_; (first | exact fun _ s => Hd.sub s (Le.refl h2) (fun r hr => List.mem_cons_of_mem _ (List.mem_cons_of_mem _ (List.mem_append_left [] hr))))) | exact to_)); (· intro _ _ hle; (first | exact ybf | (refine .inl ?_; (first | exact fun _ s => Hd.sub s (Le.refl h2) (fun r hr => List.mem_cons_of_mem _ (List.mem_cons_of_mem _ (List.mem_append_left [] hr))))) | exact to_)); intro x px hle)
      repeat' (refine ycf ?_;(first|(first|(apply ybm;(·(first|(apply yae;(·rfl);(·(first|exact sb_cl (yaz 0 rfl)|exact sb_nu (yaz 0 rfl)|exact sb_body (yaz 0 rfl))))|exact tq_));(·rfl);(·rfl);(·(first|exact fun _ s => Hd.sub s (Le.refl h2) (fun r hr => List.mem_cons_of_mem _ (List.mem_cons_of_mem _ (List.mem_append_left [] hr))))))|refine ybl rfl rfl ?_|((fail_if_success (refine ybi rfl ?_));refine ybj rfl ?_ ?_<;>(intro ht;rw [ht];first|replace ht := of_decide_eq_true ht|replace ht := of_decide_eq_false ht|skip))|(refine tb_ ?_ ?_ ?_;(·(first|exact ybf|(refine .inl ?_;(first|exact fun _ s => Hd.sub s (Le.refl h2) (fun r hr => List.mem_cons_of_mem _ (List.mem_cons_of_mem _ (List.mem_append_left [] hr)))))|exact to_));(·intro _;(first|exact ybf|(refine .inl ?_;(first|exact fun _ s => Hd.sub s (Le.refl h2) (fun r hr => List.mem_cons_of_mem _ (List.mem_cons_of_mem _ (List.mem_append_left [] hr)))))|exact to_));intro _)|(first|(refine tqs_ ?_ ?_ ?_;(·(first|exact ybf|(refine .inl ?_;(first|exact fun _ s => Hd.sub s (Le.refl h2) (fun r hr => List.mem_cons_of_mem _ (List.mem_cons_of_mem _ (List.mem_append_left [] hr)))))|exact to_));(·(first|exact ybf|(refine .inl ?_;(first|exact fun _ s => Hd.sub s (Le.refl h2) (fun r hr => List.mem_cons_of_mem _ (List.mem_cons_of_mem _ (List.mem_append_left [] hr)))))|exact to_))))|(apply ybn;(·(first|(apply yae;(·rfl);(·(first|exact sb_cl (yaz 0 rfl)|exact sb_nu (yaz 0 rfl)|exact sb_body (yaz 0 rfl))))|exact tq_));(·rfl);(·rfl);(·rfl);(·(first|exact ybf|(refine .inl ?_;(first|exact fun _ s => Hd.sub s (Le.refl h2) (fun r hr => List.mem_cons_of_mem _ (List.mem_cons_of_mem _ (List.mem_append_left [] hr)))))|exact to_))))|refine ycg ?_))
      (refine rx_call_2 (ycp Tryz.func29 rfl (by kernel_rfl) rfl) (OutBytes_sp bo x _ false x0.bv x0.b (by simp only [List.length_append, List.length_reverse, putLow_len, num4_len];rw [List.length_append, num1_len] at hpl;rw [num1_len];omega) h2 (vx.bs.mono hle2)) rfl rfl rfl ?_ ?_ ?_;(·(first|exact ybf|(refine .inl ?_;(first|exact fun _ s => Hd.sub s (Le.refl h2) (fun r hr => List.mem_cons_of_mem _ (List.mem_cons_of_mem _ (List.mem_append_left [] hr)))))|exact to_));(·intro _ _ hle;(first|exact ybf|(refine .inl ?_;(first|exact fun _ s => Hd.sub s (Le.refl h2) (fun r hr => List.mem_cons_of_mem _ (List.mem_cons_of_mem _ (List.mem_append_left [] hr)))))|exact to_));intro x px hle)
      repeat' (refine ycf ?_;(first|(first|(apply ybm;(·(first|(apply yae;(·rfl);(·(first|exact sb_cl (yaz 0 rfl)|exact sb_nu (yaz 0 rfl)|exact sb_body (yaz 0 rfl))))|exact tq_));(·rfl);(·rfl);(·(first|exact fun _ s => Hd.sub s (Le.refl h2) (fun r hr => List.mem_cons_of_mem _ (List.mem_cons_of_mem _ (List.mem_append_left [] hr))))))|refine ybl rfl rfl ?_|((fail_if_success (refine ybi rfl ?_));refine ybj rfl ?_ ?_<;>(intro ht;rw [ht];first|replace ht := of_decide_eq_true ht|replace ht := of_decide_eq_false ht|skip))|(refine tb_ ?_ ?_ ?_;(·(first|exact ybf|(refine .inl ?_;(first|exact fun _ s => Hd.sub s (Le.refl h2) (fun r hr => List.mem_cons_of_mem _ (List.mem_cons_of_mem _ (List.mem_append_left [] hr)))))|exact to_));(·intro _;(first|exact ybf|(refine .inl ?_;(first|exact fun _ s => Hd.sub s (Le.refl h2) (fun r hr => List.mem_cons_of_mem _ (List.mem_cons_of_mem _ (List.mem_append_left [] hr)))))|exact to_));intro _)|(first|(refine tqs_ ?_ ?_ ?_;(·(first|exact ybf|(refine .inl ?_;(first|exact fun _ s => Hd.sub s (Le.refl h2) (fun r hr => List.mem_cons_of_mem _ (List.mem_cons_of_mem _ (List.mem_append_left [] hr)))))|exact to_));(·(first|exact ybf|(refine .inl ?_;(first|exact fun _ s => Hd.sub s (Le.refl h2) (fun r hr => List.mem_cons_of_mem _ (List.mem_cons_of_mem _ (List.mem_append_left [] hr)))))|exact to_))))|(apply ybn;(·(first|(apply yae;(·rfl);(·(first|exact sb_cl (yaz 0 rfl)|exact sb_nu (yaz 0 rfl)|exact sb_body (yaz 0 rfl))))|exact tq_));(·rfl);(·rfl);(·rfl);(·(first|exact ybf|(refine .inl ?_;(first|exact fun _ s => Hd.sub s (Le.refl h2) (fun r hr => List.mem_cons_of_mem _ (List.mem_cons_of_mem _ (List.mem_append_left [] hr)))))|exact to_))))|refine ycg ?_))
      repeat' (first | (refine ycf ?_; apply ybk; (· first | (exact tk_)); (· rfl); (· rfl)) | refine t1_ ?_ | (refine ta_ ?_; intro _) | ((fail_if_success (refine ybi rfl ?_)); refine ybj rfl ?_ ?_ <;> (intro ht; rw [ht]; first | replace ht := of_decide_eq_true ht | replace ht := of_decide_eq_false ht | skip)) | (refine ych ?_; first | (refine ybw rfl ?_ ?_ <;> intro ht) | (refine ybx rfl ?_ ?_ <;> intro ht)))
      refine nx_round (k + 1, h2, x) ⟨by show k + 1 ≤ _; omega, q2.trans hle2⟩ (by show l.length - (k + 1) < l.length - k; omega) ts_ (fun _ s => ?_)
      dsimp only
      rw [hstep, ea]
      have e : num1 (l.length : Int) ++ (((l.map Sb.a).take k).flatMap encA ++ (num8 x0.d.1 ++ num8 x0.d.2 ++ (num4 (encW x0.u x0.l).length ++ encW x0.u x0.l) ++ (num4 x0.b.length ++ x0.b))) =
          num1 (l.length : Int) ++ ((l.map Sb.a).take k).flatMap encA ++ (putLow 8 x0.d.1).reverse ++ (putLow 8 x0.d.2).reverse ++ num4 (encW x0.u x0.l).length ++ encW x0.u x0.l ++ num4 x0.b.length ++ x0.b := by
        simp only [num8, List.append_assoc]
      rw [e]
      have s2 : St _ h2 [Res.blk b7 _, outR bo x false, rowB x _] _ := s.perm (List.perm_append_comm (l₁ := [_, _]) (l₂ := [_]))
      exact s2.tl
    · have ek : k = l.length := by omega
      subst ek
      repeat' (first | (refine ycf ?_; apply ybk; (· first | (exact tk_)); (· rfl); (· rfl)) | refine t1_ ?_ | (refine ta_ ?_; intro _) | ((fail_if_success (refine ybi rfl ?_)); refine ybj rfl ?_ ?_ <;> (intro ht; rw [ht]; first | replace ht := of_decide_eq_true ht | replace ht := of_decide_eq_false ht | skip)) | (refine ych ?_; first | (refine ybw rfl ?_ ?_ <;> intro ht) | (refine ybx rfl ?_ ?_ <;> intro ht)))
      (refine rx_call_2 (ycp Tryz.func30 rfl (by kernel_rfl) rfl) (Done_sp bo v _ (by omega) hk) rfl rfl rfl ?_ ?_ ?_; (· (first | exact ybf | (refine .inl ?_; (first | exact fun _ s => Hd.sub s (Le.refl h2) (fun r hr => List.mem_cons_of_mem _ (List.mem_cons_of_mem _ (List.mem_append_left [] hr))))) | exact to_)); (· intro _ _ hle; (first | exact ybf | (refine .inl ?_; (first | exact fun _ s => Hd.sub s (Le.refl h2) (fun r hr => List.mem_cons_of_mem _ (List.mem_cons_of_mem _ (List.mem_append_left [] hr))))) | exact to_)); intro x px hle)
      refine rx_persist rfl fun h3 hle3 hsv => ?_
      obtain ⟨_, adx, capx, hx, _, _⟩ := id hsv
      subst hx
      repeat' (first | (refine ycf ?_; apply ybk; (· first | (exact tk_)); (· rfl); (· rfl)) | refine t1_ ?_ | (refine ta_ ?_; intro _) | ((fail_if_success (refine ybi rfl ?_)); refine ybj rfl ?_ ?_ <;> (intro ht; rw [ht]; first | replace ht := of_decide_eq_true ht | replace ht := of_decide_eq_false ht | skip)) | (refine ych ?_; first | (refine ybw rfl ?_ ?_ <;> intro ht) | (refine ybx rfl ?_ ?_ <;> intro ht)))
      refine nx_ret2 rfl (rv_tmp rfl) (rv_tmp rfl) (fun w' s' => ⟨(h3, _), rfl, s'.nil, ?_⟩)
      rw [if_pos rfl]
      have e : encS (l.map Sb.a) = num1 l.length ++ ((l.map Sb.a).take l.length).flatMap encA := by
        unfold encS
        rw [List.length_map, List.take_of_length_le (by rw [List.length_map]; exact Nat.le_refl _)]
      rw [e]
      exact hsv
  · rw [if_neg hk0]
    generalize checkA (l.map Sb.a) = cz at hk0 ⊢
    repeat' (first | (refine ycf ?_; apply ybk; (· first | (exact tk_)); (· rfl); (· rfl)) | refine t1_ ?_ | (refine ta_ ?_; intro _) | ((fail_if_success (refine ybi rfl ?_)); refine ybj rfl ?_ ?_ <;> (intro ht; rw [ht]; first | replace ht := of_decide_eq_true ht | replace ht := of_decide_eq_false ht | skip)) | (refine ych ?_; first | (refine ybw rfl ?_ ?_ <;> intro ht) | (refine ybx rfl ?_ ?_ <;> intro ht)))
    exact nx_ret2 rfl (rv_tmp rfl) (rv_tmp rfl) (fun w' s' => ⟨(h, .slice none 0 0), rfl, s'.nil, Sc.nil h 1 none 0⟩)
end Go.Proofs.YtkkjppeaaicgaaaGreat
end

section
namespace Go.Proofs.YtkkjppeaaicgaaaGreat
open Go Go.Ck
set_option maxRecDepth 100000
set_option maxHeartbeats 1000000
set_option linter.unusedVariables false

def insA (x : Ab) : List Ab → List Ab
  | [] => [x]
  | y :: l => if ordD x.1 y.1 < 0 then x :: y :: l else y :: insA x l
def sortA (l : List Ab) : List Ab := l.foldr insA []
theorem mem_insA {x z : Ab} : ∀ {l : List Ab}, z ∈ insA x l ↔ z = x ∨ z ∈ l
  | [] => by simp [insA]
  | y :: l => by
    unfold insA
    split
    · simp
    · rw [List.mem_cons, mem_insA, List.mem_cons]
      constructor <;> (rintro (h | h | h) <;> simp [h])
theorem strict_insA {x : Ab} : ∀ {l : List Ab}, StrictA l → (∀ y ∈ l, y.1 ≠ x.1) → StrictA (insA x l)
  | [], _, _ => List.pairwise_singleton ..
  | y :: l, h, hn => by
    have h1 := List.pairwise_cons.1 h
    unfold insA
    split
    · rename_i hxy
      refine List.pairwise_cons.2 ⟨fun z hz => ?_, h⟩
      rcases List.mem_cons.1 hz with rfl | hz
      · exact hxy
      · exact ord_tr hxy (h1.1 z hz)
    · rename_i hxy
      have hyx : ordD y.1 x.1 < 0 := ord_lt_of (ord_le.2 hxy) (hn y (List.mem_cons_self ..))
      refine List.pairwise_cons.2 ⟨fun z hz => ?_, strict_insA h1.2 (fun z hz => hn z (List.mem_cons_of_mem _ hz))⟩
      rcases mem_insA.1 hz with rfl | hz
      · exact hyx
      · exact h1.1 z hz
theorem mem_sortA {z : Ab} : ∀ {l : List Ab}, z ∈ sortA l ↔ z ∈ l
  | [] => Iff.rfl
  | y :: l => by
    show z ∈ insA y (sortA l) ↔ _
    rw [mem_insA, mem_sortA, List.mem_cons]
theorem strict_sortA : ∀ {l : List Ab}, (l.map (·.1)).Nodup → StrictA (sortA l)
  | [], _ => List.Pairwise.nil
  | y :: l, h => by
    have h1 := List.nodup_cons.1 h
    refine strict_insA (strict_sortA h1.2) fun z hz e => h1.1 ?_
    have hm := List.mem_map_of_mem (f := fun x : Ab => x.1) (mem_sortA.1 hz)
    show y.1 ∈ l.map fun x : Ab => x.1
    rw [← e]
    exact hm
theorem strict_dots {l : List Ab} (h : StrictA l) : (l.map (·.1)).Nodup := by
  show List.Pairwise _ _
  rw [List.pairwise_map]
  exact List.Pairwise.imp (fun {a b} hab => ord_ne hab) h

def candA (A B : List Ab) : List Ab := (A ++ B.filter fun x => !(A.any fun y => decide (y.1 = x.1))).filter (freeS A B)
theorem mem_cand {A B : List Ab} {x : Ab} : x ∈ candA A B ↔ InM A B x := by
  unfold candA InM
  rw [List.mem_filter, List.mem_append, List.mem_filter]
  simp
theorem cand_dots {A B : List Ab} (ha : StrictA A) (hb : StrictA B) : ((candA A B).map (·.1)).Nodup := by
  unfold candA
  refine List.Nodup.sublist (List.Sublist.map _ List.filter_sublist) ?_
  rw [List.map_append, List.nodup_append]
  refine ⟨strict_dots ha, List.Nodup.sublist (List.Sublist.map _ List.filter_sublist) (strict_dots hb), fun x hx y hy e => ?_⟩
  obtain ⟨a, ha', rfl⟩ := List.mem_map.1 hx
  obtain ⟨b, hb', rfl⟩ := List.mem_map.1 hy
  have := (List.mem_filter.1 hb').2
  simp only [Bool.not_eq_true', List.any_eq_false, decide_eq_true_eq] at this
  exact this a ha' e
def mergeF (A B : List Ab) : List Ab × Int :=
  if checkA A ≠ 0 then ([], checkA A) else if checkA B ≠ 0 then ([], checkA B) else if 64 < (sortA (candA A B)).length then ([], 5) else (sortA (candA A B), 0)
theorem mergeF_uniq {A B L : List Ab} (ca : checkA A = 0) (cb : checkA B = 0) (h1 : StrictA L) (h2 : ∀ x, x ∈ L ↔ InM A B x) : mergeF A B = if 64 < L.length then ([], 5) else (L, 0) := by
  have e : sortA (candA A B) = L := strict_ext (strict_sortA (cand_dots (checkA_strict ca) (checkA_strict cb))) h1 fun x => by rw [mem_sortA, mem_cand, h2 x]
  unfold mergeF
  rw [if_neg (by rw [ca]; decide), if_neg (by rw [cb]; decide), e]
theorem merge_fun {a b : List Sb} {M : List Ab} {e : Int} (h : MergeR a b M e) : mergeF (a.map Sb.a) (b.map Sb.a) = (M, e) := by
  by_cases ca : checkA (a.map Sb.a) = 0
  · by_cases cb : checkA (b.map Sb.a) = 0
    · obtain ⟨L, h1, h2, h3⟩ := merge_law h ca cb
      rw [mergeF_uniq ca cb h1 h2]
      split
      · rename_i hl
        rw [if_pos hl] at h3
        rw [h3.1, h3.2]
      · rename_i hl
        rw [if_neg hl] at h3
        rw [h3.1, h3.2]
    · unfold MergeR at h
      rw [if_neg (by rw [ca]; decide), if_pos cb] at h
      unfold mergeF
      rw [if_neg (by rw [ca]; decide), if_pos cb, h.1, h.2]
  · unfold MergeR at h
    rw [if_pos ca] at h
    unfold mergeF
    rw [if_pos ca, h.1, h.2]
theorem mergeF_mem {A B : List Ab} (h : (mergeF A B).2 = 0) : checkA A = 0 ∧ checkA B = 0 ∧ StrictA (mergeF A B).1 ∧ ∀ x, x ∈ (mergeF A B).1 ↔ InM A B x := by
  unfold mergeF at h ⊢
  by_cases ca : checkA A = 0
  · rw [if_neg (by rw [ca]; decide)] at h ⊢
    by_cases cb : checkA B = 0
    · rw [if_neg (by rw [cb]; decide)] at h ⊢
      split at h
      · exact absurd h (by decide)
      · rename_i hl
        rw [if_neg hl]
        exact ⟨ca, cb, strict_sortA (cand_dots (checkA_strict ca) (checkA_strict cb)), fun x => by show x ∈ sortA _ ↔ _; rw [mem_sortA, mem_cand]⟩
    · rw [if_pos cb] at h
      exact absurd h cb
  · rw [if_pos ca] at h
    exact absurd h ca
theorem mergeF_set {A B : List Ab} (h : (mergeF A B).2 = 0) : checkA (mergeF A B).1 = 0 := by
  obtain ⟨ca, cb, h1, h2⟩ := mergeF_mem h
  have hl : (mergeF A B).1.length ≤ 64 := by
    unfold mergeF at h ⊢
    rw [if_neg (by rw [ca]; decide), if_neg (by rw [cb]; decide)] at h ⊢
    split at h
    · exact absurd h (by decide)
    · rename_i hl
      rw [if_neg hl]
      show (sortA _).length ≤ 64
      omega
  refine checkA_mk hl (fun x hx => ?_) h1 fun x hx y hy => ?_
  · rcases ((h2 x).1 hx).1 with h | h
    · exact (checkA_ok ca).2.1 x h
    · exact (checkA_ok cb).2.1 x h.1
  · have hf := free_iff.1 ((h2 x).1 hx).2
    rcases ((h2 y).1 hy).1 with h | h
    · exact hf.1 y h
    · exact hf.2 y h.1
theorem mergeF_nil {B : List Ab} (cb : checkA B = 0) : mergeF [] B = (B, 0) := by
  obtain ⟨c1, c2, c3, c4⟩ := checkA_ok cb
  rw [mergeF_uniq (by kernel_rfl) cb (checkA_strict cb) (fun x => ?_), if_neg (by omega)]
  unfold InM
  rw [free_iff]
  exact ⟨fun h => ⟨.inr ⟨h, fun y hy => (by cases hy)⟩, fun y hy => (by cases hy), fun y hy => c4 x h y hy⟩, fun h => h.1.elim (fun h => by cases h) (·.1)⟩
theorem mergeF_self {A : List Ab} (ca : checkA A = 0) : mergeF A A = (A, 0) := by
  obtain ⟨c1, c2, c3, c4⟩ := checkA_ok ca
  rw [mergeF_uniq ca ca (checkA_strict ca) (fun x => ?_), if_neg (by omega)]
  unfold InM
  rw [free_iff]
  exact ⟨fun h => ⟨.inl h, fun y hy => c4 x h y hy, fun y hy => c4 x h y hy⟩, fun h => h.1.elim id (·.1)⟩
/-- what all come to -/
def wholeF : List Ab → List (List Ab) → List Ab × Int
  | o, [] => (o, 0)
  | o, B :: r => if (mergeF o B).2 = 0 then wholeF (mergeF o B).1 r else ([], (mergeF o B).2)
theorem wholeF_set : ∀ {r : List (List Ab)} {o : List Ab}, checkA o = 0 → (wholeF o r).2 = 0 → checkA (wholeF o r).1 = 0
  | [], o, h, _ => h
  | B :: r, o, h, he => by
    unfold wholeF at he ⊢
    split at he
    · rename_i hm
      rw [if_pos hm]
      exact wholeF_set (mergeF_set hm) he
    · rename_i hm
      exact absurd he hm
/-- all alike: that -/
theorem wholeF_like {W : List Ab} (cw : checkA W = 0) : ∀ {r : List (List Ab)}, (∀ B ∈ r, B = W) → wholeF W r = (W, 0)
  | [], _ => rfl
  | B :: r, h => by
    have hB := h B (List.mem_cons_self ..)
    subst hB
    unfold wholeF
    rw [mergeF_self cw]
    exact wholeF_like cw fun C hC => h C (List.mem_cons_of_mem _ hC)
theorem wholeF_all {W : List Ab} (cw : checkA W = 0) {r : List (List Ab)} (h : ∀ B ∈ r, B = W) (h0 : r = [] → W = []) : wholeF [] r = (W, 0) := by
  cases r with
  | nil => rw [h0 rfl]; rfl
  | cons B r =>
    have hB := h B (List.mem_cons_self ..)
    subst hB
    unfold wholeF
    rw [mergeF_nil cw]
    exact wholeF_like cw fun C hC => h C (List.mem_cons_of_mem _ hC)
theorem wholeF_err : ∀ {r : List (List Ab)} {o : List Ab}, (wholeF o r).2 ≠ 0 → (wholeF o r).1 = []
  | [], o, h => absurd rfl h
  | B :: r, o, h => by
    unfold wholeF at h ⊢
    split at h
    · rename_i hm
      rw [if_pos hm]
      exact wholeF_err h
    · rename_i hm
      rw [if_neg hm]

theorem smergeF_sp (va vb : Value) (a b : List Sb) (h : View) (ha : Ss h va a) (hb : Ss h vb b) (fa : Fits a) (fb : Fits b) (w : World) (s : St ⟨w, h, []⟩ h [] w) :
    Calls Tryz.prog 48 [va, vb].toArray w fun e w' => ∃ z : View × Value × List Sb, e = .returned (.tuple #[z.2.1, .int .i64 (mergeF (a.map Sb.a) (b.map Sb.a)).2]) ∧ St ⟨w, h, []⟩ z.1 [] w' ∧ Ss z.1 z.2.1 z.2.2 ∧ z.2.2.map Sb.a = (mergeF (a.map Sb.a) (b.map Sb.a)).1 :=
  (smerge_sp va vb a b h ha hb fa fb w s).mono fun e w' ⟨z, h1, h2, h3, h4⟩ => ⟨(z.1, z.2.1, z.2.2.1), by rw [merge_fun h4]; exact h1, h2, h3, by rw [merge_fun h4]⟩
end Go.Proofs.YtkkjppeaaicgaaaGreat
end

section
namespace Go.Proofs.YtkkjppeaaicgaaaGreat
open Go Go.Ck
set_option maxRecDepth 100000
set_option maxHeartbeats 2000000
set_option linter.unusedVariables false

theorem bstr_list (l : List Int) : (bstr l).toList = l.map fun n => UInt8.ofNat n.toNat := by
  rw [ByteArray.toList_eq]
  simp [bstr]
theorem bstr_eq {a b : List Int} (ha : Bytes a) (hb : Bytes b) : ((bstr a).toList == (bstr b).toList) = decide (a = b) := by
  rw [bstr_list, bstr_list]
  rw [Bool.eq_iff_iff, decide_eq_true_iff, beq_iff_eq]
  refine ⟨fun h => ?_, fun h => by rw [h]⟩
  have h1 := congrArg (List.map fun x : UInt8 => (x.toNat : Int)) h
  have h2 : ∀ l : List Int, Bytes l → List.map (fun x : UInt8 => (x.toNat : Int)) (l.map fun n => UInt8.ofNat n.toNat) = l := fun l hl => by
    rw [List.map_map]
    have : l.map ((fun x : UInt8 => (x.toNat : Int)) ∘ fun n : Int => UInt8.ofNat n.toNat) = l.map id := List.map_congr_left fun x hx => by
      have := hl x hx
      simp
      omega
    rw [this, List.map_id]
  rwa [h2 a ha, h2 b hb] at h1
theorem map_ne_len {a b : List Sb} (h : a.length ≠ b.length) : a.map Sb.a ≠ b.map Sb.a := fun e => h (by simpa using congrArg List.length e)
end Go.Proofs.YtkkjppeaaicgaaaGreat
end
