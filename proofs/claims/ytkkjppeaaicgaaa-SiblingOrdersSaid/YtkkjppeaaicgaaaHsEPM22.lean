/-
  Part 22 of a proof: HsE.
  Conditions: each theorem states its own.
-/
import Derived.Test.YtkkjppeaaicgaaaHsEPM21
section
namespace Go.Proofs.Ytkkjppeaaicgaaa
open Go Go.Ck
set_option maxRecDepth 100000
set_option maxHeartbeats 4000000
set_option linter.unusedVariables false

theorem hist_fits {A : List Sb} (h : Hist (A.map Sb.a)) : Fits A := by
  refine ⟨by have := h.len; rw [List.length_map] at this; omega, fun x hx => ?_⟩
  obtain ⟨_, h2, _, h4⟩ := rightA_ok (h.rt x.a (List.mem_map_of_mem hx))
  have h5 : x.l.length ≤ 32 := (check_right h2).2.1
  exact ⟨by omega, by have : x.b.length ≤ 16384 := h4; omega⟩
theorem u64_nat {n : Nat} (h : n ≤ 1000) : IntKind.u64.wrap (n : Int) = (n : Int) := by
  simp only [IntKind.wrap, IntKind.bits, IntKind.signed]
  simp
  omega
theorem one_row {h : View} {b : Nat} {x : Sb} (s : Sc h 20 (.slice (some ⟨b, 0, none⟩) 1 1) 1 ((sbc x).take (1 * 20))) (hx : Rv h x) : Rs h (.slice (some ⟨b, 0, none⟩) 1 1) [x] := by
  refine ⟨?_, fun y hy => by rw [List.mem_singleton.1 hy]; exact hx⟩
  rw [show [x].flatMap sbc = sbc x by simp]
  have hl := sbc_len x
  have e : (sbc x).take (1 * 20) = sbc x := List.take_of_length_le (by omega)
  rwa [e] at s

theorem to_max {v : Value} {a : List Sb} {h : View} {S D : List Ab} (ha : Rs h v a) (H : Hist S) (hD : ∀ x ∈ D, x ∈ S) (m : IsMax D (a.map Sb.a)) (w : World) (s : St ⟨w, h, []⟩ h [] w) :
    Calls Try.prog 10 [v].toArray w fun e w' => ∃ z : View × Value × List Sb, e = .returned z.2.1 ∧ St ⟨w, h, []⟩ z.1 [] w' ∧ Ss z.1 z.2.1 z.2.2 ∧ IsMax D (z.2.2.map Sb.a) := by
  refine (sto_sp v a h ha (fits_ck (m.set H hD)) w s).mono ?_
  rintro e w' ⟨z, h1, h2, h3, h4⟩
  exact ⟨z, h1, h2, h3, by rw [h4]; exact m⟩
theorem merge_max {va vb : Value} {a b : List Sb} {h : View} {S D E : List Ab} (ha : Ss h va a) (hb : Ss h vb b) (H : Hist S) (hD : ∀ x ∈ D, x ∈ S) (hE : ∀ x ∈ E, x ∈ S) (m : IsMax D (a.map Sb.a)) (n : IsMax E (b.map Sb.a)) (w : World) (s : St ⟨w, h, []⟩ h [] w) :
    Calls Try.prog 26 [va, vb].toArray w fun e w' => ∃ z : View × Value × List Sb, e = .returned (.tuple #[z.2.1, .int .i64 0]) ∧ St ⟨w, h, []⟩ z.1 [] w' ∧ Ss z.1 z.2.1 z.2.2 ∧ IsMax (D ++ E) (z.2.2.map Sb.a) := by
  obtain ⟨q1, q2⟩ := m.merge H hD hE n
  refine (smergeF_sp va vb a b h ha hb (fits_ck (m.set H hD)) (fits_ck (n.set H hE)) w s).mono ?_
  rintro e w' ⟨z, h1, h2, h3, h4⟩
  rw [q1] at h1
  exact ⟨z, h1, h2, h3, by rw [h4]; exact q2⟩
theorem sub_app {S D E : List Ab} (hD : ∀ x ∈ D, x ∈ S) (hE : ∀ x ∈ E, x ∈ S) : ∀ x ∈ D ++ E, x ∈ S := fun x hx => (List.mem_append.1 hx).elim (hD x) (hE x)
theorem SiblingOrders_sp (rv ov : Value) (row : List Tn) (ol : List Int) (h : View) (hs : Sc h 5 rv row.length (row.flatMap tnc)) (ho : Sc h 1 ov ol.length (up ol)) (hl : row.length ≤ 9223372036854775807) (hol : ol.length ≤ 9223372036854775807) (w : World) (s : St ⟨w, h, []⟩ h [] w) :
    Calls Try.prog 7 [rv, ov].toArray w fun e w' => ∃ h', e = .returned (.bool true) ∧ St ⟨w, h, []⟩ h' [] w' := by
  obtain ⟨_, ado, capo, rfl, _, _⟩ := id ho
  refine calls_enter Try.func7 rfl Try.ntmps7 rfl s ?_
  repeat' (first | refine tw_ ?_ | (refine ta_ ?_; intro _) | ((fail_if_success (refine ybi rfl ?_)); refine ybj rfl ?_ ?_ <;> (intro ht; rw [ht]; first | replace ht := of_decide_eq_true ht | replace ht := of_decide_eq_false ht | skip)) | (refine ych ?_; first | (refine ybw rfl ?_ ?_ <;> intro ht) | (refine ybx rfl ?_ ?_ <;> intro ht)))
  (refine yco (ycp Try.func29 rfl (by kernel_rfl) rfl) (history_sp rv row h hs hl) rfl rfl rfl ?_ ?_ ?_; (· (exact to_)); (· intro _ _ hle; (exact to_)); intro x px hle)
  obtain ⟨h1, ⟨va, A⟩, zs⟩ := x
  obtain ⟨hA, hZ, lA, H, P⟩ := px
  dsimp only at hA hZ lA H P
  have hle1 : Le h h1 := hle
  clear hle
  have hz4 : zs.length = 4 := by have := P.len; simpa [za] using this
  have fA := hist_fits H
  obtain ⟨_, ada, capa, hva, _, _⟩ := id hA.1
  subst hva
  repeat' (first | (refine ybg 0 rfl rfl rfl (zc_sz hz4) (zc_fit4 hz4) (zc_one hZ) (ybh (zc_all hz4)) rfl rfl ?_ ?_ ?_; (· (exact to_)); (· (exact to_))) | refine t1_ ?_ | (refine ta_ ?_; intro _) | ((fail_if_success (refine ybi rfl ?_)); refine ybj rfl ?_ ?_ <;> (intro ht; rw [ht]; first | replace ht := of_decide_eq_true ht | replace ht := of_decide_eq_false ht | skip)) | (refine ych ?_; first | (refine ybw rfl ?_ ?_ <;> intro ht) | (refine ybx rfl ?_ ?_ <;> intro ht)))
  rename_i b6
  (refine ycn (ycp Try.func11 rfl (by kernel_rfl) rfl) (sets_sp h1) rfl rfl rfl ?_ ?_; (· (exact to_)))
  repeat' (first | refine tw_ ?_ | (refine ta_ ?_; intro _) | ((fail_if_success (refine ybi rfl ?_)); refine ybj rfl ?_ ?_ <;> (intro ht; rw [ht]; first | replace ht := of_decide_eq_true ht | replace ht := of_decide_eq_false ht | skip)) | (refine ych ?_; first | (refine ybw rfl ?_ ?_ <;> intro ht) | (refine ybx rfl ?_ ?_ <;> intro ht)))
  refine cx_loop (X := Nat × View × Value × List Sb) (fun y => [(1, .slice ado ol.length capo), (5, .slice ada A.length capa), (6, .pointer (some ⟨b6, 0, none⟩)), (7, y.2.2.1), (8, .int .i64 (y.1 : Nat))]) (fun y => y.2.1)
    (fun y => [Res.blk b6 (.cells (zc zs).toArray 65 (0, 0))])
    (fun y => y.1 ≤ A.length ∧ Le h1 y.2.1 ∧ Rs y.2.1 y.2.2.1 y.2.2.2 ∧ IsMax (topS (A.map Sb.a) y.1) (y.2.2.2.map Sb.a)) (fun y => A.length - y.1) (0, h1, .slice none 0 0, [])
    ⟨Nat.zero_le _, Le.refl _, ⟨Sc.nil h1 20 none 0, fun x hx => by cases hx⟩, IsMax.nil⟩ ts_ (fun _ s => s) ?_
  rintro ⟨i, hk, vw, W⟩ ⟨p1, p2, p3, p4⟩
  dsimp only at p1 p2 p3 p4 ⊢
  have hAk := hA.mono p2
  by_cases hil : i < A.length
  · obtain ⟨bs, o, rfl⟩ := hA.1.ad (by omega) (by omega)
    have hel : ∀ L, Cells hk L ⟨bs, o + i * 20, none⟩ (sbc A[i]) := fun L => hAk.1.elem sbc_len i hil
    have hxm := List.getElem_mem hil
    have hxv := hAk.2 _ hxm
    have hxr : rightB A[i].d = true := (rightA_ok (H.rt _ (List.mem_map_of_mem hxm))).1
    have hxi : (A.map Sb.a)[i]? = some A[i].a := by rw [List.getElem?_map, List.getElem?_eq_getElem hil]; rfl
    have fx := fA.2 _ hxm
    generalize A[i] = x0 at hel hxm hxv hxr hxi fx
    have hxl := sbc_len x0
    have hxo := hxv.one
    repeat' (first | (refine ycf ?_; apply ybk; (· first | (exact tk_)); (· rfl); (· rfl)) | refine t1_ ?_ | (refine ta_ ?_; intro _) | ((fail_if_success (refine ybi rfl ?_)); refine ybj rfl ?_ ?_ <;> (intro ht; rw [ht]; first | replace ht := of_decide_eq_true ht | replace ht := of_decide_eq_false ht | skip)) | (refine ych ?_; first | (refine ybw rfl ?_ ?_ <;> intro ht) | (refine ybx rfl ?_ ?_ <;> intro ht)))
    refine cx_loop (X := Nat × Bool) (fun y => [(1, .slice ado ol.length capo), (5, .slice (some ⟨bs, o, none⟩) A.length capa), (6, .pointer (some ⟨b6, 0, none⟩)), (7, vw), (8, .int .i64 (i : Nat)), (9, .bool y.2), (10, .int .i64 (y.1 : Nat))]) (fun _ => hk)
      (fun y => [Res.blk b6 (.cells (zc zs).toArray 65 (0, 0))])
      (fun y => y.1 ≤ A.length ∧ y.2 = ((A.take y.1).any fun z => hasA z.a x0.d)) (fun y => A.length - y.1) (0, false) ⟨Nat.zero_le _, rfl⟩ ts_ (fun _ s => s) ?_
    rintro ⟨k, sn⟩ ⟨q1, q2⟩
    dsimp only at q1 q2 ⊢
    by_cases hkl : k < A.length
    · have hel2 : ∀ L, Cells hk L ⟨bs, o + k * 20, none⟩ (sbc A[k]) := fun L => hAk.1.elem sbc_len k hkl
      have hym := List.getElem_mem hkl
      have hyv := hAk.2 _ hym
      have hA1 := hasA_of (H.rt _ (List.mem_map_of_mem hym)) hxr
      have H1 := refHas_sp _ A[k].u A[k].l x0.d hk ⟨A[k].hu, _, rfl, hyv.ds⟩ (by have := (fA.2 _ hym).1; omega) hxr
      rw [← hA1] at H1
      have htk : ((A.take (k + 1)).any fun z => hasA z.a x0.d) = (sn || hasA A[k].a x0.d) := by
        rw [List.take_succ_eq_append_getElem hkl, List.any_append, ← q2]
        simp
      have hu := A[k].hu
      generalize A[k] = y0 at hel2 hyv H1 htk hu
      cases sn with
      | true =>
        repeat' (first | (refine ycf ?_; apply ybk; (· first | (first | exact tk_ | (apply yad; (· rfl); (· exact sb_past (hel2 _)); (· exact ycj hu)) | (apply yad; (· rfl); (· exact sb_dot (hel _)); (· rfl)))); (· rfl); (· rfl)) | refine t1_ ?_ | (refine ta_ ?_; intro _) | ((fail_if_success (refine ybi rfl ?_)); refine ybj rfl ?_ ?_ <;> (intro ht; rw [ht]; first | replace ht := of_decide_eq_true ht | replace ht := of_decide_eq_false ht | skip)) | (refine ych ?_; first | (refine ybw rfl ?_ ?_ <;> intro ht) | (refine ybx rfl ?_ ?_ <;> intro ht)))
        refine cx_region_draw' rfl (by kernel_rfl) ?_
        repeat' (refine ycf ?_;(first|(first|(apply ybm;(·(first|(first|exact tk_|(apply yad;(·rfl);(·exact sb_past (hel2 _));(·exact ycj hu))|(apply yad;(·rfl);(·exact sb_dot (hel _));(·rfl)))|exact tq_));(·rfl);(·rfl);(·(exact th_)))|refine ybl rfl rfl ?_|((fail_if_success (refine ybi rfl ?_));refine ybj rfl ?_ ?_<;>(intro ht;rw [ht];first|replace ht := of_decide_eq_true ht|replace ht := of_decide_eq_false ht|skip))|(refine tb_ ?_ ?_ ?_;(·(exact to_));(·intro _;(exact to_));intro _)|(first|(refine tqs_ ?_ ?_ ?_;(·(exact to_));(·(exact to_))))|(apply ybn;(·(first|(first|exact tk_|(apply yad;(·rfl);(·exact sb_past (hel2 _));(·exact ycj hu))|(apply yad;(·rfl);(·exact sb_dot (hel _));(·rfl)))|exact tq_));(·rfl);(·rfl);(·rfl);(·(exact to_))))|refine ycg ?_))
        repeat' (first | (refine ycf ?_; apply ybk; (· first | (first | exact tk_ | (apply yad; (· rfl); (· exact sb_past (hel2 _)); (· exact ycj hu)) | (apply yad; (· rfl); (· exact sb_dot (hel _)); (· rfl)))); (· rfl); (· rfl)) | refine t1_ ?_ | (refine ta_ ?_; intro _) | ((fail_if_success (refine ybi rfl ?_)); refine ybj rfl ?_ ?_ <;> (intro ht; rw [ht]; first | replace ht := of_decide_eq_true ht | replace ht := of_decide_eq_false ht | skip)) | (refine ych ?_; first | (refine ybw rfl ?_ ?_ <;> intro ht) | (refine ybx rfl ?_ ?_ <;> intro ht)))
        exact nx_round (k + 1, true) ⟨by show k + 1 ≤ _; omega, by rw [htk]; rfl⟩ (by show A.length - (k + 1) < A.length - k; omega) ts_ (fun _ s => s)
      | false =>
        obtain ⟨bb, hbb⟩ : ∃ bb, bb = hasA y0.a x0.d := ⟨_, rfl⟩
        rw [← hbb] at H1 htk
        repeat' (first | (refine ycf ?_; apply ybk; (· first | (first | exact tk_ | (apply yad; (· rfl); (· exact sb_past (hel2 _)); (· exact ycj hu)) | (apply yad; (· rfl); (· exact sb_dot (hel _)); (· rfl)))); (· rfl); (· rfl)) | refine t1_ ?_ | (refine ta_ ?_; intro _) | ((fail_if_success (refine ybi rfl ?_)); refine ybj rfl ?_ ?_ <;> (intro ht; rw [ht]; first | replace ht := of_decide_eq_true ht | replace ht := of_decide_eq_false ht | skip)) | (refine ych ?_; first | (refine ybw rfl ?_ ?_ <;> intro ht) | (refine ybx rfl ?_ ?_ <;> intro ht)))
        refine cx_region_draw' rfl (by kernel_rfl) ?_
        repeat' (refine ycf ?_;(first|(first|(apply ybm;(·(first|(first|exact tk_|(apply yad;(·rfl);(·exact sb_past (hel2 _));(·exact ycj hu))|(apply yad;(·rfl);(·exact sb_dot (hel _));(·rfl)))|exact tq_));(·rfl);(·rfl);(·(exact th_)))|refine ybl rfl rfl ?_|((fail_if_success (refine ybi rfl ?_));refine ybj rfl ?_ ?_<;>(intro ht;rw [ht];first|replace ht := of_decide_eq_true ht|replace ht := of_decide_eq_false ht|skip))|(refine tb_ ?_ ?_ ?_;(·(exact to_));(·intro _;(exact to_));intro _)|(first|(refine tqs_ ?_ ?_ ?_;(·(exact to_));(·(exact to_))))|(apply ybn;(·(first|(first|exact tk_|(apply yad;(·rfl);(·exact sb_past (hel2 _));(·exact ycj hu))|(apply yad;(·rfl);(·exact sb_dot (hel _));(·rfl)))|exact tq_));(·rfl);(·rfl);(·rfl);(·(exact to_))))|refine ycg ?_))
        (refine ycn (ycp Try.func30 rfl (by kernel_rfl) rfl) (H1) rfl rfl rfl ?_ ?_; (· (exact to_)))
        repeat' (refine ycf ?_;(first|(first|(apply ybm;(·(first|(first|exact tk_|(apply yad;(·rfl);(·exact sb_past (hel2 _));(·exact ycj hu))|(apply yad;(·rfl);(·exact sb_dot (hel _));(·rfl)))|exact tq_));(·rfl);(·rfl);(·(exact th_)))|refine ybl rfl rfl ?_|((fail_if_success (refine ybi rfl ?_));refine ybj rfl ?_ ?_<;>(intro ht;rw [ht];first|replace ht := of_decide_eq_true ht|replace ht := of_decide_eq_false ht|skip))|(refine tb_ ?_ ?_ ?_;(·(exact to_));(·intro _;(exact to_));intro _)|(first|(refine tqs_ ?_ ?_ ?_;(·(exact to_));(·(exact to_))))|(apply ybn;(·(first|(first|exact tk_|(apply yad;(·rfl);(·exact sb_past (hel2 _));(·exact ycj hu))|(apply yad;(·rfl);(·exact sb_dot (hel _));(·rfl)))|exact tq_));(·rfl);(·rfl);(·rfl);(·(exact to_))))|refine ycg ?_))
        repeat' (first | (refine ycf ?_; apply ybk; (· first | (first | exact tk_ | (apply yad; (· rfl); (· exact sb_past (hel2 _)); (· exact ycj hu)) | (apply yad; (· rfl); (· exact sb_dot (hel _)); (· rfl)))); (· rfl); (· rfl)) | refine t1_ ?_ | (refine ta_ ?_; intro _) | ((fail_if_success (refine ybi rfl ?_)); refine ybj rfl ?_ ?_ <;> (intro ht; rw [ht]; first | replace ht := of_decide_eq_true ht | replace ht := of_decide_eq_false ht | skip)) | (refine ych ?_; first | (refine ybw rfl ?_ ?_ <;> intro ht) | (refine ybx rfl ?_ ?_ <;> intro ht)))
        exact nx_round (k + 1, bb) ⟨by show k + 1 ≤ _; omega, by rw [htk]; rfl⟩ (by show A.length - (k + 1) < A.length - k; omega) ts_ (fun _ s => s)
    · have hke : k = A.length := by omega
      rw [hke, List.take_length] at q2
      have hun : unseen (A.map Sb.a) x0.a = !sn := by
        rw [q2]
        unfold unseen
        rw [List.all_map, List.not_any_eq_all_not]
        rfl
      have hts := topS_succ hxi
      rw [hun] at hts
      cases sn with
      | true =>
        repeat' (first | (refine ycf ?_; apply ybk; (· first | (first | exact tk_ | (apply yad; (· rfl); (· exact hel _); (· exact hxl)))); (· rfl); (· rfl)) | refine t1_ ?_ | (refine ta_ ?_; intro _) | ((fail_if_success (refine ybi rfl ?_)); refine ybj rfl ?_ ?_ <;> (intro ht; rw [ht]; first | replace ht := of_decide_eq_true ht | replace ht := of_decide_eq_false ht | skip)) | (refine ych ?_; first | (refine ybw rfl ?_ ?_ <;> intro ht) | (refine ybx rfl ?_ ?_ <;> intro ht)))
        exact nx_round (i + 1, hk, vw, W) ⟨by show i + 1 ≤ _; omega, p2, p3, by rw [show topS (A.map Sb.a) (i + 1) = topS (A.map Sb.a) i by rw [hts]; simp]; exact p4⟩ (by show A.length - (i + 1) < A.length - i; omega) ts_ (fun _ s => s)
      | false =>
        have hts2 : topS (A.map Sb.a) (i + 1) = topS (A.map Sb.a) i ++ [x0.a] := by rw [hts]; simp
        have MX := p4.merge1 H topS_sub (List.mem_map_of_mem (f := Sb.a) hxm)
        have fW := fits_ck (p4.set H topS_sub)
        repeat' (first | (refine ycf ?_; apply ybk; (· first | (first | exact tk_ | (apply yad; (· rfl); (· exact hel _); (· exact hxl)))); (· rfl); (· rfl)) | refine t1_ ?_ | (refine ta_ ?_; intro _) | ((fail_if_success (refine ybi rfl ?_)); refine ybj rfl ?_ ?_ <;> (intro ht; rw [ht]; first | replace ht := of_decide_eq_true ht | replace ht := of_decide_eq_false ht | skip)) | (refine ych ?_; first | (refine ybw rfl ?_ ?_ <;> intro ht) | (refine ybx rfl ?_ ?_ <;> intro ht)))
        refine yba (ybd rfl rfl rfl (ybe rfl (sbc_sz x0))) rfl rfl rfl ybf (fun _ => ybf) ?_
        intro b9
        refine rx_rowOf 20 1 1 (by omega) (by unfold maxLen; omega) (by show (sbc x0).length = 20; exact hxl) ?_
        refine rx_persist rfl fun h6 hle6 hs6 => ?_
        have S6 := one_row hs6 (hxv.mono hle6)
        (refine yco (ycp Try.func27 rfl (by kernel_rfl) rfl) (rmerge_sp vw _ W [x0] h6 (p3.mono hle6) S6 fW ⟨by simp, fun x hx => by rw [List.mem_singleton.1 hx]; exact fx⟩) rfl rfl rfl ?_ ?_ ?_; (· (exact to_)); (· intro _ _ hle; (exact to_)); intro x px hle)
        obtain ⟨h7, v7, M⟩ := x
        obtain ⟨S7, E7⟩ := px
        dsimp only at S7 E7
        have hle7 : Le h6 h7 := hle
        clear hle
        repeat' (first | (refine ycf ?_; apply ybk; (· first | (first | exact tk_ | (apply yad; (· rfl); (· exact hel _); (· exact hxl)))); (· rfl); (· rfl)) | refine t1_ ?_ | (refine ta_ ?_; intro _) | ((fail_if_success (refine ybi rfl ?_)); refine ybj rfl ?_ ?_ <;> (intro ht; rw [ht]; first | replace ht := of_decide_eq_true ht | replace ht := of_decide_eq_false ht | skip)) | (refine ych ?_; first | (refine ybw rfl ?_ ?_ <;> intro ht) | (refine ybx rfl ?_ ?_ <;> intro ht)))
        refine nx_round (i + 1, h7, v7, M) ⟨by show i + 1 ≤ _; omega, p2.trans (hle6.trans hle7), S7, ?_⟩ (by show A.length - (i + 1) < A.length - i; omega) ts_ (fun _ s => s)
        dsimp only
        rw [hts2, E7]
        exact MX.2
  · have hie : i = (A.map Sb.a).length := by rw [List.length_map]; omega
    rw [hie] at p4
    have mW := top_max p4
    clear p4
    have fW : Fits W := fits_ck (mW.set H (fun x hx => hx))
    repeat' (first | (refine ycf ?_; apply ybk; (· first | (first | exact tk_ | (apply yad; (· rfl); (· exact hel _); (· exact hxl)))); (· rfl); (· rfl)) | refine t1_ ?_ | (refine ta_ ?_; intro _) | ((fail_if_success (refine ybi rfl ?_)); refine ybj rfl ?_ ?_ <;> (intro ht; rw [ht]; first | replace ht := of_decide_eq_true ht | replace ht := of_decide_eq_false ht | skip)) | (refine ych ?_; first | (refine ybw rfl ?_ ?_ <;> intro ht) | (refine ybx rfl ?_ ?_ <;> intro ht)))
    refine yba ma_buildSlice0 rfl rfl rfl ybf (fun _ => ybf) ?_
    intro b77
    refine rx_rowOf 20 0 0 (by omega) (by unfold maxLen; omega) rfl ?_
    repeat' (first | (refine ycf ?_; apply ybk; (· first | (first | exact tk_ | (apply yad; (· rfl); (· exact hel _); (· exact hxl)))); (· rfl); (· rfl)) | refine t1_ ?_ | (refine ta_ ?_; intro _) | ((fail_if_success (refine ybi rfl ?_)); refine ybj rfl ?_ ?_ <;> (intro ht; rw [ht]; first | replace ht := of_decide_eq_true ht | replace ht := of_decide_eq_false ht | skip)) | (refine ych ?_; first | (refine ybw rfl ?_ ?_ <;> intro ht) | (refine ybx rfl ?_ ?_ <;> intro ht)))
    refine rx_append_sc (sz := 20) (m := A.length) (news := A.flatMap sbc) 0 rfl rfl rfl hAk.1 (one_sbs hAk.2) rfl (by omega) (by unfold maxLen; omega) (by omega) rfl rfl rfl ybf (fun _ => ybf) ?_
    intro v79 _
    refine rx_persist rfl fun h2 hle2 hs2 => ?_
    have L2 : Rs h2 v79 A := ⟨by simpa using hs2, fun x hx => (hAk.2 x hx).mono hle2⟩
    repeat' (first | (refine ycf ?_; apply ybk; (· first | (first | exact tk_ | (apply yad; (· rfl); (· exact hel _); (· exact hxl)))); (· rfl); (· rfl)) | refine t1_ ?_ | (refine ta_ ?_; intro _) | ((fail_if_success (refine ybi rfl ?_)); refine ybj rfl ?_ ?_ <;> (intro ht; rw [ht]; first | replace ht := of_decide_eq_true ht | replace ht := of_decide_eq_false ht | skip)) | (refine ych ?_; first | (refine ybw rfl ?_ ?_ <;> intro ht) | (refine ybx rfl ?_ ?_ <;> intro ht)))
    refine cx_loop (X := Nat × View × (Value × List Sb) × (Value × List Sb) × List Ab) (fun y => [(1, .slice ado ol.length capo), (6, .pointer (some ⟨b6, 0, none⟩)), (7, vw), (11, y.2.2.1.1), (12, y.2.2.2.1.1), (13, .int .i64 (y.1 : Nat))]) (fun y => y.2.1)
      (fun y => [Res.blk b6 (.cells (zc zs).toArray 65 (0, 0))])
      (fun y => y.1 + y.2.2.1.2.length ≤ 24 ∧ Le h2 y.2.1 ∧ Rs y.2.1 y.2.2.1.1 y.2.2.1.2 ∧ Ss y.2.1 y.2.2.2.1.1 y.2.2.2.1.2 ∧ Split (A.map Sb.a) y.2.2.2.2 (y.2.2.1.2.map Sb.a) ∧ IsMax y.2.2.2.2 (y.2.2.2.1.2.map Sb.a)) (fun y => y.2.2.1.2.length) (0, h2, (v79, A), (.slice none 0 0, []), [])
      ⟨by show 0 + A.length ≤ 24; omega, Le.refl _, L2, ⟨Sc.nil h2 20 none 0, fun x hx => by cases hx⟩, Split.start, IsMax.nil⟩ ts_ (fun _ s => s) ?_
    rintro ⟨n, hn, ⟨vl, Lf⟩, ⟨vm, M⟩, D⟩ ⟨r1, r2, r3, r4, r5, r6⟩
    dsimp only at r1 r2 r3 r4 r5 r6 ⊢
    obtain ⟨_, adl, capl, hvl, hcl, _⟩ := id r3.1
    subst hvl
    have hon := ho.mono (hle1.trans (p2.trans (hle2.trans r2)))
    have fM : Fits M := fits_ck (r6.set H r5.d)
    by_cases hl0 : 0 < Lf.length
    · iterate 18 (first | (refine ycf ?_; apply ybk; (· first | (first | exact tk_ | (apply yad; (· rfl); (· exact hel _); (· exact hxl)))); (· rfl); (· rfl)) | refine t1_ ?_ | (refine ta_ ?_; intro _) | ((fail_if_success (refine ybi rfl ?_)); refine ybj rfl ?_ ?_ <;> (intro ht; rw [ht]; first | replace ht := of_decide_eq_true ht | replace ht := of_decide_eq_false ht | skip)) | (refine ych ?_; first | (refine ybw rfl ?_ ?_ <;> intro ht) | (refine ybx rfl ?_ ?_ <;> intro ht)))
      refine ybo ?_
      refine cx_cut (X := Nat) (fun k => [(1, .slice ado ol.length capo), (6, .pointer (some ⟨b6, 0, none⟩)), (7, vw), (11, .slice adl Lf.length capl), (12, vm), (13, .int .i64 (n : Nat)), (14, .int .i64 (k : Nat))]) (fun _ => hn)
        (fun _ => [Res.blk b6 (.cells (zc zs).toArray 65 (0, 0))]) (fun k => k < Lf.length) ?_ ?_
      · by_cases hno : n < ol.length
        · obtain ⟨bs, o, rfl⟩ := hon.ad (by omega) (by omega)
          have hcel : ∀ L, CellAt hn L bs (o + n) (.int .i64 ol[n]) := fun L => (hon.cells (L := L)).cell (by simp [up, hno])
          generalize ol[n] = n0 at hcel
          obtain ⟨k, hk1, hk2⟩ := wrap_mod n0 Lf.length hl0 (by omega)
          have hu := u64_nat (n := Lf.length) (by omega)
          repeat' (first | (refine ycf ?_; apply ybk; (· first | (first | exact tk_ | (refine qv_convert_int' rfl hu) | (refine qv_convert_int' rfl hk1) | (apply qv_convert_int; rfl) | (apply qv_rem; (· rfl); (· rfl); (· omega))) | (apply yae; (· rfl); (· (first | exact hcel _ | (rw [Nat.mul_one]; exact hcel _))))); (· rfl); (· rfl)) | refine t1_ ?_ | (refine ta_ ?_; intro _) | ((fail_if_success (refine ybi rfl ?_)); refine ybj rfl ?_ ?_ <;> (intro ht; rw [ht]; first | replace ht := of_decide_eq_true ht | replace ht := of_decide_eq_false ht | skip)) | (refine ych ?_; first | (refine ybw rfl ?_ ?_ <;> intro ht) | (refine ybx rfl ?_ ?_ <;> intro ht)))
          exact nx_cut k hk2 ts_ (fun _ s => s)
        · --
          repeat' (first | (refine ycf ?_; apply ybk; (· first | (exact tk_)); (· rfl); (· rfl)) | refine t1_ ?_ | (refine ta_ ?_; intro _) | ((fail_if_success (refine ybi rfl ?_)); refine ybj rfl ?_ ?_ <;> (intro ht; rw [ht]; first | replace ht := of_decide_eq_true ht | replace ht := of_decide_eq_false ht | skip)) | (refine ych ?_; first | (refine ybw rfl ?_ ?_ <;> intro ht) | (refine ybx rfl ?_ ?_ <;> intro ht)))
          exact nx_cut 0 hl0 ts_ (fun _ s => s)
      intro k hk
      refine yby ?_
      have R1 := rs_mid r3 hk
      have fL : Fits Lf := ⟨by omega, fun x hx => by
        have hx2 := r5.r x.a (List.mem_map_of_mem hx)
        obtain ⟨z, hz, e⟩ := List.mem_map.1 hx2
        have e1 : x.l = z.l := (congrArg (·.2.2.1) e).symm
        have e2 : x.b = z.b := (congrArg (·.2.2.2) e).symm
        rw [e1, e2]
        exact fA.2 z hz⟩
      have hkm : k < (Lf.map Sb.a).length := by simpa using hk
      have hxS : Lf[k].a ∈ A.map Sb.a := r5.r _ (List.mem_map_of_mem (List.getElem_mem hk))
      have hT := r5.take hkm
      have hTw := max_twice H r5.d r6 hxS
      have eLk : (Lf.map Sb.a)[k] = Lf[k].a := by simp
      rw [eLk] at hT
      have TO := sto_sp _ [Lf[k]] hn R1 ⟨by simp, fun x hx => by rw [List.mem_singleton.1 hx]; exact fL.2 _ (List.getElem_mem hk)⟩
      have fx := fL.2 _ (List.getElem_mem hk)
      have hmid : cutF adl capl k 20 = cutF adl capl k 20 := rfl
      generalize Lf[k] = x0 at R1 hxS hT hTw TO fx
      repeat' (first | (refine ycf ?_; apply ybk; (· first | (first | exact tk_ | (refine qv_slice_mid (i := k) (jn := k + 1) rfl rfl rfl (by omega) (by omega) (by omega)))); (· rfl); (· rfl)) | refine t1_ ?_ | (refine ta_ ?_; intro _) | ((fail_if_success (refine ybi rfl ?_)); refine ybj rfl ?_ ?_ <;> (intro ht; rw [ht]; first | replace ht := of_decide_eq_true ht | replace ht := of_decide_eq_false ht | skip)) | (refine ych ?_; first | (refine ybw rfl ?_ ?_ <;> intro ht) | (refine ybx rfl ?_ ?_ <;> intro ht)))
      (refine yco (ycp Try.func10 rfl (by kernel_rfl) rfl) (TO) rfl rfl rfl ?_ ?_ ?_; (· (exact to_)); (· intro _ _ hle; (exact to_)); intro x px hle)
      obtain ⟨h3, v3, I⟩ := x
      obtain ⟨S3, E3⟩ := px
      dsimp only at S3 E3
      have hle3 : Le hn h3 := hle
      clear hle
      have lI : I.length = 1 := by simpa using congrArg List.length E3
      obtain ⟨y, rfl⟩ : ∃ y, I = [y] := List.length_eq_one_iff.1 lI
      have ey : y.a = x0.a := by simpa using E3
      have hyv : Sv h3 y := S3.2 y (List.mem_singleton.2 rfl)
      have hyo := hyv.one
      have hyl := sbc_len y
      obtain ⟨_, ad3, cap3, hv3, _, _⟩ := id S3.1
      subst hv3
      obtain ⟨b3, o3, rfl⟩ := S3.1.ad (by show 0 < 1; decide) (by decide)
      have hel3 : ∀ L, Cells h3 L ⟨b3, o3 + 0 * 20, none⟩ (sbc y) := fun L => S3.1.elem (L := L) sbc_len 0 (by show 0 < 1; decide)
      have l1 : [y].length = 1 := rfl
      repeat' (first | (refine ycf ?_; apply ybk; (· first | (first | exact tk_ | (apply yad; (· rfl); (· exact hel3 _); (· exact hyl)) | (apply yad; (· rfl); (· exact yaz 0 rfl); (· exact hyl)))); (· rfl); (· rfl)) | (refine ybg 0 rfl rfl rfl (sbc_sz y) (sbc_fit rfl) (sbc_one hyo.1 hyo.2) (ybh (sbc_all rfl)) rfl rfl ?_ ?_ ?_; (· (exact to_)); (· (exact to_))) | refine t1_ ?_ | (refine ta_ ?_; intro _) | ((fail_if_success (refine ybi rfl ?_)); refine ybj rfl ?_ ?_ <;> (intro ht; rw [ht]; first | replace ht := of_decide_eq_true ht | replace ht := of_decide_eq_false ht | skip)) | (refine ych ?_; first | (refine ybw rfl ?_ ?_ <;> intro ht) | (refine ybx rfl ?_ ?_ <;> intro ht)))
      have fy : Fits [y] := fits_eq (T := [x0]) E3 ⟨by simp, fun x hx => by rw [List.mem_singleton.1 hx]; exact fx⟩
      have fy1 := fy.2 y (List.mem_singleton.2 rfl)
      have PT1 := sputF_sp vm M y h3 (r4.mono hle3) hyv fM fy1
      obtain ⟨t1, t2, t3, t4⟩ := hTw
      rw [ey, t1] at PT1
      (refine yco (ycp Try.func15 rfl (by kernel_rfl) rfl) (PT1) rfl rfl rfl ?_ ?_ ?_; (· (exact to_)); (· intro _ _ hle; (exact to_)); intro x px hle)
      obtain ⟨h4, v4, X⟩ := x
      obtain ⟨S4, E4⟩ := px
      dsimp only at S4 E4
      have hle4 : Le h3 h4 := hle
      clear hle
      rw [← E4] at t2 t3 t4
      have hD2 : ∀ z ∈ D ++ [x0.a], z ∈ A.map Sb.a := hT.d
      have fX : Fits X := fits_ck (t2.set H hD2)
      have PT2 := sputF_sp v4 X y h4 S4 (hyv.mono hle4) fX fy1
      rw [ey, t3] at PT2
      repeat' (first | (refine ycf ?_; apply ybk; (· first | (first | exact tk_ | (apply yad; (· rfl); (· exact hel3 _); (· exact hyl)) | (apply yad; (· rfl); (· exact yaz 0 rfl); (· exact hyl)))); (· rfl); (· rfl)) | (refine ybg 0 rfl rfl rfl (sbc_sz y) (sbc_fit rfl) (sbc_one hyo.1 hyo.2) (ybh (sbc_all rfl)) rfl rfl ?_ ?_ ?_; (· (exact to_)); (· (exact to_))) | refine t1_ ?_ | (refine ta_ ?_; intro _) | ((fail_if_success (refine ybi rfl ?_)); refine ybj rfl ?_ ?_ <;> (intro ht; rw [ht]; first | replace ht := of_decide_eq_true ht | replace ht := of_decide_eq_false ht | skip)) | (refine ych ?_; first | (refine ybw rfl ?_ ?_ <;> intro ht) | (refine ybx rfl ?_ ?_ <;> intro ht)))
      (refine yco (ycp Try.func15 rfl (by kernel_rfl) rfl) (PT2) rfl rfl rfl ?_ ?_ ?_; (· (exact to_)); (· intro _ _ hle; (exact to_)); intro x px hle)
      obtain ⟨h5, v5, Y⟩ := x
      obtain ⟨S5, E5⟩ := px
      dsimp only at S5 E5
      have hle5 : Le h4 h5 := hle
      clear hle
      rw [t4] at E5
      have fY : Fits Y := fits_eq E5 fX
      have SM := sme_of (S4.mono hle5) S5 fX fY
      rw [decide_eq_true (show X.map Sb.a = Y.map Sb.a from E5.symm)] at SM
      repeat' (first | (refine ycf ?_; apply ybk; (· first | (first | exact tk_ | (apply yad; (· rfl); (· exact hel3 _); (· exact hyl)) | (apply yad; (· rfl); (· exact yaz 0 rfl); (· exact hyl)))); (· rfl); (· rfl)) | (refine ybg 0 rfl rfl rfl (sbc_sz y) (sbc_fit rfl) (sbc_one hyo.1 hyo.2) (ybh (sbc_all rfl)) rfl rfl ?_ ?_ ?_; (· (exact to_)); (· (exact to_))) | refine t1_ ?_ | (refine ta_ ?_; intro _) | ((fail_if_success (refine ybi rfl ?_)); refine ybj rfl ?_ ?_ <;> (intro ht; rw [ht]; first | replace ht := of_decide_eq_true ht | replace ht := of_decide_eq_false ht | skip)) | (refine ych ?_; first | (refine ybw rfl ?_ ?_ <;> intro ht) | (refine ybx rfl ?_ ?_ <;> intro ht)))
      (refine ycn (ycp Try.func25 rfl (by kernel_rfl) rfl) (SM) rfl rfl rfl ?_ ?_; (· (exact to_)))
      repeat' (first | (refine ycf ?_; apply ybk; (· first | (exact tk_)); (· rfl); (· rfl)) | refine t1_ ?_ | (refine ta_ ?_; intro _) | ((fail_if_success (refine ybi rfl ?_)); refine ybj rfl ?_ ?_ <;> (intro ht; rw [ht]; first | replace ht := of_decide_eq_true ht | replace ht := of_decide_eq_false ht | skip)) | (refine ych ?_; first | (refine ybw rfl ?_ ?_ <;> intro ht) | (refine ybx rfl ?_ ?_ <;> intro ht)))
      have hle35 : Le hn h5 := hle3.trans (hle4.trans hle5)
      have r35 := r3.mono hle35
      have tk := scm_take r35 (j := k) (by omega)
      have dr := scm_drop r35 (j := k + 1) (by omega)
      have tko : ∀ u ∈ (Lf.take k).flatMap sbc, u.oneCell' = true := one_sbs (h := h5) fun x hx => r35.2 x (List.mem_of_mem_take hx)
      have dro : ∀ u ∈ (Lf.drop (k + 1)).flatMap sbc, u.oneCell' = true := one_sbs (h := h5) fun x hx => r35.2 x (List.mem_of_mem_drop hx)
      refine cx_region_drawL [] [] rfl (by kernel_rfl) ?_
      refine yba ma_buildSlice0 rfl rfl rfl ?_ ?_ ?_
      · (first | exact ybf | (refine .inl ?_; (exact fun _ s => Hd.sub s (Le.refl _) (fun r hr => by cases hr))) | exact to_)
      · intro _; (first | exact ybf | (refine .inl ?_; (exact fun _ s => Hd.sub s (Le.refl _) (fun r hr => by cases hr))) | exact to_)
      intro b132
      refine rx_rowOf 20 0 0 (by omega) (by unfold maxLen; omega) rfl ?_
      repeat' (refine ycf ?_;(first|(first|(apply ybm;(·(first|(first|exact tk_|(apply qv_slice_to;(·rfl);(·rfl);(·omega);(·omega))|(refine qv_slice_from (i := k + 1) rfl rfl (by omega)))|exact tq_));(·rfl);(·rfl);(·(exact fun _ s => Hd.sub s (Le.refl _) (fun r hr => by cases hr))))|refine ybl rfl rfl ?_|((fail_if_success (refine ybi rfl ?_));refine ybj rfl ?_ ?_<;>(intro ht;rw [ht];first|replace ht := of_decide_eq_true ht|replace ht := of_decide_eq_false ht|skip))|(refine tb_ ?_ ?_ ?_;(·(first|exact ybf|(refine .inl ?_;(exact fun _ s => Hd.sub s (Le.refl _) (fun r hr => by cases hr)))|exact to_));(·intro _;(first|exact ybf|(refine .inl ?_;(exact fun _ s => Hd.sub s (Le.refl _) (fun r hr => by cases hr)))|exact to_));intro _)|(first|(refine tqs_ ?_ ?_ ?_;(·(first|exact ybf|(refine .inl ?_;(exact fun _ s => Hd.sub s (Le.refl _) (fun r hr => by cases hr)))|exact to_));(·(first|exact ybf|(refine .inl ?_;(exact fun _ s => Hd.sub s (Le.refl _) (fun r hr => by cases hr)))|exact to_))))|(apply ybn;(·(first|(first|exact tk_|(apply qv_slice_to;(·rfl);(·rfl);(·omega);(·omega))|(refine qv_slice_from (i := k + 1) rfl rfl (by omega)))|exact tq_));(·rfl);(·rfl);(·rfl);(·(first|exact ybf|(refine .inl ?_;(exact fun _ s => Hd.sub s (Le.refl _) (fun r hr => by cases hr)))|exact to_))))|refine ycg ?_))
      refine rx_append_sc (sz := 20) (m := k) (news := (Lf.take k).flatMap sbc) 0 rfl rfl rfl tk tko rfl (by omega) (by unfold maxLen; omega) (by omega) rfl rfl rfl ?_ ?_ ?_
      · (first | exact ybf | (refine .inl ?_; (exact fun _ s => Hd.sub s (Le.refl _) (fun r hr => by cases hr))) | exact to_)
      · intro v'; (first | exact ybf | (refine .inl ?_; (exact fun _ s => Hd.sub s (Le.refl _) (fun r hr => by cases hr))) | exact to_)
      intro v136 _
      repeat' (refine ycf ?_;(first|(first|(apply ybm;(·(first|(first|exact tk_|(apply qv_slice_to;(·rfl);(·rfl);(·omega);(·omega))|(refine qv_slice_from (i := k + 1) rfl rfl (by omega)))|exact tq_));(·rfl);(·rfl);(·(exact fun _ s => Hd.sub s (Le.refl _) (fun r hr => by cases hr))))|refine ybl rfl rfl ?_|((fail_if_success (refine ybi rfl ?_));refine ybj rfl ?_ ?_<;>(intro ht;rw [ht];first|replace ht := of_decide_eq_true ht|replace ht := of_decide_eq_false ht|skip))|(refine tb_ ?_ ?_ ?_;(·(first|exact ybf|(refine .inl ?_;(exact fun _ s => Hd.sub s (Le.refl _) (fun r hr => by cases hr)))|exact to_));(·intro _;(first|exact ybf|(refine .inl ?_;(exact fun _ s => Hd.sub s (Le.refl _) (fun r hr => by cases hr)))|exact to_));intro _)|(first|(refine tqs_ ?_ ?_ ?_;(·(first|exact ybf|(refine .inl ?_;(exact fun _ s => Hd.sub s (Le.refl _) (fun r hr => by cases hr)))|exact to_));(·(first|exact ybf|(refine .inl ?_;(exact fun _ s => Hd.sub s (Le.refl _) (fun r hr => by cases hr)))|exact to_))))|(apply ybn;(·(first|(first|exact tk_|(apply qv_slice_to;(·rfl);(·rfl);(·omega);(·omega))|(refine qv_slice_from (i := k + 1) rfl rfl (by omega)))|exact tq_));(·rfl);(·rfl);(·rfl);(·(first|exact ybf|(refine .inl ?_;(exact fun _ s => Hd.sub s (Le.refl _) (fun r hr => by cases hr)))|exact to_))))|refine ycg ?_))
      refine rx_append_sc (sz := 20) (m := Lf.length - (k + 1)) (news := (Lf.drop (k + 1)).flatMap sbc) 0 rfl rfl rfl dr dro rfl (by omega) (by unfold maxLen; omega) (by omega) rfl rfl rfl ?_ ?_ ?_
      · (first | exact ybf | (refine .inl ?_; (exact fun _ s => Hd.sub s (Le.refl _) (fun r hr => by cases hr))) | exact to_)
      · intro v'; (first | exact ybf | (refine .inl ?_; (exact fun _ s => Hd.sub s (Le.refl _) (fun r hr => by cases hr))) | exact to_)
      intro v141 _
      refine rx_persist rfl fun h9 hle9 hs9 => ?_
      have N9 : Rs h9 v141 (Lf.take k ++ Lf.drop (k + 1)) := ⟨by
        rw [List.length_append, List.flatMap_append, List.length_drop, show (Lf.take k).length = k by simp; omega]
        simpa using hs9, fun x hx => by
        rcases List.mem_append.1 hx with hx | hx
        · exact (r35.2 x (List.mem_of_mem_take hx)).mono hle9
        · exact (r35.2 x (List.mem_of_mem_drop hx)).mono hle9⟩
      repeat' (refine ycf ?_;(first|(first|(apply ybm;(·(first|(first|exact tk_|(apply qv_slice_to;(·rfl);(·rfl);(·omega);(·omega))|(refine qv_slice_from (i := k + 1) rfl rfl (by omega)))|exact tq_));(·rfl);(·rfl);(·(exact fun _ s => Hd.sub s hle9 (fun r hr => by cases hr))))|refine ybl rfl rfl ?_|((fail_if_success (refine ybi rfl ?_));refine ybj rfl ?_ ?_<;>(intro ht;rw [ht];first|replace ht := of_decide_eq_true ht|replace ht := of_decide_eq_false ht|skip))|(refine tb_ ?_ ?_ ?_;(·(first|exact ybf|(refine .inl ?_;(exact fun _ s => Hd.sub s hle9 (fun r hr => by cases hr)))|exact to_));(·intro _;(first|exact ybf|(refine .inl ?_;(exact fun _ s => Hd.sub s hle9 (fun r hr => by cases hr)))|exact to_));intro _)|(first|(refine tqs_ ?_ ?_ ?_;(·(first|exact ybf|(refine .inl ?_;(exact fun _ s => Hd.sub s hle9 (fun r hr => by cases hr)))|exact to_));(·(first|exact ybf|(refine .inl ?_;(exact fun _ s => Hd.sub s hle9 (fun r hr => by cases hr)))|exact to_))))|(apply ybn;(·(first|(first|exact tk_|(apply qv_slice_to;(·rfl);(·rfl);(·omega);(·omega))|(refine qv_slice_from (i := k + 1) rfl rfl (by omega)))|exact tq_));(·rfl);(·rfl);(·rfl);(·(first|exact ybf|(refine .inl ?_;(exact fun _ s => Hd.sub s hle9 (fun r hr => by cases hr)))|exact to_))))|refine ycg ?_))
      repeat' (first | (refine ycf ?_; apply ybk; (· first | (exact tk_)); (· rfl); (· rfl)) | refine t1_ ?_ | (refine ta_ ?_; intro _) | ((fail_if_success (refine ybi rfl ?_)); refine ybj rfl ?_ ?_ <;> (intro ht; rw [ht]; first | replace ht := of_decide_eq_true ht | replace ht := of_decide_eq_false ht | skip)) | (refine ych ?_; first | (refine ybw rfl ?_ ?_ <;> intro ht) | (refine ybx rfl ?_ ?_ <;> intro ht)))
      have len9 : (Lf.take k ++ Lf.drop (k + 1)).length = Lf.length - 1 := by simp; omega
      have eM9 : (Lf.take k ++ Lf.drop (k + 1)).map Sb.a = (Lf.map Sb.a).take k ++ (Lf.map Sb.a).drop (k + 1) := by simp
      refine nx_round (n + 1, h9, (v141, Lf.take k ++ Lf.drop (k + 1)), (v4, X), D ++ [x0.a]) ⟨by show n + 1 + (Lf.take k ++ Lf.drop (k + 1)).length ≤ 24; rw [len9]; omega, r2.trans (hle35.trans hle9), N9, S4.mono (hle5.trans hle9), by dsimp only; rw [eM9]; exact hT, t2⟩ (by show (Lf.take k ++ Lf.drop (k + 1)).length < Lf.length; rw [len9]; omega) ts_ (fun _ s => s.tl)
    · have hl : Lf = [] := List.eq_nil_of_length_eq_zero (by omega)
      subst hl
      have mM := r5.done r6
      have eMW := mM.uniq mW fun x => Iff.rfl
      repeat' (first | (refine ycf ?_; apply ybk; (· first | (exact tk_)); (· rfl); (· rfl)) | refine t1_ ?_ | (refine ta_ ?_; intro _) | ((fail_if_success (refine ybi rfl ?_)); refine ybj rfl ?_ ?_ <;> (intro ht; rw [ht]; first | replace ht := of_decide_eq_true ht | replace ht := of_decide_eq_false ht | skip)) | (refine ych ?_; first | (refine ybw rfl ?_ ?_ <;> intro ht) | (refine ybx rfl ?_ ?_ <;> intro ht)))
      obtain ⟨X0, X1, X2, X3, hza, a0, a1, a2, a3, m0, m1, m2, m3, d0, d1, d2, d3, hall⟩ := P.four H
      obtain ⟨z0, z1, z2, z3, rfl⟩ : ∃ z0 z1 z2 z3, zs = [z0, z1, z2, z3] := match zs, hz4 with
        | [a, b, c, d], _ => ⟨a, b, c, d, rfl⟩
      simp only [za, List.map_cons, List.map_nil, List.cons.injEq, and_true] at hza
      obtain ⟨e0, e1, e2, e3⟩ := hza
      rw [← e0] at m0
      rw [← e1] at m1
      rw [← e2] at m2
      rw [← e3] at m3
      have hZn := hZ.mono (p2.trans (hle2.trans r2))
      have R0 : Rs hn z0.1 z0.2 := hZn z0 (by simp)
      have R1 : Rs hn z1.1 z1.2 := hZn z1 (by simp)
      have R2 : Rs hn z2.1 z2.2 := hZn z2 (by simp)
      have R3 : Rs hn z3.1 z3.2 := hZn z3 (by simp)
      clear hZn
      refine cx_region_drawL [Res.blk b6 (.cells (zc [z0, z1, z2, z3]).toArray 65 (0, 0))] [] rfl (by kernel_rfl) ?_
      repeat' (refine ycf ?_;(first|(first|(apply ybm;(·(first|(apply yae;(·rfl);(·(first|exact zc_cell (k := 0) (q := z0) (yaz 0 rfl) rfl rfl|exact zc_cell (k := 1) (q := z1) (yaz 0 rfl) rfl rfl|exact zc_cell (k := 2) (q := z2) (yaz 0 rfl) rfl rfl|exact zc_cell (k := 3) (q := z3) (yaz 0 rfl) rfl rfl)))|exact tq_));(·rfl);(·rfl);(·(first|exact fun _ s => Hd.sub s (Le.refl _) (fun r hr => hr)|exact fun _ s => Hd.sub s hle (fun r hr => hr))))|refine ybl rfl rfl ?_|((fail_if_success (refine ybi rfl ?_));refine ybj rfl ?_ ?_<;>(intro ht;rw [ht];first|replace ht := of_decide_eq_true ht|replace ht := of_decide_eq_false ht|skip))|(refine tb_ ?_ ?_ ?_;(·(first|exact ybf|(refine .inl ?_;(first|exact fun _ s => Hd.sub s (Le.refl _) (fun r hr => hr)|exact fun _ s => Hd.sub s hle (fun r hr => hr)))|exact to_));(·intro _;(first|exact ybf|(refine .inl ?_;(first|exact fun _ s => Hd.sub s (Le.refl _) (fun r hr => hr)|exact fun _ s => Hd.sub s hle (fun r hr => hr)))|exact to_));intro _)|(first|(refine tqs_ ?_ ?_ ?_;(·(first|exact ybf|(refine .inl ?_;(first|exact fun _ s => Hd.sub s (Le.refl _) (fun r hr => hr)|exact fun _ s => Hd.sub s hle (fun r hr => hr)))|exact to_));(·(first|exact ybf|(refine .inl ?_;(first|exact fun _ s => Hd.sub s (Le.refl _) (fun r hr => hr)|exact fun _ s => Hd.sub s hle (fun r hr => hr)))|exact to_))))|(apply ybn;(·(first|(apply yae;(·rfl);(·(first|exact zc_cell (k := 0) (q := z0) (yaz 0 rfl) rfl rfl|exact zc_cell (k := 1) (q := z1) (yaz 0 rfl) rfl rfl|exact zc_cell (k := 2) (q := z2) (yaz 0 rfl) rfl rfl|exact zc_cell (k := 3) (q := z3) (yaz 0 rfl) rfl rfl)))|exact tq_));(·rfl);(·rfl);(·rfl);(·(first|exact ybf|(refine .inl ?_;(first|exact fun _ s => Hd.sub s (Le.refl _) (fun r hr => hr)|exact fun _ s => Hd.sub s hle (fun r hr => hr)))|exact to_))))|refine ycg ?_))
      (refine yco (ycp Try.func10 rfl (by kernel_rfl) rfl) (to_max R0 H d0 m0) rfl rfl rfl ?_ ?_ ?_; (· (first | exact ybf | (refine .inl ?_; (first | exact fun _ s => Hd.sub s (Le.refl _) (fun r hr => hr) | exact fun _ s => Hd.sub s hle (fun r hr => hr))) | exact to_)); (· intro _ _ hle; (first | exact ybf | (refine .inl ?_; (first | exact fun _ s => Hd.sub s (Le.refl _) (fun r hr => hr) | exact fun _ s => Hd.sub s hle (fun r hr => hr))) | exact to_)); intro x px hle)
      obtain ⟨hAab, vAab, IAab⟩ := x
      obtain ⟨SAab, MAab⟩ := px
      dsimp only at SAab MAab
      have lAab : Le hn hAab := hle
      clear hle
      repeat' (refine ycf ?_;(first|(first|(apply ybm;(·(first|(apply yae;(·rfl);(·(first|exact zc_cell (k := 0) (q := z0) (yaz 0 rfl) rfl rfl|exact zc_cell (k := 1) (q := z1) (yaz 0 rfl) rfl rfl|exact zc_cell (k := 2) (q := z2) (yaz 0 rfl) rfl rfl|exact zc_cell (k := 3) (q := z3) (yaz 0 rfl) rfl rfl)))|exact tq_));(·rfl);(·rfl);(·(first|exact fun _ s => Hd.sub s lAab (fun r hr => hr)|exact fun _ s => Hd.sub s (lAab.trans hle) (fun r hr => hr))))|refine ybl rfl rfl ?_|((fail_if_success (refine ybi rfl ?_));refine ybj rfl ?_ ?_<;>(intro ht;rw [ht];first|replace ht := of_decide_eq_true ht|replace ht := of_decide_eq_false ht|skip))|(refine tb_ ?_ ?_ ?_;(·(first|exact ybf|(refine .inl ?_;(first|exact fun _ s => Hd.sub s lAab (fun r hr => hr)|exact fun _ s => Hd.sub s (lAab.trans hle) (fun r hr => hr)))|exact to_));(·intro _;(first|exact ybf|(refine .inl ?_;(first|exact fun _ s => Hd.sub s lAab (fun r hr => hr)|exact fun _ s => Hd.sub s (lAab.trans hle) (fun r hr => hr)))|exact to_));intro _)|(first|(refine tqs_ ?_ ?_ ?_;(·(first|exact ybf|(refine .inl ?_;(first|exact fun _ s => Hd.sub s lAab (fun r hr => hr)|exact fun _ s => Hd.sub s (lAab.trans hle) (fun r hr => hr)))|exact to_));(·(first|exact ybf|(refine .inl ?_;(first|exact fun _ s => Hd.sub s lAab (fun r hr => hr)|exact fun _ s => Hd.sub s (lAab.trans hle) (fun r hr => hr)))|exact to_))))|(apply ybn;(·(first|(apply yae;(·rfl);(·(first|exact zc_cell (k := 0) (q := z0) (yaz 0 rfl) rfl rfl|exact zc_cell (k := 1) (q := z1) (yaz 0 rfl) rfl rfl|exact zc_cell (k := 2) (q := z2) (yaz 0 rfl) rfl rfl|exact zc_cell (k := 3) (q := z3) (yaz 0 rfl) rfl rfl)))|exact tq_));(·rfl);(·rfl);(·rfl);(·(first|exact ybf|(refine .inl ?_;(first|exact fun _ s => Hd.sub s lAab (fun r hr => hr)|exact fun _ s => Hd.sub s (lAab.trans hle) (fun r hr => hr)))|exact to_))))|refine ycg ?_))
      (refine yco (ycp Try.func10 rfl (by kernel_rfl) rfl) (to_max (R1.mono lAab) H d1 m1) rfl rfl rfl ?_ ?_ ?_; (· (first | exact ybf | (refine .inl ?_; (first | exact fun _ s => Hd.sub s lAab (fun r hr => hr) | exact fun _ s => Hd.sub s (lAab.trans hle) (fun r hr => hr))) | exact to_)); (· intro _ _ hle; (first | exact ybf | (refine .inl ?_; (first | exact fun _ s => Hd.sub s lAab (fun r hr => hr) | exact fun _ s => Hd.sub s (lAab.trans hle) (fun r hr => hr))) | exact to_)); intro x px hle)
      obtain ⟨hBab, vBab, IBab⟩ := x
      obtain ⟨SBab, MBab⟩ := px
      dsimp only at SBab MBab
      have lBab : Le hAab hBab := hle
      clear hle
      repeat' (refine ycf ?_;(first|(first|(apply ybm;(·(first|(apply yae;(·rfl);(·(first|exact zc_cell (k := 0) (q := z0) (yaz 0 rfl) rfl rfl|exact zc_cell (k := 1) (q := z1) (yaz 0 rfl) rfl rfl|exact zc_cell (k := 2) (q := z2) (yaz 0 rfl) rfl rfl|exact zc_cell (k := 3) (q := z3) (yaz 0 rfl) rfl rfl)))|exact tq_));(·rfl);(·rfl);(·(first|exact fun _ s => Hd.sub s (lAab.trans lBab) (fun r hr => hr)|exact fun _ s => Hd.sub s (lAab.trans (lBab.trans hle)) (fun r hr => hr))))|refine ybl rfl rfl ?_|((fail_if_success (refine ybi rfl ?_));refine ybj rfl ?_ ?_<;>(intro ht;rw [ht];first|replace ht := of_decide_eq_true ht|replace ht := of_decide_eq_false ht|skip))|(refine tb_ ?_ ?_ ?_;(·(first|exact ybf|(refine .inl ?_;(first|exact fun _ s => Hd.sub s (lAab.trans lBab) (fun r hr => hr)|exact fun _ s => Hd.sub s (lAab.trans (lBab.trans hle)) (fun r hr => hr)))|exact to_));(·intro _;(first|exact ybf|(refine .inl ?_;(first|exact fun _ s => Hd.sub s (lAab.trans lBab) (fun r hr => hr)|exact fun _ s => Hd.sub s (lAab.trans (lBab.trans hle)) (fun r hr => hr)))|exact to_));intro _)|(first|(refine tqs_ ?_ ?_ ?_;(·(first|exact ybf|(refine .inl ?_;(first|exact fun _ s => Hd.sub s (lAab.trans lBab) (fun r hr => hr)|exact fun _ s => Hd.sub s (lAab.trans (lBab.trans hle)) (fun r hr => hr)))|exact to_));(·(first|exact ybf|(refine .inl ?_;(first|exact fun _ s => Hd.sub s (lAab.trans lBab) (fun r hr => hr)|exact fun _ s => Hd.sub s (lAab.trans (lBab.trans hle)) (fun r hr => hr)))|exact to_))))|(apply ybn;(·(first|(apply yae;(·rfl);(·(first|exact zc_cell (k := 0) (q := z0) (yaz 0 rfl) rfl rfl|exact zc_cell (k := 1) (q := z1) (yaz 0 rfl) rfl rfl|exact zc_cell (k := 2) (q := z2) (yaz 0 rfl) rfl rfl|exact zc_cell (k := 3) (q := z3) (yaz 0 rfl) rfl rfl)))|exact tq_));(·rfl);(·rfl);(·rfl);(·(first|exact ybf|(refine .inl ?_;(first|exact fun _ s => Hd.sub s (lAab.trans lBab) (fun r hr => hr)|exact fun _ s => Hd.sub s (lAab.trans (lBab.trans hle)) (fun r hr => hr)))|exact to_))))|refine ycg ?_))
      (refine yco (ycp Try.func26 rfl (by kernel_rfl) rfl) (merge_max (SAab.mono lBab) SBab H d0 d1 MAab MBab) rfl rfl rfl ?_ ?_ ?_; (· (first | exact ybf | (refine .inl ?_; (first | exact fun _ s => Hd.sub s (lAab.trans lBab) (fun r hr => hr) | exact fun _ s => Hd.sub s (lAab.trans (lBab.trans hle)) (fun r hr => hr))) | exact to_)); (· intro _ _ hle; (first | exact ybf | (refine .inl ?_; (first | exact fun _ s => Hd.sub s (lAab.trans lBab) (fun r hr => hr) | exact fun _ s => Hd.sub s (lAab.trans (lBab.trans hle)) (fun r hr => hr))) | exact to_)); intro x px hle)
      obtain ⟨hab, vab, Iab⟩ := x
      obtain ⟨Sab, Mab⟩ := px
      dsimp only at Sab Mab
      have lab : Le hBab hab := hle
      clear hle
      repeat' (refine ycf ?_;(first|(first|(apply ybm;(·(first|(apply yae;(·rfl);(·(first|exact zc_cell (k := 0) (q := z0) (yaz 0 rfl) rfl rfl|exact zc_cell (k := 1) (q := z1) (yaz 0 rfl) rfl rfl|exact zc_cell (k := 2) (q := z2) (yaz 0 rfl) rfl rfl|exact zc_cell (k := 3) (q := z3) (yaz 0 rfl) rfl rfl)))|exact tq_));(·rfl);(·rfl);(·(exact fun _ s => Hd.sub s (lAab.trans (lBab.trans lab)) (fun r hr => hr))))|refine ybl rfl rfl ?_|((fail_if_success (refine ybi rfl ?_));refine ybj rfl ?_ ?_<;>(intro ht;rw [ht];first|replace ht := of_decide_eq_true ht|replace ht := of_decide_eq_false ht|skip))|(refine tb_ ?_ ?_ ?_;(·(first|exact ybf|(refine .inl ?_;(exact fun _ s => Hd.sub s (lAab.trans (lBab.trans lab)) (fun r hr => hr)))|exact to_));(·intro _;(first|exact ybf|(refine .inl ?_;(exact fun _ s => Hd.sub s (lAab.trans (lBab.trans lab)) (fun r hr => hr)))|exact to_));intro _)|(first|(refine tqs_ ?_ ?_ ?_;(·(first|exact ybf|(refine .inl ?_;(exact fun _ s => Hd.sub s (lAab.trans (lBab.trans lab)) (fun r hr => hr)))|exact to_));(·(first|exact ybf|(refine .inl ?_;(exact fun _ s => Hd.sub s (lAab.trans (lBab.trans lab)) (fun r hr => hr)))|exact to_))))|(apply ybn;(·(first|(apply yae;(·rfl);(·(first|exact zc_cell (k := 0) (q := z0) (yaz 0 rfl) rfl rfl|exact zc_cell (k := 1) (q := z1) (yaz 0 rfl) rfl rfl|exact zc_cell (k := 2) (q := z2) (yaz 0 rfl) rfl rfl|exact zc_cell (k := 3) (q := z3) (yaz 0 rfl) rfl rfl)))|exact tq_));(·rfl);(·rfl);(·rfl);(·(first|exact ybf|(refine .inl ?_;(exact fun _ s => Hd.sub s (lAab.trans (lBab.trans lab)) (fun r hr => hr)))|exact to_))))|refine ycg ?_))
      repeat' (first | (refine ycf ?_; apply ybk; (· first | (apply yae; (· rfl); (· (first | exact zc_cell (k := 0) (q := z0) (yaz 0 rfl) rfl rfl | exact zc_cell (k := 1) (q := z1) (yaz 0 rfl) rfl rfl | exact zc_cell (k := 2) (q := z2) (yaz 0 rfl) rfl rfl | exact zc_cell (k := 3) (q := z3) (yaz 0 rfl) rfl rfl)))); (· rfl); (· rfl)) | refine t1_ ?_ | (refine ta_ ?_; intro _) | ((fail_if_success (refine ybi rfl ?_)); refine ybj rfl ?_ ?_ <;> (intro ht; rw [ht]; first | replace ht := of_decide_eq_true ht | replace ht := of_decide_eq_false ht | skip)) | (refine ych ?_; first | (refine ybw rfl ?_ ?_ <;> intro ht) | (refine ybx rfl ?_ ?_ <;> intro ht)))
      refine cx_less [(6, .pointer (some ⟨b6, 0, none⟩)), (7, vw), (12, vm), (20, vab), (21, .int .i64 0)] ts_ ?_
      have cab : Le hn hab := lAab.trans (lBab.trans lab)
      have bab : Le hn hab := lAab.trans (lBab.trans lab)
      have Dab := sub_app d0 d1
      refine cx_region_drawL [Res.blk b6 (.cells (zc [z0, z1, z2, z3]).toArray 65 (0, 0))] [] rfl (by kernel_rfl) ?_
      repeat' (refine ycf ?_;(first|(first|(apply ybm;(·(first|(apply yae;(·rfl);(·(first|exact zc_cell (k := 0) (q := z0) (yaz 0 rfl) rfl rfl|exact zc_cell (k := 1) (q := z1) (yaz 0 rfl) rfl rfl|exact zc_cell (k := 2) (q := z2) (yaz 0 rfl) rfl rfl|exact zc_cell (k := 3) (q := z3) (yaz 0 rfl) rfl rfl)))|exact tq_));(·rfl);(·rfl);(·(first|exact fun _ s => Hd.sub s (Le.refl _) (fun r hr => hr)|exact fun _ s => Hd.sub s hle (fun r hr => hr))))|refine ybl rfl rfl ?_|((fail_if_success (refine ybi rfl ?_));refine ybj rfl ?_ ?_<;>(intro ht;rw [ht];first|replace ht := of_decide_eq_true ht|replace ht := of_decide_eq_false ht|skip))|(refine tb_ ?_ ?_ ?_;(·(first|exact ybf|(refine .inl ?_;(first|exact fun _ s => Hd.sub s (Le.refl _) (fun r hr => hr)|exact fun _ s => Hd.sub s hle (fun r hr => hr)))|exact to_));(·intro _;(first|exact ybf|(refine .inl ?_;(first|exact fun _ s => Hd.sub s (Le.refl _) (fun r hr => hr)|exact fun _ s => Hd.sub s hle (fun r hr => hr)))|exact to_));intro _)|(first|(refine tqs_ ?_ ?_ ?_;(·(first|exact ybf|(refine .inl ?_;(first|exact fun _ s => Hd.sub s (Le.refl _) (fun r hr => hr)|exact fun _ s => Hd.sub s hle (fun r hr => hr)))|exact to_));(·(first|exact ybf|(refine .inl ?_;(first|exact fun _ s => Hd.sub s (Le.refl _) (fun r hr => hr)|exact fun _ s => Hd.sub s hle (fun r hr => hr)))|exact to_))))|(apply ybn;(·(first|(apply yae;(·rfl);(·(first|exact zc_cell (k := 0) (q := z0) (yaz 0 rfl) rfl rfl|exact zc_cell (k := 1) (q := z1) (yaz 0 rfl) rfl rfl|exact zc_cell (k := 2) (q := z2) (yaz 0 rfl) rfl rfl|exact zc_cell (k := 3) (q := z3) (yaz 0 rfl) rfl rfl)))|exact tq_));(·rfl);(·rfl);(·rfl);(·(first|exact ybf|(refine .inl ?_;(first|exact fun _ s => Hd.sub s (Le.refl _) (fun r hr => hr)|exact fun _ s => Hd.sub s hle (fun r hr => hr)))|exact to_))))|refine ycg ?_))
      (refine yco (ycp Try.func10 rfl (by kernel_rfl) rfl) (to_max (R2.mono cab) H d2 m2) rfl rfl rfl ?_ ?_ ?_; (· (first | exact ybf | (refine .inl ?_; (first | exact fun _ s => Hd.sub s (Le.refl _) (fun r hr => hr) | exact fun _ s => Hd.sub s hle (fun r hr => hr))) | exact to_)); (· intro _ _ hle; (first | exact ybf | (refine .inl ?_; (first | exact fun _ s => Hd.sub s (Le.refl _) (fun r hr => hr) | exact fun _ s => Hd.sub s hle (fun r hr => hr))) | exact to_)); intro x px hle)
      obtain ⟨hAcd, vAcd, IAcd⟩ := x
      obtain ⟨SAcd, MAcd⟩ := px
      dsimp only at SAcd MAcd
      have lAcd : Le hab hAcd := hle
      clear hle
      repeat' (refine ycf ?_;(first|(first|(apply ybm;(·(first|(apply yae;(·rfl);(·(first|exact zc_cell (k := 0) (q := z0) (yaz 0 rfl) rfl rfl|exact zc_cell (k := 1) (q := z1) (yaz 0 rfl) rfl rfl|exact zc_cell (k := 2) (q := z2) (yaz 0 rfl) rfl rfl|exact zc_cell (k := 3) (q := z3) (yaz 0 rfl) rfl rfl)))|exact tq_));(·rfl);(·rfl);(·(first|exact fun _ s => Hd.sub s lAcd (fun r hr => hr)|exact fun _ s => Hd.sub s (lAcd.trans hle) (fun r hr => hr))))|refine ybl rfl rfl ?_|((fail_if_success (refine ybi rfl ?_));refine ybj rfl ?_ ?_<;>(intro ht;rw [ht];first|replace ht := of_decide_eq_true ht|replace ht := of_decide_eq_false ht|skip))|(refine tb_ ?_ ?_ ?_;(·(first|exact ybf|(refine .inl ?_;(first|exact fun _ s => Hd.sub s lAcd (fun r hr => hr)|exact fun _ s => Hd.sub s (lAcd.trans hle) (fun r hr => hr)))|exact to_));(·intro _;(first|exact ybf|(refine .inl ?_;(first|exact fun _ s => Hd.sub s lAcd (fun r hr => hr)|exact fun _ s => Hd.sub s (lAcd.trans hle) (fun r hr => hr)))|exact to_));intro _)|(first|(refine tqs_ ?_ ?_ ?_;(·(first|exact ybf|(refine .inl ?_;(first|exact fun _ s => Hd.sub s lAcd (fun r hr => hr)|exact fun _ s => Hd.sub s (lAcd.trans hle) (fun r hr => hr)))|exact to_));(·(first|exact ybf|(refine .inl ?_;(first|exact fun _ s => Hd.sub s lAcd (fun r hr => hr)|exact fun _ s => Hd.sub s (lAcd.trans hle) (fun r hr => hr)))|exact to_))))|(apply ybn;(·(first|(apply yae;(·rfl);(·(first|exact zc_cell (k := 0) (q := z0) (yaz 0 rfl) rfl rfl|exact zc_cell (k := 1) (q := z1) (yaz 0 rfl) rfl rfl|exact zc_cell (k := 2) (q := z2) (yaz 0 rfl) rfl rfl|exact zc_cell (k := 3) (q := z3) (yaz 0 rfl) rfl rfl)))|exact tq_));(·rfl);(·rfl);(·rfl);(·(first|exact ybf|(refine .inl ?_;(first|exact fun _ s => Hd.sub s lAcd (fun r hr => hr)|exact fun _ s => Hd.sub s (lAcd.trans hle) (fun r hr => hr)))|exact to_))))|refine ycg ?_))
      (refine yco (ycp Try.func10 rfl (by kernel_rfl) rfl) (to_max (R3.mono (cab.trans lAcd)) H d3 m3) rfl rfl rfl ?_ ?_ ?_; (· (first | exact ybf | (refine .inl ?_; (first | exact fun _ s => Hd.sub s lAcd (fun r hr => hr) | exact fun _ s => Hd.sub s (lAcd.trans hle) (fun r hr => hr))) | exact to_)); (· intro _ _ hle; (first | exact ybf | (refine .inl ?_; (first | exact fun _ s => Hd.sub s lAcd (fun r hr => hr) | exact fun _ s => Hd.sub s (lAcd.trans hle) (fun r hr => hr))) | exact to_)); intro x px hle)
      obtain ⟨hBcd, vBcd, IBcd⟩ := x
      obtain ⟨SBcd, MBcd⟩ := px
      dsimp only at SBcd MBcd
      have lBcd : Le hAcd hBcd := hle
      clear hle
      repeat' (refine ycf ?_;(first|(first|(apply ybm;(·(first|(apply yae;(·rfl);(·(first|exact zc_cell (k := 0) (q := z0) (yaz 0 rfl) rfl rfl|exact zc_cell (k := 1) (q := z1) (yaz 0 rfl) rfl rfl|exact zc_cell (k := 2) (q := z2) (yaz 0 rfl) rfl rfl|exact zc_cell (k := 3) (q := z3) (yaz 0 rfl) rfl rfl)))|exact tq_));(·rfl);(·rfl);(·(first|exact fun _ s => Hd.sub s (lAcd.trans lBcd) (fun r hr => hr)|exact fun _ s => Hd.sub s (lAcd.trans (lBcd.trans hle)) (fun r hr => hr))))|refine ybl rfl rfl ?_|((fail_if_success (refine ybi rfl ?_));refine ybj rfl ?_ ?_<;>(intro ht;rw [ht];first|replace ht := of_decide_eq_true ht|replace ht := of_decide_eq_false ht|skip))|(refine tb_ ?_ ?_ ?_;(·(first|exact ybf|(refine .inl ?_;(first|exact fun _ s => Hd.sub s (lAcd.trans lBcd) (fun r hr => hr)|exact fun _ s => Hd.sub s (lAcd.trans (lBcd.trans hle)) (fun r hr => hr)))|exact to_));(·intro _;(first|exact ybf|(refine .inl ?_;(first|exact fun _ s => Hd.sub s (lAcd.trans lBcd) (fun r hr => hr)|exact fun _ s => Hd.sub s (lAcd.trans (lBcd.trans hle)) (fun r hr => hr)))|exact to_));intro _)|(first|(refine tqs_ ?_ ?_ ?_;(·(first|exact ybf|(refine .inl ?_;(first|exact fun _ s => Hd.sub s (lAcd.trans lBcd) (fun r hr => hr)|exact fun _ s => Hd.sub s (lAcd.trans (lBcd.trans hle)) (fun r hr => hr)))|exact to_));(·(first|exact ybf|(refine .inl ?_;(first|exact fun _ s => Hd.sub s (lAcd.trans lBcd) (fun r hr => hr)|exact fun _ s => Hd.sub s (lAcd.trans (lBcd.trans hle)) (fun r hr => hr)))|exact to_))))|(apply ybn;(·(first|(apply yae;(·rfl);(·(first|exact zc_cell (k := 0) (q := z0) (yaz 0 rfl) rfl rfl|exact zc_cell (k := 1) (q := z1) (yaz 0 rfl) rfl rfl|exact zc_cell (k := 2) (q := z2) (yaz 0 rfl) rfl rfl|exact zc_cell (k := 3) (q := z3) (yaz 0 rfl) rfl rfl)))|exact tq_));(·rfl);(·rfl);(·rfl);(·(first|exact ybf|(refine .inl ?_;(first|exact fun _ s => Hd.sub s (lAcd.trans lBcd) (fun r hr => hr)|exact fun _ s => Hd.sub s (lAcd.trans (lBcd.trans hle)) (fun r hr => hr)))|exact to_))))|refine ycg ?_))
      (refine yco (ycp Try.func26 rfl (by kernel_rfl) rfl) (merge_max (SAcd.mono lBcd) SBcd H d2 d3 MAcd MBcd) rfl rfl rfl ?_ ?_ ?_; (· (first | exact ybf | (refine .inl ?_; (first | exact fun _ s => Hd.sub s (lAcd.trans lBcd) (fun r hr => hr) | exact fun _ s => Hd.sub s (lAcd.trans (lBcd.trans hle)) (fun r hr => hr))) | exact to_)); (· intro _ _ hle; (first | exact ybf | (refine .inl ?_; (first | exact fun _ s => Hd.sub s (lAcd.trans lBcd) (fun r hr => hr) | exact fun _ s => Hd.sub s (lAcd.trans (lBcd.trans hle)) (fun r hr => hr))) | exact to_)); intro x px hle)
      obtain ⟨hcd, vcd, Icd⟩ := x
      obtain ⟨Scd, Mcd⟩ := px
      dsimp only at Scd Mcd
      have lcd : Le hBcd hcd := hle
      clear hle
      repeat' (refine ycf ?_;(first|(first|(apply ybm;(·(first|(apply yae;(·rfl);(·(first|exact zc_cell (k := 0) (q := z0) (yaz 0 rfl) rfl rfl|exact zc_cell (k := 1) (q := z1) (yaz 0 rfl) rfl rfl|exact zc_cell (k := 2) (q := z2) (yaz 0 rfl) rfl rfl|exact zc_cell (k := 3) (q := z3) (yaz 0 rfl) rfl rfl)))|exact tq_));(·rfl);(·rfl);(·(exact fun _ s => Hd.sub s (lAcd.trans (lBcd.trans lcd)) (fun r hr => hr))))|refine ybl rfl rfl ?_|((fail_if_success (refine ybi rfl ?_));refine ybj rfl ?_ ?_<;>(intro ht;rw [ht];first|replace ht := of_decide_eq_true ht|replace ht := of_decide_eq_false ht|skip))|(refine tb_ ?_ ?_ ?_;(·(first|exact ybf|(refine .inl ?_;(exact fun _ s => Hd.sub s (lAcd.trans (lBcd.trans lcd)) (fun r hr => hr)))|exact to_));(·intro _;(first|exact ybf|(refine .inl ?_;(exact fun _ s => Hd.sub s (lAcd.trans (lBcd.trans lcd)) (fun r hr => hr)))|exact to_));intro _)|(first|(refine tqs_ ?_ ?_ ?_;(·(first|exact ybf|(refine .inl ?_;(exact fun _ s => Hd.sub s (lAcd.trans (lBcd.trans lcd)) (fun r hr => hr)))|exact to_));(·(first|exact ybf|(refine .inl ?_;(exact fun _ s => Hd.sub s (lAcd.trans (lBcd.trans lcd)) (fun r hr => hr)))|exact to_))))|(apply ybn;(·(first|(apply yae;(·rfl);(·(first|exact zc_cell (k := 0) (q := z0) (yaz 0 rfl) rfl rfl|exact zc_cell (k := 1) (q := z1) (yaz 0 rfl) rfl rfl|exact zc_cell (k := 2) (q := z2) (yaz 0 rfl) rfl rfl|exact zc_cell (k := 3) (q := z3) (yaz 0 rfl) rfl rfl)))|exact tq_));(·rfl);(·rfl);(·rfl);(·(first|exact ybf|(refine .inl ?_;(exact fun _ s => Hd.sub s (lAcd.trans (lBcd.trans lcd)) (fun r hr => hr)))|exact to_))))|refine ycg ?_))
      repeat' (first | (refine ycf ?_; apply ybk; (· first | (apply yae; (· rfl); (· (first | exact zc_cell (k := 0) (q := z0) (yaz 0 rfl) rfl rfl | exact zc_cell (k := 1) (q := z1) (yaz 0 rfl) rfl rfl | exact zc_cell (k := 2) (q := z2) (yaz 0 rfl) rfl rfl | exact zc_cell (k := 3) (q := z3) (yaz 0 rfl) rfl rfl)))); (· rfl); (· rfl)) | refine t1_ ?_ | (refine ta_ ?_; intro _) | ((fail_if_success (refine ybi rfl ?_)); refine ybj rfl ?_ ?_ <;> (intro ht; rw [ht]; first | replace ht := of_decide_eq_true ht | replace ht := of_decide_eq_false ht | skip)) | (refine ych ?_; first | (refine ybw rfl ?_ ?_ <;> intro ht) | (refine ybx rfl ?_ ?_ <;> intro ht)))
      have ccd : Le hn hcd := cab.trans (lAcd.trans (lBcd.trans lcd))
      have bcd : Le hab hcd := lAcd.trans (lBcd.trans lcd)
      have Dcd := sub_app d2 d3
      (refine yco (ycp Try.func26 rfl (by kernel_rfl) rfl) (merge_max (Sab.mono bcd) Scd H Dab Dcd Mab Mcd) rfl rfl rfl ?_ ?_ ?_; (· (exact to_)); (· intro _ _ hle; (exact to_)); intro x px hle)
      obtain ⟨hp, vp, Ip⟩ := x
      obtain ⟨Sp, Mp⟩ := px
      dsimp only at Sp Mp
      have lp : Le hcd hp := hle
      clear hle
      repeat' (first | (refine ycf ?_; apply ybk; (· first | (apply yae; (· rfl); (· (first | exact zc_cell (k := 0) (q := z0) (yaz 0 rfl) rfl rfl | exact zc_cell (k := 1) (q := z1) (yaz 0 rfl) rfl rfl | exact zc_cell (k := 2) (q := z2) (yaz 0 rfl) rfl rfl | exact zc_cell (k := 3) (q := z3) (yaz 0 rfl) rfl rfl)))); (· rfl); (· rfl)) | refine t1_ ?_ | (refine ta_ ?_; intro _) | ((fail_if_success (refine ybi rfl ?_)); refine ybj rfl ?_ ?_ <;> (intro ht; rw [ht]; first | replace ht := of_decide_eq_true ht | replace ht := of_decide_eq_false ht | skip)) | (refine ych ?_; first | (refine ybw rfl ?_ ?_ <;> intro ht) | (refine ybx rfl ?_ ?_ <;> intro ht)))
      refine cx_less [(6, .pointer (some ⟨b6, 0, none⟩)), (7, vw), (12, vm), (21, .int .i64 0), (23, .int .i64 0), (24, vp), (25, .int .i64 0)] ts_ ?_
      have cp : Le hn hp := ccd.trans lp
      refine cx_region_drawL [Res.blk b6 (.cells (zc [z0, z1, z2, z3]).toArray 65 (0, 0))] [] rfl (by kernel_rfl) ?_
      repeat' (refine ycf ?_;(first|(first|(apply ybm;(·(first|(apply yae;(·rfl);(·(first|exact zc_cell (k := 0) (q := z0) (yaz 0 rfl) rfl rfl|exact zc_cell (k := 1) (q := z1) (yaz 0 rfl) rfl rfl|exact zc_cell (k := 2) (q := z2) (yaz 0 rfl) rfl rfl|exact zc_cell (k := 3) (q := z3) (yaz 0 rfl) rfl rfl)))|exact tq_));(·rfl);(·rfl);(·(first|exact fun _ s => Hd.sub s (Le.refl _) (fun r hr => hr)|exact fun _ s => Hd.sub s hle (fun r hr => hr))))|refine ybl rfl rfl ?_|((fail_if_success (refine ybi rfl ?_));refine ybj rfl ?_ ?_<;>(intro ht;rw [ht];first|replace ht := of_decide_eq_true ht|replace ht := of_decide_eq_false ht|skip))|(refine tb_ ?_ ?_ ?_;(·(first|exact ybf|(refine .inl ?_;(first|exact fun _ s => Hd.sub s (Le.refl _) (fun r hr => hr)|exact fun _ s => Hd.sub s hle (fun r hr => hr)))|exact to_));(·intro _;(first|exact ybf|(refine .inl ?_;(first|exact fun _ s => Hd.sub s (Le.refl _) (fun r hr => hr)|exact fun _ s => Hd.sub s hle (fun r hr => hr)))|exact to_));intro _)|(first|(refine tqs_ ?_ ?_ ?_;(·(first|exact ybf|(refine .inl ?_;(first|exact fun _ s => Hd.sub s (Le.refl _) (fun r hr => hr)|exact fun _ s => Hd.sub s hle (fun r hr => hr)))|exact to_));(·(first|exact ybf|(refine .inl ?_;(first|exact fun _ s => Hd.sub s (Le.refl _) (fun r hr => hr)|exact fun _ s => Hd.sub s hle (fun r hr => hr)))|exact to_))))|(apply ybn;(·(first|(apply yae;(·rfl);(·(first|exact zc_cell (k := 0) (q := z0) (yaz 0 rfl) rfl rfl|exact zc_cell (k := 1) (q := z1) (yaz 0 rfl) rfl rfl|exact zc_cell (k := 2) (q := z2) (yaz 0 rfl) rfl rfl|exact zc_cell (k := 3) (q := z3) (yaz 0 rfl) rfl rfl)))|exact tq_));(·rfl);(·rfl);(·rfl);(·(first|exact ybf|(refine .inl ?_;(first|exact fun _ s => Hd.sub s (Le.refl _) (fun r hr => hr)|exact fun _ s => Hd.sub s hle (fun r hr => hr)))|exact to_))))|refine ycg ?_))
      (refine yco (ycp Try.func10 rfl (by kernel_rfl) rfl) (to_max (R1.mono cp) H d1 m1) rfl rfl rfl ?_ ?_ ?_; (· (first | exact ybf | (refine .inl ?_; (first | exact fun _ s => Hd.sub s (Le.refl _) (fun r hr => hr) | exact fun _ s => Hd.sub s hle (fun r hr => hr))) | exact to_)); (· intro _ _ hle; (first | exact ybf | (refine .inl ?_; (first | exact fun _ s => Hd.sub s (Le.refl _) (fun r hr => hr) | exact fun _ s => Hd.sub s hle (fun r hr => hr))) | exact to_)); intro x px hle)
      obtain ⟨hAbc, vAbc, IAbc⟩ := x
      obtain ⟨SAbc, MAbc⟩ := px
      dsimp only at SAbc MAbc
      have lAbc : Le hp hAbc := hle
      clear hle
      repeat' (refine ycf ?_;(first|(first|(apply ybm;(·(first|(apply yae;(·rfl);(·(first|exact zc_cell (k := 0) (q := z0) (yaz 0 rfl) rfl rfl|exact zc_cell (k := 1) (q := z1) (yaz 0 rfl) rfl rfl|exact zc_cell (k := 2) (q := z2) (yaz 0 rfl) rfl rfl|exact zc_cell (k := 3) (q := z3) (yaz 0 rfl) rfl rfl)))|exact tq_));(·rfl);(·rfl);(·(first|exact fun _ s => Hd.sub s lAbc (fun r hr => hr)|exact fun _ s => Hd.sub s (lAbc.trans hle) (fun r hr => hr))))|refine ybl rfl rfl ?_|((fail_if_success (refine ybi rfl ?_));refine ybj rfl ?_ ?_<;>(intro ht;rw [ht];first|replace ht := of_decide_eq_true ht|replace ht := of_decide_eq_false ht|skip))|(refine tb_ ?_ ?_ ?_;(·(first|exact ybf|(refine .inl ?_;(first|exact fun _ s => Hd.sub s lAbc (fun r hr => hr)|exact fun _ s => Hd.sub s (lAbc.trans hle) (fun r hr => hr)))|exact to_));(·intro _;(first|exact ybf|(refine .inl ?_;(first|exact fun _ s => Hd.sub s lAbc (fun r hr => hr)|exact fun _ s => Hd.sub s (lAbc.trans hle) (fun r hr => hr)))|exact to_));intro _)|(first|(refine tqs_ ?_ ?_ ?_;(·(first|exact ybf|(refine .inl ?_;(first|exact fun _ s => Hd.sub s lAbc (fun r hr => hr)|exact fun _ s => Hd.sub s (lAbc.trans hle) (fun r hr => hr)))|exact to_));(·(first|exact ybf|(refine .inl ?_;(first|exact fun _ s => Hd.sub s lAbc (fun r hr => hr)|exact fun _ s => Hd.sub s (lAbc.trans hle) (fun r hr => hr)))|exact to_))))|(apply ybn;(·(first|(apply yae;(·rfl);(·(first|exact zc_cell (k := 0) (q := z0) (yaz 0 rfl) rfl rfl|exact zc_cell (k := 1) (q := z1) (yaz 0 rfl) rfl rfl|exact zc_cell (k := 2) (q := z2) (yaz 0 rfl) rfl rfl|exact zc_cell (k := 3) (q := z3) (yaz 0 rfl) rfl rfl)))|exact tq_));(·rfl);(·rfl);(·rfl);(·(first|exact ybf|(refine .inl ?_;(first|exact fun _ s => Hd.sub s lAbc (fun r hr => hr)|exact fun _ s => Hd.sub s (lAbc.trans hle) (fun r hr => hr)))|exact to_))))|refine ycg ?_))
      (refine yco (ycp Try.func10 rfl (by kernel_rfl) rfl) (to_max (R2.mono (cp.trans lAbc)) H d2 m2) rfl rfl rfl ?_ ?_ ?_; (· (first | exact ybf | (refine .inl ?_; (first | exact fun _ s => Hd.sub s lAbc (fun r hr => hr) | exact fun _ s => Hd.sub s (lAbc.trans hle) (fun r hr => hr))) | exact to_)); (· intro _ _ hle; (first | exact ybf | (refine .inl ?_; (first | exact fun _ s => Hd.sub s lAbc (fun r hr => hr) | exact fun _ s => Hd.sub s (lAbc.trans hle) (fun r hr => hr))) | exact to_)); intro x px hle)
      obtain ⟨hBbc, vBbc, IBbc⟩ := x
      obtain ⟨SBbc, MBbc⟩ := px
      dsimp only at SBbc MBbc
      have lBbc : Le hAbc hBbc := hle
      clear hle
      repeat' (refine ycf ?_;(first|(first|(apply ybm;(·(first|(apply yae;(·rfl);(·(first|exact zc_cell (k := 0) (q := z0) (yaz 0 rfl) rfl rfl|exact zc_cell (k := 1) (q := z1) (yaz 0 rfl) rfl rfl|exact zc_cell (k := 2) (q := z2) (yaz 0 rfl) rfl rfl|exact zc_cell (k := 3) (q := z3) (yaz 0 rfl) rfl rfl)))|exact tq_));(·rfl);(·rfl);(·(first|exact fun _ s => Hd.sub s (lAbc.trans lBbc) (fun r hr => hr)|exact fun _ s => Hd.sub s (lAbc.trans (lBbc.trans hle)) (fun r hr => hr))))|refine ybl rfl rfl ?_|((fail_if_success (refine ybi rfl ?_));refine ybj rfl ?_ ?_<;>(intro ht;rw [ht];first|replace ht := of_decide_eq_true ht|replace ht := of_decide_eq_false ht|skip))|(refine tb_ ?_ ?_ ?_;(·(first|exact ybf|(refine .inl ?_;(first|exact fun _ s => Hd.sub s (lAbc.trans lBbc) (fun r hr => hr)|exact fun _ s => Hd.sub s (lAbc.trans (lBbc.trans hle)) (fun r hr => hr)))|exact to_));(·intro _;(first|exact ybf|(refine .inl ?_;(first|exact fun _ s => Hd.sub s (lAbc.trans lBbc) (fun r hr => hr)|exact fun _ s => Hd.sub s (lAbc.trans (lBbc.trans hle)) (fun r hr => hr)))|exact to_));intro _)|(first|(refine tqs_ ?_ ?_ ?_;(·(first|exact ybf|(refine .inl ?_;(first|exact fun _ s => Hd.sub s (lAbc.trans lBbc) (fun r hr => hr)|exact fun _ s => Hd.sub s (lAbc.trans (lBbc.trans hle)) (fun r hr => hr)))|exact to_));(·(first|exact ybf|(refine .inl ?_;(first|exact fun _ s => Hd.sub s (lAbc.trans lBbc) (fun r hr => hr)|exact fun _ s => Hd.sub s (lAbc.trans (lBbc.trans hle)) (fun r hr => hr)))|exact to_))))|(apply ybn;(·(first|(apply yae;(·rfl);(·(first|exact zc_cell (k := 0) (q := z0) (yaz 0 rfl) rfl rfl|exact zc_cell (k := 1) (q := z1) (yaz 0 rfl) rfl rfl|exact zc_cell (k := 2) (q := z2) (yaz 0 rfl) rfl rfl|exact zc_cell (k := 3) (q := z3) (yaz 0 rfl) rfl rfl)))|exact tq_));(·rfl);(·rfl);(·rfl);(·(first|exact ybf|(refine .inl ?_;(first|exact fun _ s => Hd.sub s (lAbc.trans lBbc) (fun r hr => hr)|exact fun _ s => Hd.sub s (lAbc.trans (lBbc.trans hle)) (fun r hr => hr)))|exact to_))))|refine ycg ?_))
      (refine yco (ycp Try.func26 rfl (by kernel_rfl) rfl) (merge_max (SAbc.mono lBbc) SBbc H d1 d2 MAbc MBbc) rfl rfl rfl ?_ ?_ ?_; (· (first | exact ybf | (refine .inl ?_; (first | exact fun _ s => Hd.sub s (lAbc.trans lBbc) (fun r hr => hr) | exact fun _ s => Hd.sub s (lAbc.trans (lBbc.trans hle)) (fun r hr => hr))) | exact to_)); (· intro _ _ hle; (first | exact ybf | (refine .inl ?_; (first | exact fun _ s => Hd.sub s (lAbc.trans lBbc) (fun r hr => hr) | exact fun _ s => Hd.sub s (lAbc.trans (lBbc.trans hle)) (fun r hr => hr))) | exact to_)); intro x px hle)
      obtain ⟨hbc, vbc, Ibc⟩ := x
      obtain ⟨Sbc, Mbc⟩ := px
      dsimp only at Sbc Mbc
      have lbc : Le hBbc hbc := hle
      clear hle
      repeat' (refine ycf ?_;(first|(first|(apply ybm;(·(first|(apply yae;(·rfl);(·(first|exact zc_cell (k := 0) (q := z0) (yaz 0 rfl) rfl rfl|exact zc_cell (k := 1) (q := z1) (yaz 0 rfl) rfl rfl|exact zc_cell (k := 2) (q := z2) (yaz 0 rfl) rfl rfl|exact zc_cell (k := 3) (q := z3) (yaz 0 rfl) rfl rfl)))|exact tq_));(·rfl);(·rfl);(·(exact fun _ s => Hd.sub s (lAbc.trans (lBbc.trans lbc)) (fun r hr => hr))))|refine ybl rfl rfl ?_|((fail_if_success (refine ybi rfl ?_));refine ybj rfl ?_ ?_<;>(intro ht;rw [ht];first|replace ht := of_decide_eq_true ht|replace ht := of_decide_eq_false ht|skip))|(refine tb_ ?_ ?_ ?_;(·(first|exact ybf|(refine .inl ?_;(exact fun _ s => Hd.sub s (lAbc.trans (lBbc.trans lbc)) (fun r hr => hr)))|exact to_));(·intro _;(first|exact ybf|(refine .inl ?_;(exact fun _ s => Hd.sub s (lAbc.trans (lBbc.trans lbc)) (fun r hr => hr)))|exact to_));intro _)|(first|(refine tqs_ ?_ ?_ ?_;(·(first|exact ybf|(refine .inl ?_;(exact fun _ s => Hd.sub s (lAbc.trans (lBbc.trans lbc)) (fun r hr => hr)))|exact to_));(·(first|exact ybf|(refine .inl ?_;(exact fun _ s => Hd.sub s (lAbc.trans (lBbc.trans lbc)) (fun r hr => hr)))|exact to_))))|(apply ybn;(·(first|(apply yae;(·rfl);(·(first|exact zc_cell (k := 0) (q := z0) (yaz 0 rfl) rfl rfl|exact zc_cell (k := 1) (q := z1) (yaz 0 rfl) rfl rfl|exact zc_cell (k := 2) (q := z2) (yaz 0 rfl) rfl rfl|exact zc_cell (k := 3) (q := z3) (yaz 0 rfl) rfl rfl)))|exact tq_));(·rfl);(·rfl);(·rfl);(·(first|exact ybf|(refine .inl ?_;(exact fun _ s => Hd.sub s (lAbc.trans (lBbc.trans lbc)) (fun r hr => hr)))|exact to_))))|refine ycg ?_))
      repeat' (first | (refine ycf ?_; apply ybk; (· first | (apply yae; (· rfl); (· (first | exact zc_cell (k := 0) (q := z0) (yaz 0 rfl) rfl rfl | exact zc_cell (k := 1) (q := z1) (yaz 0 rfl) rfl rfl | exact zc_cell (k := 2) (q := z2) (yaz 0 rfl) rfl rfl | exact zc_cell (k := 3) (q := z3) (yaz 0 rfl) rfl rfl)))); (· rfl); (· rfl)) | refine t1_ ?_ | (refine ta_ ?_; intro _) | ((fail_if_success (refine ybi rfl ?_)); refine ybj rfl ?_ ?_ <;> (intro ht; rw [ht]; first | replace ht := of_decide_eq_true ht | replace ht := of_decide_eq_false ht | skip)) | (refine ych ?_; first | (refine ybw rfl ?_ ?_ <;> intro ht) | (refine ybx rfl ?_ ?_ <;> intro ht)))
      have cbc : Le hn hbc := cp.trans (lAbc.trans (lBbc.trans lbc))
      have bbc : Le hp hbc := lAbc.trans (lBbc.trans lbc)
      have Dbc := sub_app d1 d2
      (refine yco (ycp Try.func10 rfl (by kernel_rfl) rfl) (to_max (R0.mono cbc) H d0 m0) rfl rfl rfl ?_ ?_ ?_; (· (exact to_)); (· intro _ _ hle; (exact to_)); intro x px hle)
      obtain ⟨h34, v34, I34⟩ := x
      obtain ⟨S34, M34⟩ := px
      dsimp only at S34 M34
      have l34 : Le hbc h34 := hle
      clear hle
      repeat' (first | (refine ycf ?_; apply ybk; (· first | (apply yae; (· rfl); (· (first | exact zc_cell (k := 0) (q := z0) (yaz 0 rfl) rfl rfl | exact zc_cell (k := 1) (q := z1) (yaz 0 rfl) rfl rfl | exact zc_cell (k := 2) (q := z2) (yaz 0 rfl) rfl rfl | exact zc_cell (k := 3) (q := z3) (yaz 0 rfl) rfl rfl)))); (· rfl); (· rfl)) | refine t1_ ?_ | (refine ta_ ?_; intro _) | ((fail_if_success (refine ybi rfl ?_)); refine ybj rfl ?_ ?_ <;> (intro ht; rw [ht]; first | replace ht := of_decide_eq_true ht | replace ht := of_decide_eq_false ht | skip)) | (refine ych ?_; first | (refine ybw rfl ?_ ?_ <;> intro ht) | (refine ybx rfl ?_ ?_ <;> intro ht)))
      (refine yco (ycp Try.func26 rfl (by kernel_rfl) rfl) (merge_max S34 (Sbc.mono l34) H d0 Dbc M34 Mbc) rfl rfl rfl ?_ ?_ ?_; (· (exact to_)); (· intro _ _ hle; (exact to_)); intro x px hle)
      obtain ⟨habc, vabc, Iabc⟩ := x
      obtain ⟨Sabc, Mabc⟩ := px
      dsimp only at Sabc Mabc
      have labc : Le h34 habc := hle
      clear hle
      repeat' (first | (refine ycf ?_; apply ybk; (· first | (apply yae; (· rfl); (· (first | exact zc_cell (k := 0) (q := z0) (yaz 0 rfl) rfl rfl | exact zc_cell (k := 1) (q := z1) (yaz 0 rfl) rfl rfl | exact zc_cell (k := 2) (q := z2) (yaz 0 rfl) rfl rfl | exact zc_cell (k := 3) (q := z3) (yaz 0 rfl) rfl rfl)))); (· rfl); (· rfl)) | refine t1_ ?_ | (refine ta_ ?_; intro _) | ((fail_if_success (refine ybi rfl ?_)); refine ybj rfl ?_ ?_ <;> (intro ht; rw [ht]; first | replace ht := of_decide_eq_true ht | replace ht := of_decide_eq_false ht | skip)) | (refine ych ?_; first | (refine ybw rfl ?_ ?_ <;> intro ht) | (refine ybx rfl ?_ ?_ <;> intro ht)))
      have Dabc := sub_app d0 Dbc
      have cabc : Le hn habc := cbc.trans (l34.trans labc)
      (refine yco (ycp Try.func10 rfl (by kernel_rfl) rfl) (to_max (R3.mono cabc) H d3 m3) rfl rfl rfl ?_ ?_ ?_; (· (exact to_)); (· intro _ _ hle; (exact to_)); intro x px hle)
      obtain ⟨h35, v35, I35⟩ := x
      obtain ⟨S35, M35⟩ := px
      dsimp only at S35 M35
      have l35 : Le habc h35 := hle
      clear hle
      repeat' (first | (refine ycf ?_; apply ybk; (· first | (apply yae; (· rfl); (· (first | exact zc_cell (k := 0) (q := z0) (yaz 0 rfl) rfl rfl | exact zc_cell (k := 1) (q := z1) (yaz 0 rfl) rfl rfl | exact zc_cell (k := 2) (q := z2) (yaz 0 rfl) rfl rfl | exact zc_cell (k := 3) (q := z3) (yaz 0 rfl) rfl rfl)))); (· rfl); (· rfl)) | refine t1_ ?_ | (refine ta_ ?_; intro _) | ((fail_if_success (refine ybi rfl ?_)); refine ybj rfl ?_ ?_ <;> (intro ht; rw [ht]; first | replace ht := of_decide_eq_true ht | replace ht := of_decide_eq_false ht | skip)) | (refine ych ?_; first | (refine ybw rfl ?_ ?_ <;> intro ht) | (refine ybx rfl ?_ ?_ <;> intro ht)))
      (refine yco (ycp Try.func26 rfl (by kernel_rfl) rfl) (merge_max S35 (Sabc.mono l35) H d3 Dabc M35 Mabc) rfl rfl rfl ?_ ?_ ?_; (· (exact to_)); (· intro _ _ hle; (exact to_)); intro x px hle)
      obtain ⟨hq, vq, Iq⟩ := x
      obtain ⟨Sq, Mq⟩ := px
      dsimp only at Sq Mq
      have lq : Le h35 hq := hle
      clear hle
      have cq : Le hn hq := cabc.trans (l35.trans lq)
      have lpq : Le hp hq := bbc.trans (l34.trans (labc.trans (l35.trans lq)))
      have eP : Ip.map Sb.a = W.map Sb.a := Mp.uniq mW fun x => by
        constructor
        · exact sub_app Dab Dcd x
        · intro hx
          simp only [List.mem_append]
          rcases hall x hx with h | h | h | h
          · exact .inl (.inl h)
          · exact .inl (.inr h)
          · exact .inr (.inl h)
          · exact .inr (.inr h)
      have eQ : Iq.map Sb.a = W.map Sb.a := Mq.uniq mW fun x => by
        constructor
        · exact sub_app d3 Dabc x
        · intro hx
          simp only [List.mem_append]
          rcases hall x hx with h | h | h | h
          · exact .inr (.inl h)
          · exact .inr (.inr (.inl h))
          · exact .inr (.inr (.inr h))
          · exact .inl h
      have fP : Fits Ip := fits_eq eP fW
      have fQ : Fits Iq := fits_eq eQ fW
      have W1 := p3.mono ((hle2.trans r2).trans cq)
      repeat' (first | (refine ycf ?_; apply ybk; (· first | (apply yae; (· rfl); (· (first | exact zc_cell (k := 0) (q := z0) (yaz 0 rfl) rfl rfl | exact zc_cell (k := 1) (q := z1) (yaz 0 rfl) rfl rfl | exact zc_cell (k := 2) (q := z2) (yaz 0 rfl) rfl rfl | exact zc_cell (k := 3) (q := z3) (yaz 0 rfl) rfl rfl)))); (· rfl); (· rfl)) | refine t1_ ?_ | (refine ta_ ?_; intro _) | ((fail_if_success (refine ybi rfl ?_)); refine ybj rfl ?_ ?_ <;> (intro ht; rw [ht]; first | replace ht := of_decide_eq_true ht | replace ht := of_decide_eq_false ht | skip)) | (refine ych ?_; first | (refine ybw rfl ?_ ?_ <;> intro ht) | (refine ybx rfl ?_ ?_ <;> intro ht)))
      (refine yco (ycp Try.func28 rfl (by kernel_rfl) rfl) (sfrom_sp vm M hq (r4.mono cq) fM) rfl rfl rfl ?_ ?_ ?_; (· (exact to_)); (· intro _ _ hle; (exact to_)); intro x px hle)
      obtain ⟨hf1, vf1, F1⟩ := x
      obtain ⟨SF1, EF1⟩ := px
      dsimp only at SF1 EF1
      have lf1 : Le hq hf1 := hle
      clear hle
      have SM1 := same_of SF1 (W1.mono lf1) (fits_eq EF1 fM) fW
      rw [decide_eq_true (show F1.map Sb.a = W.map Sb.a by rw [EF1, eMW])] at SM1
      repeat' (first | (refine ycf ?_; apply ybk; (· first | (apply yae; (· rfl); (· (first | exact zc_cell (k := 0) (q := z0) (yaz 0 rfl) rfl rfl | exact zc_cell (k := 1) (q := z1) (yaz 0 rfl) rfl rfl | exact zc_cell (k := 2) (q := z2) (yaz 0 rfl) rfl rfl | exact zc_cell (k := 3) (q := z3) (yaz 0 rfl) rfl rfl)))); (· rfl); (· rfl)) | refine t1_ ?_ | (refine ta_ ?_; intro _) | ((fail_if_success (refine ybi rfl ?_)); refine ybj rfl ?_ ?_ <;> (intro ht; rw [ht]; first | replace ht := of_decide_eq_true ht | replace ht := of_decide_eq_false ht | skip)) | (refine ych ?_; first | (refine ybw rfl ?_ ?_ <;> intro ht) | (refine ybx rfl ?_ ?_ <;> intro ht)))
      (refine ycn (ycp Try.func23 rfl (by kernel_rfl) rfl) (SM1) rfl rfl rfl ?_ ?_; (· (exact to_)))
      repeat' (first | (refine ycf ?_; apply ybk; (· first | (apply yae; (· rfl); (· (first | exact zc_cell (k := 0) (q := z0) (yaz 0 rfl) rfl rfl | exact zc_cell (k := 1) (q := z1) (yaz 0 rfl) rfl rfl | exact zc_cell (k := 2) (q := z2) (yaz 0 rfl) rfl rfl | exact zc_cell (k := 3) (q := z3) (yaz 0 rfl) rfl rfl)))); (· rfl); (· rfl)) | refine t1_ ?_ | (refine ta_ ?_; intro _) | ((fail_if_success (refine ybi rfl ?_)); refine ybj rfl ?_ ?_ <;> (intro ht; rw [ht]; first | replace ht := of_decide_eq_true ht | replace ht := of_decide_eq_false ht | skip)) | (refine ych ?_; first | (refine ybw rfl ?_ ?_ <;> intro ht) | (refine ybx rfl ?_ ?_ <;> intro ht)))
      (refine yco (ycp Try.func28 rfl (by kernel_rfl) rfl) (sfrom_sp vp Ip hf1 (Sp.mono (lpq.trans lf1)) fP) rfl rfl rfl ?_ ?_ ?_; (· (exact to_)); (· intro _ _ hle; (exact to_)); intro x px hle)
      obtain ⟨hf2, vf2, F2⟩ := x
      obtain ⟨SF2, EF2⟩ := px
      dsimp only at SF2 EF2
      have lf2 : Le hf1 hf2 := hle
      clear hle
      have SM2 := same_of SF2 (W1.mono (lf1.trans lf2)) (fits_eq EF2 fP) fW
      rw [decide_eq_true (show F2.map Sb.a = W.map Sb.a by rw [EF2, eP])] at SM2
      repeat' (first | (refine ycf ?_; apply ybk; (· first | (apply yae; (· rfl); (· (first | exact zc_cell (k := 0) (q := z0) (yaz 0 rfl) rfl rfl | exact zc_cell (k := 1) (q := z1) (yaz 0 rfl) rfl rfl | exact zc_cell (k := 2) (q := z2) (yaz 0 rfl) rfl rfl | exact zc_cell (k := 3) (q := z3) (yaz 0 rfl) rfl rfl)))); (· rfl); (· rfl)) | refine t1_ ?_ | (refine ta_ ?_; intro _) | ((fail_if_success (refine ybi rfl ?_)); refine ybj rfl ?_ ?_ <;> (intro ht; rw [ht]; first | replace ht := of_decide_eq_true ht | replace ht := of_decide_eq_false ht | skip)) | (refine ych ?_; first | (refine ybw rfl ?_ ?_ <;> intro ht) | (refine ybx rfl ?_ ?_ <;> intro ht)))
      (refine ycn (ycp Try.func23 rfl (by kernel_rfl) rfl) (SM2) rfl rfl rfl ?_ ?_; (· (exact to_)))
      have SM3 := sme_of (Sp.mono (lpq.trans (lf1.trans lf2))) (Sq.mono (lf1.trans lf2)) fP fQ
      rw [decide_eq_true (show Ip.map Sb.a = Iq.map Sb.a by rw [eP, eQ])] at SM3
      repeat' (first | (refine ycf ?_; apply ybk; (· first | (apply yae; (· rfl); (· (first | exact zc_cell (k := 0) (q := z0) (yaz 0 rfl) rfl rfl | exact zc_cell (k := 1) (q := z1) (yaz 0 rfl) rfl rfl | exact zc_cell (k := 2) (q := z2) (yaz 0 rfl) rfl rfl | exact zc_cell (k := 3) (q := z3) (yaz 0 rfl) rfl rfl)))); (· rfl); (· rfl)) | refine t1_ ?_ | (refine ta_ ?_; intro _) | ((fail_if_success (refine ybi rfl ?_)); refine ybj rfl ?_ ?_ <;> (intro ht; rw [ht]; first | replace ht := of_decide_eq_true ht | replace ht := of_decide_eq_false ht | skip)) | (refine ych ?_; first | (refine ybw rfl ?_ ?_ <;> intro ht) | (refine ybx rfl ?_ ?_ <;> intro ht)))
      (refine ycn (ycp Try.func25 rfl (by kernel_rfl) rfl) (SM3) rfl rfl rfl ?_ ?_; (· (exact to_)))
      repeat' (first | (refine ycf ?_; apply ybk; (· first | (apply yae; (· rfl); (· (first | exact zc_cell (k := 0) (q := z0) (yaz 0 rfl) rfl rfl | exact zc_cell (k := 1) (q := z1) (yaz 0 rfl) rfl rfl | exact zc_cell (k := 2) (q := z2) (yaz 0 rfl) rfl rfl | exact zc_cell (k := 3) (q := z3) (yaz 0 rfl) rfl rfl)))); (· rfl); (· rfl)) | refine t1_ ?_ | (refine ta_ ?_; intro _) | ((fail_if_success (refine ybi rfl ?_)); refine ybj rfl ?_ ?_ <;> (intro ht; rw [ht]; first | replace ht := of_decide_eq_true ht | replace ht := of_decide_eq_false ht | skip)) | (refine ych ?_; first | (refine ybw rfl ?_ ?_ <;> intro ht) | (refine ybx rfl ?_ ?_ <;> intro ht)))
      exact nx_ret1 rfl (rv_tmp rfl) (fun w' s' => ⟨h, rfl, s'.nil.base⟩)
end Go.Proofs.Ytkkjppeaaicgaaa
end
