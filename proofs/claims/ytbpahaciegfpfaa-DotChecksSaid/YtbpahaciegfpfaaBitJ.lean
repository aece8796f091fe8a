/-
  BitJ: casketref14.Read.
  Conditions: at most a million bytes.
-/
import Derived.Test.YtbpahaciegfpfaaBitI
import Derived.Test.YtbpahaciegfpfaaDotV
namespace Go.Proofs.Ytbpahaciegfpfaa
open Go Go.Ck
set_option maxRecDepth 100000
set_option maxHeartbeats 2000000
set_option linter.unusedVariables false

theorem numC_err {s : RS} (h : s.2 ≠ 0) (size : Nat) (most : Int) : numC s size most = (0, s) := by unfold numC; rw [if_pos h]
theorem dsC_err {s : RS} {k : Nat} (h : (dsC k s).2.2 ≠ 0) : ∀ j, (dsC (k + j) s).2 = (dsC k s).2
  | 0 => rfl
  | j + 1 => by
    have ih := dsC_err h j
    show (numC (numC (dsC (k + j) s).2 8 1099511627776).2 8 1099511627776).2 = _
    rw [ih, numC_err h, numC_err h]
theorem endC_err {s : RS} (h : s.2 ≠ 0) : endC s ≠ 0 := by
  unfold endC
  split
  · decide
  · exact h

theorem rRead_sp (l : List Int) (hb : Bytes l) (hl : l.length ≤ 1000000) (h : View) (w : World) (s : St ⟨w, h, []⟩ h [] w) :
    Calls Try.prog 26 [.string (bstr l)].toArray w fun en w' => ∃ x : View × Value × Bool, en = .returned (.tuple #[x.2.1, .bool x.2.2]) ∧ St ⟨w, h, []⟩ x.1 [] w' ∧
      (if endC (rdC l).2.2 = 0 ∧ checkC (rdC l).1 (rdC l).2.1 = 0 then x.2.2 = true ∧ Cx x.1 x.2.1 (rdC l).1 (rdC l).2.1 else x.2.2 = false ∧ Cx x.1 x.2.1 zeroU []) := by
  have hok0 : RsOk (l, 0) := ⟨hb, hl⟩
  refine calls_enter Try.func26 rfl Try.ntmps26 rfl s ?_
  repeat' (first | refine tw_ ?_ | (refine ta_ ?_; intro _) | ((fail_if_success (refine ybi rfl ?_)); refine ybj rfl ?_ ?_ <;> (intro ht; rw [ht]; first | replace ht := of_decide_eq_true ht | replace ht := of_decide_eq_false ht | skip)) | (refine ych ?_; first | (refine ybw rfl ?_ ?_ <;> intro ht) | (refine ybx rfl ?_ ?_ <;> intro ht)))
  rename_i b2 bi b5
  refine cx_loop (X := Nat) (fun y => [(2, .pointer (some ⟨b2, 0, none⟩)), (3, .bool false), (4, .pointer (some ⟨bi, 0, none⟩)), (5, .pointer (some ⟨b5, 0, none⟩)), (6, .int .i64 y)]) (fun _ => h)
    (fun y => [rinR bi (upsC y (l, 0)).2.1 (upsC y (l, 0)).2.2, Res.blk b5 (.cells (cxc (padU (upsC y (l, 0)).1) (.slice none 0 0)).toArray 36 (0, 0)), Res.blk b2 (.cells (cxc zeroU (.slice none 0 0)).toArray 36 (0, 0))])
    (fun y => y ≤ 16) (fun y => 16 - y) 0 (Nat.zero_le _) ts_ (fun _ s => s.perm (List.Perm.swap _ _ _)) ?_
  intro k hk
  obtain ⟨hok, hul⟩ := upsC_ok hok0 k
  by_cases hk16 : k < 16
  · have hset : ∀ x : Int, (padU (upsC k (l, 0)).1).set k x = padU ((upsC k (l, 0)).1 ++ [x]) := fun x => padU_set hul hk16
    have hpl : (padU (upsC k (l, 0)).1).length = 16 := padU_len (by omega)
    have eS : upsC (k + 1) (l, 0) = ((upsC k (l, 0)).1 ++ [(numC (upsC k (l, 0)).2 8 1099511627776).1], (numC (upsC k (l, 0)).2 8 1099511627776).2) := rfl
    generalize upsC k (l, 0) = U at hok hul hset hpl eS ⊢
    obtain ⟨us, ls, e⟩ := U
    dsimp only at hok hul hset hpl eS ⊢
    repeat' (first | refine tw_ ?_ | (refine ta_ ?_; intro _) | ((fail_if_success (refine ybi rfl ?_)); refine ybj rfl ?_ ?_ <;> (intro ht; rw [ht]; first | replace ht := of_decide_eq_true ht | replace ht := of_decide_eq_false ht | skip)) | (refine ych ?_; first | (refine ybw rfl ?_ ?_ <;> intro ht) | (refine ybx rfl ?_ ?_ <;> intro ht)))
    (refine rx_call_m (ycp Try.func46 rfl (by kernel_rfl) rfl) (perm_at (k := 0) rfl) (rNum_sp bi ls e 1099511627776 hok.b (by omega) h) rfl rfl rfl ?_ ?_ ?_; (· (exact to_)); (· intro _ _ hle; (exact to_)); intro x px hle)
    generalize numC (ls, e) 8 1099511627776 = N at px eS ⊢
    obtain ⟨nv, ns⟩ := N
    dsimp only at px eS ⊢
    repeat' (first | (refine ybg 1 rfl rfl rfl rfl (fit_cxc (i := k) hpl (by omega) (by omega)) rfl (spl_cxc (i := k) (by omega) (by omega)) rfl rfl ?_ ?_ ?_; (· (exact to_)); (· (exact to_))) | refine t1_ ?_ | (refine ta_ ?_; intro _) | ((fail_if_success (refine ybi rfl ?_)); refine ybj rfl ?_ ?_ <;> (intro ht; rw [ht]; first | replace ht := of_decide_eq_true ht | replace ht := of_decide_eq_false ht | skip)) | (refine ych ?_; first | (refine ybw rfl ?_ ?_ <;> intro ht) | (refine ybx rfl ?_ ?_ <;> intro ht)))
    · refine nx_round (k + 1) (by show k + 1 ≤ 16; omega) (by show 16 - (k+1) < 16 - k; omega) ts_ (fun _ s => ?_)
      rw [eS]
      rw [hset] at s
      exact s
    · omega
  · have ek : k = 16 := by omega
    subst ek
    have hp : padU (upsC 16 (l, 0)).1 = (upsC 16 (l, 0)).1 := padU_full hul
    have eR : rdC l = ((upsC 16 (l, 0)).1, (dsC (smC l).1.toNat (smC l).2).1, (dsC (smC l).1.toNat (smC l).2).2) := rfl
    have eM : smC l = numC (upsC 16 (l, 0)).2 1 32 := rfl
    rw [hp]
    generalize upsC 16 (l, 0) = U at hok hul eR eM ⊢
    obtain ⟨us, ls, e⟩ := U
    dsimp only at hok hul eR eM ⊢
    repeat' (first | (refine ybg 1 rfl rfl rfl rfl (fit_cxc (i := k) hpl (by omega) (by omega)) rfl (spl_cxc (i := k) (by omega) (by omega)) rfl rfl ?_ ?_ ?_; (· (exact to_)); (· (exact to_))) | refine t1_ ?_ | (refine ta_ ?_; intro _) | ((fail_if_success (refine ybi rfl ?_)); refine ybj rfl ?_ ?_ <;> (intro ht; rw [ht]; first | replace ht := of_decide_eq_true ht | replace ht := of_decide_eq_false ht | skip)) | (refine ych ?_; first | (refine ybw rfl ?_ ?_ <;> intro ht) | (refine ybx rfl ?_ ?_ <;> intro ht)))
    (refine rx_call_m (ycp Try.func47 rfl (by kernel_rfl) rfl) (perm_at (k := 0) rfl) (rSmall_sp bi ls e 32 hok.b (by omega) h) rfl rfl rfl ?_ ?_ ?_; (· (exact to_)); (· intro _ _ hle; (exact to_)); intro x px hle)
    have hok2 : RsOk (smC l).2 := by rw [eM]; exact hok.num _ _
    have hbd : 0 ≤ (smC l).1 ∧ (smC l).1 ≤ 32 := by rw [eM]; exact numC_bd hok (by omega)
    rw [← eM]
    generalize smC l = M at eR hok2 hbd ⊢
    obtain ⟨nv, ls2, e2⟩ := M
    dsimp only at eR hok2 hbd ⊢
    repeat' (first | (refine ybg 1 rfl rfl rfl rfl (fit_cxc (i := k) hpl (by omega) (by omega)) rfl (spl_cxc (i := k) (by omega) (by omega)) rfl rfl ?_ ?_ ?_; (· (exact to_)); (· (exact to_))) | refine t1_ ?_ | (refine ta_ ?_; intro _) | ((fail_if_success (refine ybi rfl ?_)); refine ybj rfl ?_ ?_ <;> (intro ht; rw [ht]; first | replace ht := of_decide_eq_true ht | replace ht := of_decide_eq_false ht | skip)) | (refine ych ?_; first | (refine ybw rfl ?_ ?_ <;> intro ht) | (refine ybx rfl ?_ ?_ <;> intro ht)))
    refine cx_row 24 2 ?_
    refine cx_loop (X := Nat × Value) (fun y => [(2, .pointer (some ⟨b2, 0, none⟩)), (3, .bool false), (4, .pointer (some ⟨bi, 0, none⟩)), (5, .pointer (some ⟨b5, 0, none⟩)), (7, .int .i64 nv), (8, .int .i64 y.1)]) (fun _ => h)
      (fun y => [rinR bi (dsC y.1 (ls2, e2)).2.1 (dsC y.1 (ls2, e2)).2.2, Res.row 24 2 y.2 y.1 ((dsC y.1 (ls2, e2)).1.flatMap dcs), Res.blk b5 (.cells (cxc us y.2).toArray 36 (0, 0)), Res.blk b2 (.cells (cxc zeroU (.slice none 0 0)).toArray 36 (0, 0))])
      (fun y => y.1 ≤ nv.toNat) (fun y => nv.toNat - y.1) (0, .slice none 0 0) (Nat.zero_le _) ts_ (fun _ s => s.perm (List.Perm.swap _ _ _)) ?_
    rintro ⟨k, mv⟩ hk1
    dsimp only at hk1 ⊢
    obtain ⟨hok3, hdl⟩ := dsC_ok hok2 k
    by_cases hgo : k < nv.toNat ∧ (dsC k (ls2, e2)).2.2 = 0
    · obtain ⟨hkn, hz⟩ := hgo
      have eD : dsC (k + 1) (ls2, e2) = ((dsC k (ls2, e2)).1 ++ [((numC (dsC k (ls2, e2)).2 8 1099511627776).1, (numC (numC (dsC k (ls2, e2)).2 8 1099511627776).2 8 1099511627776).1)], (numC (numC (dsC k (ls2, e2)).2 8 1099511627776).2 8 1099511627776).2) := rfl
      generalize dsC k (ls2, e2) = D at hok3 hdl hz eD ⊢
      obtain ⟨ds, ls3, e3⟩ := D
      dsimp only at hok3 hdl hz eD ⊢
      subst hdl
      subst hz
      repeat' (first | (refine ycf ?_; apply ybk; (· first | (apply qv_nilCheck; rfl)); (· rfl); (· rfl)) | (refine ybg 1 rfl rfl rfl rfl (fit_cxc (i := k) hpl (by omega) (by omega)) rfl (spl_cxc (i := k) (by omega) (by omega)) rfl rfl ?_ ?_ ?_; (· (exact to_)); (· (exact to_))) | refine t1_ ?_ | (refine ta_ ?_; intro _) | ((fail_if_success (refine ybi rfl ?_)); refine ybj rfl ?_ ?_ <;> (intro ht; rw [ht]; first | replace ht := of_decide_eq_true ht | replace ht := of_decide_eq_false ht | skip)) | (refine ych ?_; first | (refine ybw rfl ?_ ?_ <;> intro ht) | (refine ybx rfl ?_ ?_ <;> intro ht)))
      (refine rx_call_m (ycp Try.func46 rfl (by kernel_rfl) rfl) (perm_at (k := 0) rfl) (rNum_sp bi ls3 0 1099511627776 hok3.b (by omega) h) rfl rfl rfl ?_ ?_ ?_; (· (exact to_)); (· intro _ _ hle; (exact to_)); intro x px hle)
      have hok4 := hok3.num 8 1099511627776
      generalize numC (ls3, 0) 8 1099511627776 = N1 at px eD hok4 ⊢
      obtain ⟨n1, ls4, e4⟩ := N1
      dsimp only at px eD hok4 ⊢
      repeat' (first | (refine ycf ?_; apply ybk; (· first | (apply qv_nilCheck; rfl)); (· rfl); (· rfl)) | (refine ybg 1 rfl rfl rfl rfl (fit_cxc (i := k) hpl (by omega) (by omega)) rfl (spl_cxc (i := k) (by omega) (by omega)) rfl rfl ?_ ?_ ?_; (· (exact to_)); (· (exact to_))) | refine t1_ ?_ | (refine ta_ ?_; intro _) | ((fail_if_success (refine ybi rfl ?_)); refine ybj rfl ?_ ?_ <;> (intro ht; rw [ht]; first | replace ht := of_decide_eq_true ht | replace ht := of_decide_eq_false ht | skip)) | (refine ych ?_; first | (refine ybw rfl ?_ ?_ <;> intro ht) | (refine ybx rfl ?_ ?_ <;> intro ht)))
      rename_i b7
      (refine rx_call_m (ycp Try.func46 rfl (by kernel_rfl) rfl) (perm_at (k := 1) rfl) (rNum_sp bi ls4 e4 1099511627776 hok4.b (by omega) h) rfl rfl rfl ?_ ?_ ?_; (· (exact to_)); (· intro _ _ hle; (exact to_)); intro x px hle)
      generalize numC (ls4, e4) 8 1099511627776 = N2 at px eD ⊢
      obtain ⟨n2, ls5, e5⟩ := N2
      dsimp only at px eD ⊢
      repeat' (first|(refine ycf ?_;apply ybk;(·first|(apply qv_nilCheck;rfl)|(apply yae;(·rfl);(·(first|exact yck (yaz 3 rfl) hul rfl|exact yck (yaz 4 rfl) hul rfl))));(·rfl);(·rfl))|(refine ybg 1 rfl rfl rfl rfl (fit_cxc (i := k) hpl (by omega) (by omega)) rfl (spl_cxc (i := k) (by omega) (by omega)) rfl rfl ?_ ?_ ?_;(·(exact to_));(·(exact to_)))|refine t1_ ?_|(refine ta_ ?_;intro _)|((fail_if_success (refine ybi rfl ?_));refine ybj rfl ?_ ?_<;>(intro ht;rw [ht];first|replace ht := of_decide_eq_true ht|replace ht := of_decide_eq_false ht|skip))|(refine ych ?_;first|(refine ybw rfl ?_ ?_<;>intro ht)|(refine ybx rfl ?_ ?_<;>intro ht)))
      refine rx_append (sz := 2) 3 rfl rfl rfl (yaz 0 rfl) rfl (one_dcs [(n1, n2)]) rfl (by omega) (by unfold maxLen; omega) (by omega) rfl rfl rfl ybf (fun _ => ybf) ?_
      intro v3 _
      refine rx_rowform 3 rfl (fun _ h0 _ => (by omega)) ?_
      rintro g3 cap3 rfl
      repeat' (first | (refine ycf ?_; apply ybk; (· first | (apply qv_nilCheck; rfl) | (apply yae; (· rfl); (· (first | exact yck (yaz 3 rfl) hul rfl | exact yck (yaz 4 rfl) hul rfl)))); (· rfl); (· rfl)) | (refine ybg 4 rfl rfl rfl rfl (fit_more hul) rfl (spl_more hul) rfl rfl ?_ ?_ ?_; (· (exact to_)); (· (exact to_))) | refine t1_ ?_ | (refine ta_ ?_; intro _) | ((fail_if_success (refine ybi rfl ?_)); refine ybj rfl ?_ ?_ <;> (intro ht; rw [ht]; first | replace ht := of_decide_eq_true ht | replace ht := of_decide_eq_false ht | skip)) | (refine ych ?_; first | (refine ybw rfl ?_ ?_ <;> intro ht) | (refine ybx rfl ?_ ?_ <;> intro ht)))
      refine nx_round (ds.length + 1, .slice (some ⟨g3, 0, none⟩) (ds.length + 1) cap3) (by show ds.length + 1 ≤ _; omega) (by show nv.toNat - (ds.length + 1) < nv.toNat - ds.length; omega) ts_ (fun _ s => ?_)
      dsimp only
      rw [eD]
      dsimp only
      rw [List.flatMap_append]
      exact (s.tl.perm (List.Perm.swap _ _ _)).tl
      omega
    · by_cases hkn : k < nv.toNat
      · have hz : (dsC k (ls2, e2)).2.2 ≠ 0 := fun hx => hgo ⟨hkn, hx⟩
        have hbad : ¬ (endC (rdC l).2.2 = 0 ∧ checkC (rdC l).1 (rdC l).2.1 = 0) := by
          rw [eR]
          intro hx
          have h1 := dsC_err hz (nv.toNat - k)
          rw [Nat.add_sub_cancel' hk1] at h1
          refine endC_err ?_ hx.1
          show (dsC nv.toNat (ls2, e2)).2.2 ≠ 0
          rw [h1]; exact hz
        generalize dsC k (ls2, e2) = D at hok3 hdl hz ⊢
        obtain ⟨ds, ls3, e3⟩ := D
        dsimp only at hok3 hdl hz ⊢
        subst hdl
        have hee : endC (ls3, e3) ≠ 0 := endC_err hz
        repeat' (first | (refine ycf ?_; apply ybk; (· first | (apply qv_nilCheck; rfl) | (apply yae; (· rfl); (· (first | exact yck (yaz 3 rfl) hul rfl | exact yck (yaz 4 rfl) hul rfl)))); (· rfl); (· rfl)) | (refine ybg 4 rfl rfl rfl rfl (fit_more hul) rfl (spl_more hul) rfl rfl ?_ ?_ ?_; (· (exact to_)); (· (exact to_))) | refine t1_ ?_ | (refine ta_ ?_; intro _) | ((fail_if_success (refine ybi rfl ?_)); refine ybj rfl ?_ ?_ <;> (intro ht; rw [ht]; first | replace ht := of_decide_eq_true ht | replace ht := of_decide_eq_false ht | skip)) | (refine ych ?_; first | (refine ybw rfl ?_ ?_ <;> intro ht) | (refine ybx rfl ?_ ?_ <;> intro ht)))
        · omega
        · (refine rx_call_m (ycp Try.func48 rfl (by kernel_rfl) rfl) (perm_at (k := 0) rfl) (rEnd_sp bi ls3 e3 h) rfl rfl rfl ?_ ?_ ?_; (· (exact to_)); (· intro _ _ hle; (exact to_)); intro x px hle)
          generalize endC (ls3, e3) = ez at hee ⊢
          repeat' (first | (refine ycf ?_; apply ybk; (· first | (apply qv_nilCheck; rfl) | (apply yae; (· rfl); (· (first | exact yck (yaz 3 rfl) hul rfl | exact yck (yaz 4 rfl) hul rfl)))); (· rfl); (· rfl)) | (refine ybg 4 rfl rfl rfl rfl (fit_more hul) rfl (spl_more hul) rfl rfl ?_ ?_ ?_; (· (exact to_)); (· (exact to_))) | refine t1_ ?_ | (refine ta_ ?_; intro _) | ((fail_if_success (refine ybi rfl ?_)); refine ybj rfl ?_ ?_ <;> (intro ht; rw [ht]; first | replace ht := of_decide_eq_true ht | replace ht := of_decide_eq_false ht | skip)) | (refine ych ?_; first | (refine ybw rfl ?_ ?_ <;> intro ht) | (refine ybx rfl ?_ ?_ <;> intro ht)))
          · refine nx_ret2 rfl (rv_cells rfl (yaz 3 rfl) rfl) (rv_tmp rfl) (fun w' s' => ⟨(h, cxv zeroU (.slice none 0 0), false), rfl, s'.nil, ?_⟩)
            rw [if_neg hbad]
            exact ⟨rfl, rfl, _, rfl, Sc.nil h 2 none 0⟩
          · omega
        · omega
      · have ek : k = nv.toNat := by omega
        subst ek
        generalize dsC nv.toNat (ls2, e2) = D at hok3 hdl eR ⊢
        obtain ⟨ds, ls3, e3⟩ := D
        dsimp only at hok3 hdl eR ⊢
        rw [eR]
        dsimp only
        repeat' (first | (refine ycf ?_; apply ybk; (· first | (apply qv_nilCheck; rfl) | (apply yae; (· rfl); (· (first | exact yck (yaz 3 rfl) hul rfl | exact yck (yaz 4 rfl) hul rfl)))); (· rfl); (· rfl)) | (refine ybg 4 rfl rfl rfl rfl (fit_more hul) rfl (spl_more hul) rfl rfl ?_ ?_ ?_; (· (exact to_)); (· (exact to_))) | refine t1_ ?_ | (refine ta_ ?_; intro _) | ((fail_if_success (refine ybi rfl ?_)); refine ybj rfl ?_ ?_ <;> (intro ht; rw [ht]; first | replace ht := of_decide_eq_true ht | replace ht := of_decide_eq_false ht | skip)) | (refine ych ?_; first | (refine ybw rfl ?_ ?_ <;> intro ht) | (refine ybx rfl ?_ ?_ <;> intro ht)))
        · omega
        · omega
        refine rx_perm (perm_at (k := 1) rfl) ?_
        refine rx_persist rfl fun h3 hle3 hsm => ?_
        rw [← hdl] at hsm
        replace hsm : Ds h3 mv ds := hsm
        obtain ⟨_, ad2, cap2, rfl, _, _⟩ := id hsm
        have hcx : Cx h3 (cxv us (.slice ad2 ds.length cap2)) us ds := ⟨hul, _, rfl, hsm⟩
        (refine rx_call_m (ycp Try.func48 rfl (by kernel_rfl) rfl) (perm_at (k := 0) rfl) (rEnd_sp bi ls3 e3 h3) rfl rfl rfl ?_ ?_ ?_; (· (exact to_)); (· intro _ _ hle; (exact to_)); intro x px hle)
        by_cases hE : endC (ls3, e3) = 0
        · rw [hE]
          repeat' (first|(refine ycf ?_;apply ybk;(·first|(first|(apply qv_nilCheck;rfl)|(apply yad;(·rfl);(·exact yaz 1 rfl);(·exact ycj hul)))|(apply yae;(·rfl);(·(first|exact yck (yaz 3 rfl) hul rfl|exact yck (yaz 4 rfl) hul rfl))));(·rfl);(·rfl))|(refine ybg 2 rfl rfl rfl (cxc_sz hul) (cxc_fit hul) (cxc_one rfl) (ybh (cxc_all hul)) rfl rfl ?_ ?_ ?_;(·(exact to_));(·(exact to_)))|refine t1_ ?_|(refine ta_ ?_;intro _)|((fail_if_success (refine ybi rfl ?_));refine ybj rfl ?_ ?_<;>(intro ht;rw [ht];first|replace ht := of_decide_eq_true ht|replace ht := of_decide_eq_false ht|skip))|(refine ych ?_;first|(refine ybw rfl ?_ ?_<;>intro ht)|(refine ybx rfl ?_ ?_<;>intro ht)))
          (refine ycn (ycp Try.func28 rfl (by kernel_rfl) rfl) (refCheck_sp _ us ds h3 hcx (by omega)) rfl rfl rfl ?_ ?_; (· (exact to_)))
          by_cases hC : checkC us ds = 0
          · rw [hC]
            repeat' (first|(refine ycf ?_;apply ybk;(·first|(first|(apply qv_nilCheck;rfl)|(apply yad;(·rfl);(·exact yaz 1 rfl);(·exact ycj hul)))|(apply yae;(·rfl);(·(first|exact yck (yaz 3 rfl) hul rfl|exact yck (yaz 4 rfl) hul rfl))));(·rfl);(·rfl))|(refine ybg 2 rfl rfl rfl (cxc_sz hul) (cxc_fit hul) (cxc_one rfl) (ybh (cxc_all hul)) rfl rfl ?_ ?_ ?_;(·(exact to_));(·(exact to_)))|refine t1_ ?_|(refine ta_ ?_;intro _)|((fail_if_success (refine ybi rfl ?_));refine ybj rfl ?_ ?_<;>(intro ht;rw [ht];first|replace ht := of_decide_eq_true ht|replace ht := of_decide_eq_false ht|skip))|(refine ych ?_;first|(refine ybw rfl ?_ ?_<;>intro ht)|(refine ybx rfl ?_ ?_<;>intro ht)))
            refine nx_ret2 rfl (rv_cells rfl (yaz 2 rfl) (cxc_all hul)) (rv_tmp rfl) (fun w' s' => ⟨(h3, cxv us (.slice ad2 ds.length cap2), true), rfl, s'.nil, ?_⟩)
            rw [if_pos ⟨rfl, rfl⟩]
            exact ⟨rfl, hcx⟩
          · generalize hCz : checkC us ds = cz at hC ⊢
            repeat' (first|(refine ycf ?_;apply ybk;(·first|(first|(apply qv_nilCheck;rfl)|(apply yad;(·rfl);(·exact yaz 1 rfl);(·exact ycj hul)))|(apply yae;(·rfl);(·(first|exact yck (yaz 3 rfl) hul rfl|exact yck (yaz 4 rfl) hul rfl))));(·rfl);(·rfl))|(refine ybg 2 rfl rfl rfl (cxc_sz hul) (cxc_fit hul) (cxc_one rfl) (ybh (cxc_all hul)) rfl rfl ?_ ?_ ?_;(·(exact to_));(·(exact to_)))|refine t1_ ?_|(refine ta_ ?_;intro _)|((fail_if_success (refine ybi rfl ?_));refine ybj rfl ?_ ?_<;>(intro ht;rw [ht];first|replace ht := of_decide_eq_true ht|replace ht := of_decide_eq_false ht|skip))|(refine ych ?_;first|(refine ybw rfl ?_ ?_<;>intro ht)|(refine ybx rfl ?_ ?_<;>intro ht)))
            · refine nx_ret2 rfl (rv_cells rfl (yaz 2 rfl) rfl) (rv_tmp rfl) (fun w' s' => ⟨(h3, cxv zeroU (.slice none 0 0), false), rfl, s'.nil, ?_⟩)
              rw [if_neg (fun hx => hC hx.2)]
              exact ⟨rfl, rfl, _, rfl, Sc.nil h3 2 none 0⟩
            · omega
        · generalize hEz : endC (ls3, e3) = ez at hE ⊢
          repeat' (first|(refine ycf ?_;apply ybk;(·first|(first|(apply qv_nilCheck;rfl)|(apply yad;(·rfl);(·exact yaz 1 rfl);(·exact ycj hul)))|(apply yae;(·rfl);(·(first|exact yck (yaz 3 rfl) hul rfl|exact yck (yaz 4 rfl) hul rfl))));(·rfl);(·rfl))|(refine ybg 2 rfl rfl rfl (cxc_sz hul) (cxc_fit hul) (cxc_one rfl) (ybh (cxc_all hul)) rfl rfl ?_ ?_ ?_;(·(exact to_));(·(exact to_)))|refine t1_ ?_|(refine ta_ ?_;intro _)|((fail_if_success (refine ybi rfl ?_));refine ybj rfl ?_ ?_<;>(intro ht;rw [ht];first|replace ht := of_decide_eq_true ht|replace ht := of_decide_eq_false ht|skip))|(refine ych ?_;first|(refine ybw rfl ?_ ?_<;>intro ht)|(refine ybx rfl ?_ ?_<;>intro ht)))
          · refine nx_ret2 rfl (rv_cells rfl (yaz 2 rfl) rfl) (rv_tmp rfl) (fun w' s' => ⟨(h3, cxv zeroU (.slice none 0 0), false), rfl, s'.nil, ?_⟩)
            rw [if_neg (fun hx => hE hx.1)]
            exact ⟨rfl, rfl, _, rfl, Sc.nil h3 2 none 0⟩
          · omega
end Go.Proofs.Ytbpahaciegfpfaa
