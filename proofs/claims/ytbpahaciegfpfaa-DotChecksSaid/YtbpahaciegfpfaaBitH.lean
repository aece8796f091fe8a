/-
  BitH: dot.Read.
  Conditions: at most a million bytes.
-/
import Derived.Test.YtbpahaciegfpfaaBitG
namespace Go.Proofs.Ytbpahaciegfpfaa
open Go Go.Ck
set_option maxRecDepth 100000
set_option maxHeartbeats 2000000
set_option linter.unusedVariables false

abbrev RS : Type := List Int × Int
def upsC : Nat → RS → List Int × RS
  | 0, s => ([], s)
  | k + 1, s => ((upsC k s).1 ++ [(numC (upsC k s).2 8 1099511627776).1], (numC (upsC k s).2 8 1099511627776).2)
def dsC : Nat → RS → List Dt × RS
  | 0, s => ([], s)
  | k + 1, s => ((dsC k s).1 ++ [((numC (dsC k s).2 8 1099511627776).1, (numC (numC (dsC k s).2 8 1099511627776).2 8 1099511627776).1)], (numC (numC (dsC k s).2 8 1099511627776).2 8 1099511627776).2)
def smC (l : List Int) : Int × RS := numC (upsC 16 (l, 0)).2 1 32
def rdC (l : List Int) : List Int × List Dt × RS := ((upsC 16 (l, 0)).1, (dsC (smC l).1.toNat (smC l).2).1, (dsC (smC l).1.toNat (smC l).2).2)

structure RsOk (s : RS) : Prop where
  b : Bytes s.1
  l : s.1.length ≤ 1000000
theorem RsOk.num {s : RS} (h : RsOk s) (size : Nat) (most : Int) : RsOk (numC s size most).2 := by
  unfold numC
  split
  · exact h
  · split
    · exact ⟨fun x hx => h.b x (List.mem_of_mem_drop hx), by have := h.l; simp only [List.length_drop]; omega⟩
    · exact ⟨h.b, h.l⟩
theorem numC_bd {s : RS} (h : RsOk s) {size : Nat} {most : Int} (hm : 0 ≤ most) : 0 ≤ (numC s size most).1 ∧ (numC s size most).1 ≤ most := by
  unfold numC
  split
  · exact ⟨Int.le_refl _, hm⟩
  · split
    · unfold lookC
      split
      · exact ⟨Int.le_refl _, hm⟩
      · rename_i _ _ hs
        split
        · exact ⟨Int.le_refl _, hm⟩
        · have := valB_bd h.b size (by omega)
          exact ⟨this.1, by dsimp only; omega⟩
    · exact ⟨Int.le_refl _, hm⟩
theorem upsC_ok {s : RS} (h : RsOk s) : ∀ k, RsOk (upsC k s).2 ∧ (upsC k s).1.length = k
  | 0 => ⟨h, rfl⟩
  | k + 1 => ⟨(upsC_ok h k).1.num _ _, by simp [upsC, (upsC_ok h k).2]⟩
theorem dsC_ok {s : RS} (h : RsOk s) : ∀ k, RsOk (dsC k s).2 ∧ (dsC k s).1.length = k
  | 0 => ⟨h, rfl⟩
  | k + 1 => ⟨((dsC_ok h k).1.num _ _).num _ _, by simp [dsC, (dsC_ok h k).2]⟩

def padU (us : List Int) : List Int := us ++ List.replicate (16 - us.length) 0
theorem padU_len {us : List Int} (h : us.length ≤ 16) : (padU us).length = 16 := by simp [padU]; omega
theorem padU_set {us : List Int} {x : Int} {k : Nat} (hk : us.length = k) (h : k < 16) : (padU us).set k x = padU (us ++ [x]) := by
  subst hk
  unfold padU
  rw [List.set_append_right _ _ (Nat.le_refl _), Nat.sub_self, show 16 - us.length = (16 - (us ++ [x]).length) + 1 by simp; omega, List.replicate_succ, List.set_cons_zero]
  simp
theorem padU_full {us : List Int} (h : us.length = 16) : padU us = us := by simp [padU, h]

theorem Read_sp (sv : Value) (l : List Int) (hb : Bytes l) (hl : l.length ≤ 1000000) (h : View) (hs : Bs8 h sv l) (w : World) (s : St ⟨w, h, []⟩ h [] w) :
    Calls Try.prog 25 [sv].toArray w fun en w' => ∃ x : View × Value × Int, en = .returned (.tuple #[x.2.1, .int .i64 x.2.2]) ∧ St ⟨w, h, []⟩ x.1 [] w' ∧
      (if endC (rdC l).2.2 = 0 ∧ checkC (rdC l).1 (rdC l).2.1 = 0 then x.2.2 = 0 ∧ Cx x.1 x.2.1 (rdC l).1 (rdC l).2.1 else x.2.2 = 2 ∧ Cx x.1 x.2.1 zeroU []) := by
  have hok0 : RsOk (l, 0) := ⟨hb, hl⟩
  refine calls_enter Try.func25 rfl Try.ntmps25 rfl s ?_
  repeat' (first | refine tw_ ?_ | (refine ta_ ?_; intro _) | ((fail_if_success (refine ybi rfl ?_)); refine ybj rfl ?_ ?_ <;> (intro ht; rw [ht]; first | replace ht := of_decide_eq_true ht | replace ht := of_decide_eq_false ht | skip)) | (refine ych ?_; first | (refine ybw rfl ?_ ?_ <;> intro ht) | (refine ybx rfl ?_ ?_ <;> intro ht)))
  (refine yco (ycp Try.func42 rfl (by kernel_rfl) rfl) (Of_sp sv l hl h hs) rfl rfl rfl ?_ ?_ ?_; (· (exact to_)); (· intro _ _ hle; (exact to_)); intro x px hle)
  obtain ⟨h1, bi, v⟩ := x
  replace hle : Le h h1 := hle
  have hv1 : Bs8 h1 v l := px
  clear px
  repeat' (first | refine tw_ ?_ | (refine ta_ ?_; intro _) | ((fail_if_success (refine ybi rfl ?_)); refine ybj rfl ?_ ?_ <;> (intro ht; rw [ht]; first | replace ht := of_decide_eq_true ht | replace ht := of_decide_eq_false ht | skip)) | (refine ych ?_; first | (refine ybw rfl ?_ ?_ <;> intro ht) | (refine ybx rfl ?_ ?_ <;> intro ht)))
  rename_i b2 b5
  refine cx_loop (X := Nat × Value) (fun y => [(2, .pointer (some ⟨b2, 0, none⟩)), (3, .int .i64 0), (4, .pointer (some ⟨bi, 0, none⟩)), (5, .pointer (some ⟨b5, 0, none⟩)), (10, .int .i64 y.1)]) (fun _ => h1)
    (fun y => [inR bi y.2 (upsC y.1 (l, 0)).2.2, Res.blk b5 (.cells (cxc (padU (upsC y.1 (l, 0)).1) (.slice none 0 0)).toArray 27 (0, 0)), Res.blk b2 (.cells (cxc zeroU (.slice none 0 0)).toArray 27 (0, 0))])
    (fun y => y.1 ≤ 16 ∧ Bs8 h1 y.2 (upsC y.1 (l, 0)).2.1) (fun y => 16 - y.1) (0, v) ⟨Nat.zero_le _, hv1⟩ ts_ (fun _ s => s.perm (List.Perm.swap _ _ _)) ?_
  rintro ⟨k, v⟩ ⟨hk, hv⟩
  dsimp only at hk hv ⊢
  obtain ⟨hok, hul⟩ := upsC_ok hok0 k
  by_cases hk16 : k < 16
  · have hset : ∀ x : Int, (padU (upsC k (l, 0)).1).set k x = padU ((upsC k (l, 0)).1 ++ [x]) := fun x => padU_set hul hk16
    have hpl : (padU (upsC k (l, 0)).1).length = 16 := padU_len (by omega)
    have eS : upsC (k + 1) (l, 0) = ((upsC k (l, 0)).1 ++ [(numC (upsC k (l, 0)).2 8 1099511627776).1], (numC (upsC k (l, 0)).2 8 1099511627776).2) := rfl
    generalize upsC k (l, 0) = U at hok hul hv hset hpl eS ⊢
    obtain ⟨us, ls, e⟩ := U
    dsimp only at hok hul hv hset hpl eS ⊢
    repeat' (first | refine tw_ ?_ | (refine ta_ ?_; intro _) | ((fail_if_success (refine ybi rfl ?_)); refine ybj rfl ?_ ?_ <;> (intro ht; rw [ht]; first | replace ht := of_decide_eq_true ht | replace ht := of_decide_eq_false ht | skip)) | (refine ych ?_; first | (refine ybw rfl ?_ ?_ <;> intro ht) | (refine ybx rfl ?_ ?_ <;> intro ht)))
    (refine rx_call_m (ycp Try.func43 rfl (by kernel_rfl) rfl) (perm_at (k := 0) rfl) (InNum_sp bi v ls e 1099511627776 hok.b (by omega) hok.l h1 hv) rfl rfl rfl ?_ ?_ ?_; (· (exact to_)); (· intro _ _ hle; (exact to_)); intro x px hle)
    generalize numC (ls, e) 8 1099511627776 = N at px eS ⊢
    obtain ⟨nv, ns⟩ := N
    dsimp only at px eS ⊢
    repeat' (first | (refine ybg 1 rfl rfl rfl rfl (fit_cxc (i := k) hpl (by omega) (by omega)) rfl (spl_cxc (i := k) (by omega) (by omega)) rfl rfl ?_ ?_ ?_; (· (exact to_)); (· (exact to_))) | refine t1_ ?_ | (refine ta_ ?_; intro _) | ((fail_if_success (refine ybi rfl ?_)); refine ybj rfl ?_ ?_ <;> (intro ht; rw [ht]; first | replace ht := of_decide_eq_true ht | replace ht := of_decide_eq_false ht | skip)) | (refine ych ?_; first | (refine ybw rfl ?_ ?_ <;> intro ht) | (refine ybx rfl ?_ ?_ <;> intro ht)))
    · refine nx_round (k + 1, x) ⟨by show k + 1 ≤ 16; omega, by dsimp only; rw [eS]; exact px⟩ (by show 16 - (k+1) < 16 - k; omega) ts_ (fun _ s => ?_)
      dsimp only
      rw [eS]
      rw [hset] at s
      exact s
    · omega
  · have ek : k = 16 := by omega
    subst ek
    have hp : padU (upsC 16 (l, 0)).1 = (upsC 16 (l, 0)).1 := padU_full hul
    have eR : rdC l = ((upsC 16 (l, 0)).1, (dsC (smC l).1.toNat (smC l).2).1, (dsC (smC l).1.toNat (smC l).2).2) := rfl
    have eM : smC l = numC (upsC 16 (l, 0)).2 1 32 := rfl
    rw [hp]
    generalize upsC 16 (l, 0) = U at hok hul hv eR eM ⊢
    obtain ⟨us, ls, e⟩ := U
    dsimp only at hok hul hv eR eM ⊢
    repeat' (first | (refine ybg 1 rfl rfl rfl rfl (fit_cxc (i := k) hpl (by omega) (by omega)) rfl (spl_cxc (i := k) (by omega) (by omega)) rfl rfl ?_ ?_ ?_; (· (exact to_)); (· (exact to_))) | refine t1_ ?_ | (refine ta_ ?_; intro _) | ((fail_if_success (refine ybi rfl ?_)); refine ybj rfl ?_ ?_ <;> (intro ht; rw [ht]; first | replace ht := of_decide_eq_true ht | replace ht := of_decide_eq_false ht | skip)) | (refine ych ?_; first | (refine ybw rfl ?_ ?_ <;> intro ht) | (refine ybx rfl ?_ ?_ <;> intro ht)))
    (refine rx_call_m (ycp Try.func44 rfl (by kernel_rfl) rfl) (perm_at (k := 0) rfl) (InSmall_sp bi v ls e 32 hok.b (by omega) hok.l h1 hv) rfl rfl rfl ?_ ?_ ?_; (· (exact to_)); (· intro _ _ hle; (exact to_)); intro x px hle)
    have hok2 : RsOk (smC l).2 := by rw [eM]; exact hok.num _ _
    have hbd : 0 ≤ (smC l).1 ∧ (smC l).1 ≤ 32 := by rw [eM]; exact numC_bd hok (by omega)
    rw [← eM] at px ⊢
    generalize smC l = M at px eR hok2 hbd ⊢
    obtain ⟨nv, ls2, e2⟩ := M
    dsimp only at px eR hok2 hbd ⊢
    repeat' (first | (refine ybg 1 rfl rfl rfl rfl (fit_cxc (i := k) hpl (by omega) (by omega)) rfl (spl_cxc (i := k) (by omega) (by omega)) rfl rfl ?_ ?_ ?_; (· (exact to_)); (· (exact to_))) | refine t1_ ?_ | (refine ta_ ?_; intro _) | ((fail_if_success (refine ybi rfl ?_)); refine ybj rfl ?_ ?_ <;> (intro ht; rw [ht]; first | replace ht := of_decide_eq_true ht | replace ht := of_decide_eq_false ht | skip)) | (refine ych ?_; first | (refine ybw rfl ?_ ?_ <;> intro ht) | (refine ybx rfl ?_ ?_ <;> intro ht)))
    refine cx_row 24 2 ?_
    refine cx_loop (X := Nat × Value × Value) (fun y => [(2, .pointer (some ⟨b2, 0, none⟩)), (3, .int .i64 0), (4, .pointer (some ⟨bi, 0, none⟩)), (5, .pointer (some ⟨b5, 0, none⟩)), (20, .int .i64 nv), (21, .int .i64 y.1)]) (fun _ => h1)
      (fun y => [inR bi y.2.1 (dsC y.1 (ls2, e2)).2.2, Res.row 24 2 y.2.2 y.1 ((dsC y.1 (ls2, e2)).1.flatMap dcs), Res.blk b5 (.cells (cxc us y.2.2).toArray 27 (0, 0)), Res.blk b2 (.cells (cxc zeroU (.slice none 0 0)).toArray 27 (0, 0))])
      (fun y => y.1 ≤ nv.toNat ∧ Bs8 h1 y.2.1 (dsC y.1 (ls2, e2)).2.1) (fun y => nv.toNat - y.1) (0, x, .slice none 0 0) ⟨Nat.zero_le _, px⟩ ts_ (fun _ s => s.perm (List.Perm.swap _ _ _)) ?_
    rintro ⟨k, v1, mv⟩ ⟨hk1, hv2⟩
    dsimp only at hk1 hv2 ⊢
    obtain ⟨hok3, hdl⟩ := dsC_ok hok2 k
    by_cases hkn : k < nv.toNat
    · have eD : dsC (k + 1) (ls2, e2) = ((dsC k (ls2, e2)).1 ++ [((numC (dsC k (ls2, e2)).2 8 1099511627776).1, (numC (numC (dsC k (ls2, e2)).2 8 1099511627776).2 8 1099511627776).1)], (numC (numC (dsC k (ls2, e2)).2 8 1099511627776).2 8 1099511627776).2) := rfl
      generalize dsC k (ls2, e2) = D at hok3 hdl hv2 eD ⊢
      obtain ⟨ds, ls3, e3⟩ := D
      dsimp only at hok3 hdl hv2 eD ⊢
      subst hdl
      repeat' (first | (refine ybg 1 rfl rfl rfl rfl (fit_cxc (i := k) hpl (by omega) (by omega)) rfl (spl_cxc (i := k) (by omega) (by omega)) rfl rfl ?_ ?_ ?_; (· (exact to_)); (· (exact to_))) | refine t1_ ?_ | (refine ta_ ?_; intro _) | ((fail_if_success (refine ybi rfl ?_)); refine ybj rfl ?_ ?_ <;> (intro ht; rw [ht]; first | replace ht := of_decide_eq_true ht | replace ht := of_decide_eq_false ht | skip)) | (refine ych ?_; first | (refine ybw rfl ?_ ?_ <;> intro ht) | (refine ybx rfl ?_ ?_ <;> intro ht)))
      (refine rx_call_m (ycp Try.func43 rfl (by kernel_rfl) rfl) (perm_at (k := 0) rfl) (InNum_sp bi v1 ls3 e3 1099511627776 hok3.b (by omega) hok3.l h1 hv2) rfl rfl rfl ?_ ?_ ?_; (· (exact to_)); (· intro _ _ hle; (exact to_)); intro x px hle)
      have hok4 := hok3.num 8 1099511627776
      generalize numC (ls3, e3) 8 1099511627776 = N1 at px eD hok4 ⊢
      obtain ⟨n1, ls4, e4⟩ := N1
      dsimp only at px eD hok4 ⊢
      have hv4 := px
      repeat' (first | (refine ybg 1 rfl rfl rfl rfl (fit_cxc (i := k) hpl (by omega) (by omega)) rfl (spl_cxc (i := k) (by omega) (by omega)) rfl rfl ?_ ?_ ?_; (· (exact to_)); (· (exact to_))) | refine t1_ ?_ | (refine ta_ ?_; intro _) | ((fail_if_success (refine ybi rfl ?_)); refine ybj rfl ?_ ?_ <;> (intro ht; rw [ht]; first | replace ht := of_decide_eq_true ht | replace ht := of_decide_eq_false ht | skip)) | (refine ych ?_; first | (refine ybw rfl ?_ ?_ <;> intro ht) | (refine ybx rfl ?_ ?_ <;> intro ht)))
      rename_i b7
      (refine rx_call_m (ycp Try.func43 rfl (by kernel_rfl) rfl) (perm_at (k := 1) rfl) (InNum_sp bi _ ls4 e4 1099511627776 hok4.b (by omega) hok4.l h1 hv4) rfl rfl rfl ?_ ?_ ?_; (· (exact to_)); (· intro _ _ hle; (exact to_)); intro x px hle)
      generalize numC (ls4, e4) 8 1099511627776 = N2 at px eD ⊢
      obtain ⟨n2, ls5, e5⟩ := N2
      dsimp only at px eD ⊢
      repeat' (first | (refine ycf ?_; apply ybk; (· first | (apply yae; (· rfl); (· (first | exact yck (yaz 3 rfl) hul rfl | exact yck (yaz 4 rfl) hul rfl)))); (· rfl); (· rfl)) | (refine ybg 1 rfl rfl rfl rfl (fit_cxc (i := k) hpl (by omega) (by omega)) rfl (spl_cxc (i := k) (by omega) (by omega)) rfl rfl ?_ ?_ ?_; (· (exact to_)); (· (exact to_))) | refine t1_ ?_ | (refine ta_ ?_; intro _) | ((fail_if_success (refine ybi rfl ?_)); refine ybj rfl ?_ ?_ <;> (intro ht; rw [ht]; first | replace ht := of_decide_eq_true ht | replace ht := of_decide_eq_false ht | skip)) | (refine ych ?_; first | (refine ybw rfl ?_ ?_ <;> intro ht) | (refine ybx rfl ?_ ?_ <;> intro ht)))
      refine rx_append (sz := 2) 3 rfl rfl rfl (yaz 0 rfl) rfl (one_dcs [(n1, n2)]) rfl (by omega) (by unfold maxLen; omega) (by omega) rfl rfl rfl ybf (fun _ => ybf) ?_
      intro v3 _
      refine rx_rowform 3 rfl (fun _ h0 _ => (by omega)) ?_
      rintro g3 cap3 rfl
      repeat' (first | (refine ycf ?_; apply ybk; (· first | (apply yae; (· rfl); (· (first | exact yck (yaz 3 rfl) hul rfl | exact yck (yaz 4 rfl) hul rfl)))); (· rfl); (· rfl)) | (refine ybg 4 rfl rfl rfl rfl (fit_more hul) rfl (spl_more hul) rfl rfl ?_ ?_ ?_; (· (exact to_)); (· (exact to_))) | refine t1_ ?_ | (refine ta_ ?_; intro _) | ((fail_if_success (refine ybi rfl ?_)); refine ybj rfl ?_ ?_ <;> (intro ht; rw [ht]; first | replace ht := of_decide_eq_true ht | replace ht := of_decide_eq_false ht | skip)) | (refine ych ?_; first | (refine ybw rfl ?_ ?_ <;> intro ht) | (refine ybx rfl ?_ ?_ <;> intro ht)))
      refine nx_round (ds.length + 1, x, .slice (some ⟨g3, 0, none⟩) (ds.length + 1) cap3) ⟨by show ds.length + 1 ≤ _; omega, by dsimp only; rw [eD]; exact px⟩ (by show nv.toNat - (ds.length + 1) < nv.toNat - ds.length; omega) ts_ (fun _ s => ?_)
      dsimp only
      rw [eD]
      dsimp only
      rw [List.flatMap_append]
      exact (s.tl.perm (List.Perm.swap _ _ _)).tl
      omega
    · repeat' (first | (refine ycf ?_; apply ybk; (· first | (apply yae; (· rfl); (· (first | exact yck (yaz 3 rfl) hul rfl | exact yck (yaz 4 rfl) hul rfl)))); (· rfl); (· rfl)) | (refine ybg 4 rfl rfl rfl rfl (fit_more hul) rfl (spl_more hul) rfl rfl ?_ ?_ ?_; (· (exact to_)); (· (exact to_))) | refine t1_ ?_ | (refine ta_ ?_; intro _) | ((fail_if_success (refine ybi rfl ?_)); refine ybj rfl ?_ ?_ <;> (intro ht; rw [ht]; first | replace ht := of_decide_eq_true ht | replace ht := of_decide_eq_false ht | skip)) | (refine ych ?_; first | (refine ybw rfl ?_ ?_ <;> intro ht) | (refine ybx rfl ?_ ?_ <;> intro ht)))
      · omega
      have ek : k = nv.toNat := by omega
      subst ek
      generalize dsC nv.toNat (ls2, e2) = D at hok3 hdl hv2 eR ⊢
      obtain ⟨ds, ls3, e3⟩ := D
      dsimp only at hok3 hdl hv2 eR ⊢
      rw [eR]
      dsimp only
      refine rx_perm (perm_at (k := 1) rfl) ?_
      refine rx_persist rfl fun h3 hle3 hsm => ?_
      rw [← hdl] at hsm
      replace hsm : Ds h3 mv ds := hsm
      obtain ⟨_, ad2, cap2, rfl, _, _⟩ := id hsm
      have hv3 : Bs8 h3 v1 ls3 := hv2.mono hle3
      have hcx : Cx h3 (cxv us (.slice ad2 ds.length cap2)) us ds := ⟨hul, _, rfl, hsm⟩
      (refine rx_call_m (ycp Try.func45 rfl (by kernel_rfl) rfl) (perm_at (k := 0) rfl) (End_sp bi v1 ls3 e3 h3 hv3) rfl rfl rfl ?_ ?_ ?_; (· (exact to_)); (· intro _ _ hle; (exact to_)); intro x px hle)
      by_cases hE : endC (ls3, e3) = 0
      · rw [hE]
        repeat' (first|(refine ycf ?_;apply ybk;(·first|(apply yad;(·rfl);(·exact yaz 1 rfl);(·exact ycj hul))|(apply yae;(·rfl);(·(first|exact yck (yaz 3 rfl) hul rfl|exact yck (yaz 4 rfl) hul rfl))));(·rfl);(·rfl))|(refine ybg 2 rfl rfl rfl (cxc_sz hul) (cxc_fit hul) (cxc_one rfl) (ybh (cxc_all hul)) rfl rfl ?_ ?_ ?_;(·(exact to_));(·(exact to_)))|refine t1_ ?_|(refine ta_ ?_;intro _)|((fail_if_success (refine ybi rfl ?_));refine ybj rfl ?_ ?_<;>(intro ht;rw [ht];first|replace ht := of_decide_eq_true ht|replace ht := of_decide_eq_false ht|skip))|(refine ych ?_;first|(refine ybw rfl ?_ ?_<;>intro ht)|(refine ybx rfl ?_ ?_<;>intro ht)))
        (refine ycn (ycp Try.func24 rfl (by kernel_rfl) rfl) (check_sp _ us ds h3 hcx (by omega)) rfl rfl rfl ?_ ?_; (· (exact to_)))
        by_cases hC : checkC us ds = 0
        · rw [hC]
          repeat' (first|(refine ycf ?_;apply ybk;(·first|(apply yad;(·rfl);(·exact yaz 1 rfl);(·exact ycj hul))|(apply yae;(·rfl);(·(first|exact yck (yaz 3 rfl) hul rfl|exact yck (yaz 4 rfl) hul rfl))));(·rfl);(·rfl))|(refine ybg 2 rfl rfl rfl (cxc_sz hul) (cxc_fit hul) (cxc_one rfl) (ybh (cxc_all hul)) rfl rfl ?_ ?_ ?_;(·(exact to_));(·(exact to_)))|refine t1_ ?_|(refine ta_ ?_;intro _)|((fail_if_success (refine ybi rfl ?_));refine ybj rfl ?_ ?_<;>(intro ht;rw [ht];first|replace ht := of_decide_eq_true ht|replace ht := of_decide_eq_false ht|skip))|(refine ych ?_;first|(refine ybw rfl ?_ ?_<;>intro ht)|(refine ybx rfl ?_ ?_<;>intro ht)))
          refine nx_ret2 rfl (rv_cells rfl (yaz 2 rfl) (cxc_all hul)) (rv_tmp rfl) (fun w' s' => ⟨(h3, cxv us (.slice ad2 ds.length cap2), 0), rfl, s'.nil, ?_⟩)
          rw [if_pos ⟨rfl, rfl⟩]
          exact ⟨rfl, hcx⟩
        · generalize hCz : checkC us ds = cz at hC ⊢
          repeat' (first|(refine ycf ?_;apply ybk;(·first|(apply yad;(·rfl);(·exact yaz 1 rfl);(·exact ycj hul))|(apply yae;(·rfl);(·(first|exact yck (yaz 3 rfl) hul rfl|exact yck (yaz 4 rfl) hul rfl))));(·rfl);(·rfl))|(refine ybg 2 rfl rfl rfl (cxc_sz hul) (cxc_fit hul) (cxc_one rfl) (ybh (cxc_all hul)) rfl rfl ?_ ?_ ?_;(·(exact to_));(·(exact to_)))|refine t1_ ?_|(refine ta_ ?_;intro _)|((fail_if_success (refine ybi rfl ?_));refine ybj rfl ?_ ?_<;>(intro ht;rw [ht];first|replace ht := of_decide_eq_true ht|replace ht := of_decide_eq_false ht|skip))|(refine ych ?_;first|(refine ybw rfl ?_ ?_<;>intro ht)|(refine ybx rfl ?_ ?_<;>intro ht)))
          · refine nx_ret2 rfl (rv_cells rfl (yaz 2 rfl) rfl) (rv_tmp rfl) (fun w' s' => ⟨(h3, cxv zeroU (.slice none 0 0), 2), rfl, s'.nil, ?_⟩)
            rw [if_neg (fun hx => hC hx.2)]
            exact ⟨rfl, rfl, _, rfl, Sc.nil h3 2 none 0⟩
          · omega
      · generalize hEz : endC (ls3, e3) = ez at hE ⊢
        repeat' (first|(refine ycf ?_;apply ybk;(·first|(apply yad;(·rfl);(·exact yaz 1 rfl);(·exact ycj hul))|(apply yae;(·rfl);(·(first|exact yck (yaz 3 rfl) hul rfl|exact yck (yaz 4 rfl) hul rfl))));(·rfl);(·rfl))|(refine ybg 2 rfl rfl rfl (cxc_sz hul) (cxc_fit hul) (cxc_one rfl) (ybh (cxc_all hul)) rfl rfl ?_ ?_ ?_;(·(exact to_));(·(exact to_)))|refine t1_ ?_|(refine ta_ ?_;intro _)|((fail_if_success (refine ybi rfl ?_));refine ybj rfl ?_ ?_<;>(intro ht;rw [ht];first|replace ht := of_decide_eq_true ht|replace ht := of_decide_eq_false ht|skip))|(refine ych ?_;first|(refine ybw rfl ?_ ?_<;>intro ht)|(refine ybx rfl ?_ ?_<;>intro ht)))
        · refine nx_ret2 rfl (rv_cells rfl (yaz 2 rfl) rfl) (rv_tmp rfl) (fun w' s' => ⟨(h3, cxv zeroU (.slice none 0 0), 2), rfl, s'.nil, ?_⟩)
          rw [if_neg (fun hx => hE hx.1)]
          exact ⟨rfl, rfl, _, rfl, Sc.nil h3 2 none 0⟩
        · omega
end Go.Proofs.Ytbpahaciegfpfaa
