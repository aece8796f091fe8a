/-
  Part 7 of a proof: BitH BitI DotV1.
  Conditions: each theorem states its own.
-/
import Derived.Test.YtkkjppeaaicgaaaGreatSrEPM6
section
namespace Go.Proofs.YtkkjppeaaicgaaaGreat
open Go Go.Ck
set_option maxRecDepth 100000
set_option maxHeartbeats 2000000
set_option linter.unusedVariables false

abbrev RS : Type := List Int × Int
def upsC : Nat → RS → List Int × RS
  | 0, s => ([], s)
  | k + 1, s => ((upsC k s).1 ++ [(numC (upsC k s).2 8 1099511627776).1], (numC (upsC k s).2 8 1099511627776).2)
def dsC : Nat → RS → List Dt × RS
  | 0, s => ([], s)
  | k + 1, s => ((dsC k s).1 ++ [((numC (dsC k s).2 8 1099511627776).1, (numC (numC (dsC k s).2 8 1099511627776).2 8 1099511627776).1)], (numC (numC (dsC k s).2 8 1099511627776).2 8 1099511627776).2)
def smC (l : List Int) : Int × RS := numC (upsC 16 (l, 0)).2 1 32
def rdC (l : List Int) : List Int × List Dt × RS := ((upsC 16 (l, 0)).1, (dsC (smC l).1.toNat (smC l).2).1, (dsC (smC l).1.toNat (smC l).2).2)

structure RsOk (s : RS) : Prop where
  b : Bytes s.1
  l : s.1.length ≤ 1000000
theorem RsOk.num {s : RS} (h : RsOk s) (size : Nat) (most : Int) : RsOk (numC s size most).2 := by
  unfold numC
  split
  · exact h
  · split
    · exact ⟨fun x hx => h.b x (List.mem_of_mem_drop hx), by have := h.l; simp only [List.length_drop]; omega⟩
    · exact ⟨h.b, h.l⟩
theorem numC_bd {s : RS} (h : RsOk s) {size : Nat} {most : Int} (hm : 0 ≤ most) : 0 ≤ (numC s size most).1 ∧ (numC s size most).1 ≤ most := by
  unfold numC
  split
  · exact ⟨Int.le_refl _, hm⟩
  · split
    · unfold lookC
      split
      · exact ⟨Int.le_refl _, hm⟩
      · rename_i _ _ hs
        split
        · exact ⟨Int.le_refl _, hm⟩
        · have := valB_bd h.b size (by omega)
          exact ⟨this.1, by dsimp only; omega⟩
    · exact ⟨Int.le_refl _, hm⟩
theorem upsC_ok {s : RS} (h : RsOk s) : ∀ k, RsOk (upsC k s).2 ∧ (upsC k s).1.length = k
  | 0 => ⟨h, rfl⟩
  | k + 1 => ⟨(upsC_ok h k).1.num _ _, by simp [upsC, (upsC_ok h k).2]⟩
theorem dsC_ok {s : RS} (h : RsOk s) : ∀ k, RsOk (dsC k s).2 ∧ (dsC k s).1.length = k
  | 0 => ⟨h, rfl⟩
  | k + 1 => ⟨((dsC_ok h k).1.num _ _).num _ _, by simp [dsC, (dsC_ok h k).2]⟩

def padU (us : List Int) : List Int := us ++ List.replicate (16 - us.length) 0
theorem padU_len {us : List Int} (h : us.length ≤ 16) : (padU us).length = 16 := by simp [padU]; omega
theorem padU_set {us : List Int} {x : Int} {k : Nat} (hk : us.length = k) (h : k < 16) : (padU us).set k x = padU (us ++ [x]) := by
  subst hk
  unfold padU
  rw [List.set_append_right _ _ (Nat.le_refl _), Nat.sub_self, show 16 - us.length = (16 - (us ++ [x]).length) + 1 by simp; omega, List.replicate_succ, List.set_cons_zero]
  simp
theorem padU_full {us : List Int} (h : us.length = 16) : padU us = us := by simp [padU, h]

theorem Read_sp (sv : Value) (l : List Int) (hb : Bytes l) (hl : l.length ≤ 1000000) (h : View) (hs : Bs8 h sv l) (w : World) (s : St ⟨w, h, []⟩ h [] w) :
    Calls Tryz.prog 13 [sv].toArray w fun en w' => ∃ x : View × Value × Int, en = .returned (.tuple #[x.2.1, .int .i64 x.2.2]) ∧ St ⟨w, h, []⟩ x.1 [] w' ∧
      (if endC (rdC l).2.2 = 0 ∧ checkC (rdC l).1 (rdC l).2.1 = 0 then x.2.2 = 0 ∧ Cx x.1 x.2.1 (rdC l).1 (rdC l).2.1 else x.2.2 = 2 ∧ Cx x.1 x.2.1 zeroU []) := by
  have hok0 : RsOk (l, 0) := ⟨hb, hl⟩
  refine calls_enter Tryz.func13 rfl Tryz.ntmps13 rfl s ?_
  repeat' (first | refine tw_ ?_ | (refine ta_ ?_; intro _) | ((fail_if_success (refine ybi rfl ?_)); refine ybj rfl ?_ ?_ <;> (intro ht; rw [ht]; first | replace ht := of_decide_eq_true ht | replace ht := of_decide_eq_false ht | skip)) | (refine ych ?_; first | (refine ybw rfl ?_ ?_ <;> intro ht) | (refine ybx rfl ?_ ?_ <;> intro ht)))
  (refine yco (ycp Tryz.func10 rfl (by kernel_rfl) rfl) (Of_sp sv l hl h hs) rfl rfl rfl ?_ ?_ ?_; (· (exact to_)); (· intro _ _ hle; (exact to_)); intro x px hle)
  obtain ⟨h1, bi, v⟩ := x
  replace hle : Le h h1 := hle
  have hv1 : Bs8 h1 v l := px
  clear px
  repeat' (first | refine tw_ ?_ | (refine ta_ ?_; intro _) | ((fail_if_success (refine ybi rfl ?_)); refine ybj rfl ?_ ?_ <;> (intro ht; rw [ht]; first | replace ht := of_decide_eq_true ht | replace ht := of_decide_eq_false ht | skip)) | (refine ych ?_; first | (refine ybw rfl ?_ ?_ <;> intro ht) | (refine ybx rfl ?_ ?_ <;> intro ht)))
  rename_i b2 b5
  refine cx_loop (X := Nat × Value) (fun y => [(2, .pointer (some ⟨b2, 0, none⟩)), (3, .int .i64 0), (4, .pointer (some ⟨bi, 0, none⟩)), (5, .pointer (some ⟨b5, 0, none⟩)), (10, .int .i64 y.1)]) (fun _ => h1)
    (fun y => [inR bi y.2 (upsC y.1 (l, 0)).2.2, Res.blk b5 (.cells (cxc (padU (upsC y.1 (l, 0)).1) (.slice none 0 0)).toArray 44 (0, 0)), Res.blk b2 (.cells (cxc zeroU (.slice none 0 0)).toArray 44 (0, 0))])
    (fun y => y.1 ≤ 16 ∧ Bs8 h1 y.2 (upsC y.1 (l, 0)).2.1) (fun y => 16 - y.1) (0, v) ⟨Nat.zero_le _, hv1⟩ ts_ (fun _ s => s.perm (List.Perm.swap _ _ _)) ?_
  rintro ⟨k, v⟩ ⟨hk, hv⟩
  dsimp only at hk hv ⊢
  obtain ⟨hok, hul⟩ := upsC_ok hok0 k
  by_cases hk16 : k < 16
  · have hset : ∀ x : Int, (padU (upsC k (l, 0)).1).set k x = padU ((upsC k (l, 0)).1 ++ [x]) := fun x => padU_set hul hk16
    have hpl : (padU (upsC k (l, 0)).1).length = 16 := padU_len (by omega)
    have eS : upsC (k + 1) (l, 0) = ((upsC k (l, 0)).1 ++ [(numC (upsC k (l, 0)).2 8 1099511627776).1], (numC (upsC k (l, 0)).2 8 1099511627776).2) := rfl
    generalize upsC k (l, 0) = U at hok hul hv hset hpl eS ⊢
    obtain ⟨us, ls, e⟩ := U
    dsimp only at hok hul hv hset hpl eS ⊢
    repeat' (first | refine tw_ ?_ | (refine ta_ ?_; intro _) | ((fail_if_success (refine ybi rfl ?_)); refine ybj rfl ?_ ?_ <;> (intro ht; rw [ht]; first | replace ht := of_decide_eq_true ht | replace ht := of_decide_eq_false ht | skip)) | (refine ych ?_; first | (refine ybw rfl ?_ ?_ <;> intro ht) | (refine ybx rfl ?_ ?_ <;> intro ht)))
    (refine rx_call_m (ycp Tryz.func12 rfl (by kernel_rfl) rfl) (perm_at (k := 0) rfl) (InNum_sp bi v ls e 1099511627776 hok.b (by omega) hok.l h1 hv) rfl rfl rfl ?_ ?_ ?_; (· (exact to_)); (· intro _ _ hle; (exact to_)); intro x px hle)
    generalize numC (ls, e) 8 1099511627776 = N at px eS ⊢
    obtain ⟨nv, ns⟩ := N
    dsimp only at px eS ⊢
    repeat' (first | (refine ybg 1 rfl rfl rfl rfl (fit_cxc (i := k) hpl (by omega) (by omega)) rfl (spl_cxc (i := k) (by omega) (by omega)) rfl rfl ?_ ?_ ?_; (· (exact to_)); (· (exact to_))) | refine t1_ ?_ | (refine ta_ ?_; intro _) | ((fail_if_success (refine ybi rfl ?_)); refine ybj rfl ?_ ?_ <;> (intro ht; rw [ht]; first | replace ht := of_decide_eq_true ht | replace ht := of_decide_eq_false ht | skip)) | (refine ych ?_; first | (refine ybw rfl ?_ ?_ <;> intro ht) | (refine ybx rfl ?_ ?_ <;> intro ht)))
    · refine nx_round (k + 1, x) ⟨by show k + 1 ≤ 16; omega, by dsimp only; rw [eS]; exact px⟩ (by show 16 - (k+1) < 16 - k; omega) ts_ (fun _ s => ?_)
      dsimp only
      rw [eS]
      rw [hset] at s
      exact s
    · omega
  · have ek : k = 16 := by omega
    subst ek
    have hp : padU (upsC 16 (l, 0)).1 = (upsC 16 (l, 0)).1 := padU_full hul
    have eR : rdC l = ((upsC 16 (l, 0)).1, (dsC (smC l).1.toNat (smC l).2).1, (dsC (smC l).1.toNat (smC l).2).2) := rfl
    have eM : smC l = numC (upsC 16 (l, 0)).2 1 32 := rfl
    rw [hp]
    generalize upsC 16 (l, 0) = U at hok hul hv eR eM ⊢
    obtain ⟨us, ls, e⟩ := U
    dsimp only at hok hul hv eR eM ⊢
    repeat' (first | (refine ybg 1 rfl rfl rfl rfl (fit_cxc (i := k) hpl (by omega) (by omega)) rfl (spl_cxc (i := k) (by omega) (by omega)) rfl rfl ?_ ?_ ?_; (· (exact to_)); (· (exact to_))) | refine t1_ ?_ | (refine ta_ ?_; intro _) | ((fail_if_success (refine ybi rfl ?_)); refine ybj rfl ?_ ?_ <;> (intro ht; rw [ht]; first | replace ht := of_decide_eq_true ht | replace ht := of_decide_eq_false ht | skip)) | (refine ych ?_; first | (refine ybw rfl ?_ ?_ <;> intro ht) | (refine ybx rfl ?_ ?_ <;> intro ht)))
    (refine rx_call_m (ycp Tryz.func11 rfl (by kernel_rfl) rfl) (perm_at (k := 0) rfl) (InSmall_sp bi v ls e 32 hok.b (by omega) hok.l h1 hv) rfl rfl rfl ?_ ?_ ?_; (· (exact to_)); (· intro _ _ hle; (exact to_)); intro x px hle)
    have hok2 : RsOk (smC l).2 := by rw [eM]; exact hok.num _ _
    have hbd : 0 ≤ (smC l).1 ∧ (smC l).1 ≤ 32 := by rw [eM]; exact numC_bd hok (by omega)
    rw [← eM] at px ⊢
    generalize smC l = M at px eR hok2 hbd ⊢
    obtain ⟨nv, ls2, e2⟩ := M
    dsimp only at px eR hok2 hbd ⊢
    repeat' (first | (refine ybg 1 rfl rfl rfl rfl (fit_cxc (i := k) hpl (by omega) (by omega)) rfl (spl_cxc (i := k) (by omega) (by omega)) rfl rfl ?_ ?_ ?_; (· (exact to_)); (· (exact to_))) | refine t1_ ?_ | (refine ta_ ?_; intro _) | ((fail_if_success (refine ybi rfl ?_)); refine ybj rfl ?_ ?_ <;> (intro ht; rw [ht]; first | replace ht := of_decide_eq_true ht | replace ht := of_decide_eq_false ht | skip)) | (refine ych ?_; first | (refine ybw rfl ?_ ?_ <;> intro ht) | (refine ybx rfl ?_ ?_ <;> intro ht)))
    refine cx_row 40 2 ?_
    refine cx_loop (X := Nat × Value × Value) (fun y => [(2, .pointer (some ⟨b2, 0, none⟩)), (3, .int .i64 0), (4, .pointer (some ⟨bi, 0, none⟩)), (5, .pointer (some ⟨b5, 0, none⟩)), (20, .int .i64 nv), (21, .int .i64 y.1)]) (fun _ => h1)
      (fun y => [inR bi y.2.1 (dsC y.1 (ls2, e2)).2.2, Res.row 40 2 y.2.2 y.1 ((dsC y.1 (ls2, e2)).1.flatMap dcs), Res.blk b5 (.cells (cxc us y.2.2).toArray 44 (0, 0)), Res.blk b2 (.cells (cxc zeroU (.slice none 0 0)).toArray 44 (0, 0))])
      (fun y => y.1 ≤ nv.toNat ∧ Bs8 h1 y.2.1 (dsC y.1 (ls2, e2)).2.1) (fun y => nv.toNat - y.1) (0, x, .slice none 0 0) ⟨Nat.zero_le _, px⟩ ts_ (fun _ s => s.perm (List.Perm.swap _ _ _)) ?_
    rintro ⟨k, v1, mv⟩ ⟨hk1, hv2⟩
    dsimp only at hk1 hv2 ⊢
    obtain ⟨hok3, hdl⟩ := dsC_ok hok2 k
    by_cases hkn : k < nv.toNat
    · have eD : dsC (k + 1) (ls2, e2) = ((dsC k (ls2, e2)).1 ++ [((numC (dsC k (ls2, e2)).2 8 1099511627776).1, (numC (numC (dsC k (ls2, e2)).2 8 1099511627776).2 8 1099511627776).1)], (numC (numC (dsC k (ls2, e2)).2 8 1099511627776).2 8 1099511627776).2) := rfl
      generalize dsC k (ls2, e2) = D at hok3 hdl hv2 eD ⊢
      obtain ⟨ds, ls3, e3⟩ := D
      dsimp only at hok3 hdl hv2 eD ⊢
      subst hdl
      repeat' (first | (refine ybg 1 rfl rfl rfl rfl (fit_cxc (i := k) hpl (by omega) (by omega)) rfl (spl_cxc (i := k) (by omega) (by omega)) rfl rfl ?_ ?_ ?_; (· (exact to_)); (· (exact to_))) | refine t1_ ?_ | (refine ta_ ?_; intro _) | ((fail_if_success (refine ybi rfl ?_)); refine ybj rfl ?_ ?_ <;> (intro ht; rw [ht]; first | replace ht := of_decide_eq_true ht | replace ht := of_decide_eq_false ht | skip)) | (refine ych ?_; first | (refine ybw rfl ?_ ?_ <;> intro ht) | (refine ybx rfl ?_ ?_ <;> intro ht)))
      (refine rx_call_m (ycp Tryz.func12 rfl (by kernel_rfl) rfl) (perm_at (k := 0) rfl) (InNum_sp bi v1 ls3 e3 1099511627776 hok3.b (by omega) hok3.l h1 hv2) rfl rfl rfl ?_ ?_ ?_; (· (exact to_)); (· intro _ _ hle; (exact to_)); intro x px hle)
      have hok4 := hok3.num 8 1099511627776
      generalize numC (ls3, e3) 8 1099511627776 = N1 at px eD hok4 ⊢
      obtain ⟨n1, ls4, e4⟩ := N1
      dsimp only at px eD hok4 ⊢
      have hv4 := px
      repeat' (first | (refine ybg 1 rfl rfl rfl rfl (fit_cxc (i := k) hpl (by omega) (by omega)) rfl (spl_cxc (i := k) (by omega) (by omega)) rfl rfl ?_ ?_ ?_; (· (exact to_)); (· (exact to_))) | refine t1_ ?_ | (refine ta_ ?_; intro _) | ((fail_if_success (refine ybi rfl ?_)); refine ybj rfl ?_ ?_ <;> (intro ht; rw [ht]; first | replace ht := of_decide_eq_true ht | replace ht := of_decide_eq_false ht | skip)) | (refine ych ?_; first | (refine ybw rfl ?_ ?_ <;> intro ht) | (refine ybx rfl ?_ ?_ <;> intro ht)))
      rename_i b7
      (refine rx_call_m (ycp Tryz.func12 rfl (by kernel_rfl) rfl) (perm_at (k := 1) rfl) (InNum_sp bi _ ls4 e4 1099511627776 hok4.b (by omega) hok4.l h1 hv4) rfl rfl rfl ?_ ?_ ?_; (· (exact to_)); (· intro _ _ hle; (exact to_)); intro x px hle)
      generalize numC (ls4, e4) 8 1099511627776 = N2 at px eD ⊢
      obtain ⟨n2, ls5, e5⟩ := N2
      dsimp only at px eD ⊢
      repeat' (first | (refine ycf ?_; apply ybk; (· first | (apply yae; (· rfl); (· (first | exact yck (yaz 3 rfl) hul rfl | exact yck (yaz 4 rfl) hul rfl)))); (· rfl); (· rfl)) | (refine ybg 1 rfl rfl rfl rfl (fit_cxc (i := k) hpl (by omega) (by omega)) rfl (spl_cxc (i := k) (by omega) (by omega)) rfl rfl ?_ ?_ ?_; (· (exact to_)); (· (exact to_))) | refine t1_ ?_ | (refine ta_ ?_; intro _) | ((fail_if_success (refine ybi rfl ?_)); refine ybj rfl ?_ ?_ <;> (intro ht; rw [ht]; first | replace ht := of_decide_eq_true ht | replace ht := of_decide_eq_false ht | skip)) | (refine ych ?_; first | (refine ybw rfl ?_ ?_ <;> intro ht) | (refine ybx rfl ?_ ?_ <;> intro ht)))
      refine rx_append (sz := 2) 3 rfl rfl rfl (yaz 0 rfl) rfl (one_dcs [(n1, n2)]) rfl (by omega) (by unfold maxLen; omega) (by omega) rfl rfl rfl ybf (fun _ => ybf) ?_
      intro v3 _
      refine rx_rowform 3 rfl (fun _ h0 _ => (by omega)) ?_
      rintro g3 cap3 rfl
      repeat' (first | (refine ycf ?_; apply ybk; (· first | (apply yae; (· rfl); (· (first | exact yck (yaz 3 rfl) hul rfl | exact yck (yaz 4 rfl) hul rfl)))); (· rfl); (· rfl)) | (refine ybg 4 rfl rfl rfl rfl (fit_more hul) rfl (spl_more hul) rfl rfl ?_ ?_ ?_; (· (exact to_)); (· (exact to_))) | refine t1_ ?_ | (refine ta_ ?_; intro _) | ((fail_if_success (refine ybi rfl ?_)); refine ybj rfl ?_ ?_ <;> (intro ht; rw [ht]; first | replace ht := of_decide_eq_true ht | replace ht := of_decide_eq_false ht | skip)) | (refine ych ?_; first | (refine ybw rfl ?_ ?_ <;> intro ht) | (refine ybx rfl ?_ ?_ <;> intro ht)))
      refine nx_round (ds.length + 1, x, .slice (some ⟨g3, 0, none⟩) (ds.length + 1) cap3) ⟨by show ds.length + 1 ≤ _; omega, by dsimp only; rw [eD]; exact px⟩ (by show nv.toNat - (ds.length + 1) < nv.toNat - ds.length; omega) ts_ (fun _ s => ?_)
      dsimp only
      rw [eD]
      dsimp only
      rw [List.flatMap_append]
      exact (s.tl.perm (List.Perm.swap _ _ _)).tl
      omega
    · repeat' (first | (refine ycf ?_; apply ybk; (· first | (apply yae; (· rfl); (· (first | exact yck (yaz 3 rfl) hul rfl | exact yck (yaz 4 rfl) hul rfl)))); (· rfl); (· rfl)) | (refine ybg 4 rfl rfl rfl rfl (fit_more hul) rfl (spl_more hul) rfl rfl ?_ ?_ ?_; (· (exact to_)); (· (exact to_))) | refine t1_ ?_ | (refine ta_ ?_; intro _) | ((fail_if_success (refine ybi rfl ?_)); refine ybj rfl ?_ ?_ <;> (intro ht; rw [ht]; first | replace ht := of_decide_eq_true ht | replace ht := of_decide_eq_false ht | skip)) | (refine ych ?_; first | (refine ybw rfl ?_ ?_ <;> intro ht) | (refine ybx rfl ?_ ?_ <;> intro ht)))
      · omega
      have ek : k = nv.toNat := by omega
      subst ek
      generalize dsC nv.toNat (ls2, e2) = D at hok3 hdl hv2 eR ⊢
      obtain ⟨ds, ls3, e3⟩ := D
      dsimp only at hok3 hdl hv2 eR ⊢
      rw [eR]
      dsimp only
      refine rx_perm (perm_at (k := 1) rfl) ?_
      refine rx_persist rfl fun h3 hle3 hsm => ?_
      rw [← hdl] at hsm
      replace hsm : Ds h3 mv ds := hsm
      obtain ⟨_, ad2, cap2, rfl, _, _⟩ := id hsm
      have hv3 : Bs8 h3 v1 ls3 := hv2.mono hle3
      have hcx : Cx h3 (cxv us (.slice ad2 ds.length cap2)) us ds := ⟨hul, _, rfl, hsm⟩
      (refine rx_call_m (ycp Tryz.func15 rfl (by kernel_rfl) rfl) (perm_at (k := 0) rfl) (End_sp bi v1 ls3 e3 h3 hv3) rfl rfl rfl ?_ ?_ ?_; (· (exact to_)); (· intro _ _ hle; (exact to_)); intro x px hle)
      by_cases hE : endC (ls3, e3) = 0
      · rw [hE]
        repeat' (first|(refine ycf ?_;apply ybk;(·first|(apply yad;(·rfl);(·exact yaz 1 rfl);(·exact ycj hul))|(apply yae;(·rfl);(·(first|exact yck (yaz 3 rfl) hul rfl|exact yck (yaz 4 rfl) hul rfl))));(·rfl);(·rfl))|(refine ybg 2 rfl rfl rfl (cxc_sz hul) (cxc_fit hul) (cxc_one rfl) (ybh (cxc_all hul)) rfl rfl ?_ ?_ ?_;(·(exact to_));(·(exact to_)))|refine t1_ ?_|(refine ta_ ?_;intro _)|((fail_if_success (refine ybi rfl ?_));refine ybj rfl ?_ ?_<;>(intro ht;rw [ht];first|replace ht := of_decide_eq_true ht|replace ht := of_decide_eq_false ht|skip))|(refine ych ?_;first|(refine ybw rfl ?_ ?_<;>intro ht)|(refine ybx rfl ?_ ?_<;>intro ht)))
        (refine ycn (ycp Tryz.func33 rfl (by kernel_rfl) rfl) (check_sp _ us ds h3 hcx (by omega)) rfl rfl rfl ?_ ?_; (· (exact to_)))
        by_cases hC : checkC us ds = 0
        · rw [hC]
          repeat' (first|(refine ycf ?_;apply ybk;(·first|(apply yad;(·rfl);(·exact yaz 1 rfl);(·exact ycj hul))|(apply yae;(·rfl);(·(first|exact yck (yaz 3 rfl) hul rfl|exact yck (yaz 4 rfl) hul rfl))));(·rfl);(·rfl))|(refine ybg 2 rfl rfl rfl (cxc_sz hul) (cxc_fit hul) (cxc_one rfl) (ybh (cxc_all hul)) rfl rfl ?_ ?_ ?_;(·(exact to_));(·(exact to_)))|refine t1_ ?_|(refine ta_ ?_;intro _)|((fail_if_success (refine ybi rfl ?_));refine ybj rfl ?_ ?_<;>(intro ht;rw [ht];first|replace ht := of_decide_eq_true ht|replace ht := of_decide_eq_false ht|skip))|(refine ych ?_;first|(refine ybw rfl ?_ ?_<;>intro ht)|(refine ybx rfl ?_ ?_<;>intro ht)))
          refine nx_ret2 rfl (rv_cells rfl (yaz 2 rfl) (cxc_all hul)) (rv_tmp rfl) (fun w' s' => ⟨(h3, cxv us (.slice ad2 ds.length cap2), 0), rfl, s'.nil, ?_⟩)
          rw [if_pos ⟨rfl, rfl⟩]
          exact ⟨rfl, hcx⟩
        · generalize hCz : checkC us ds = cz at hC ⊢
          repeat' (first|(refine ycf ?_;apply ybk;(·first|(apply yad;(·rfl);(·exact yaz 1 rfl);(·exact ycj hul))|(apply yae;(·rfl);(·(first|exact yck (yaz 3 rfl) hul rfl|exact yck (yaz 4 rfl) hul rfl))));(·rfl);(·rfl))|(refine ybg 2 rfl rfl rfl (cxc_sz hul) (cxc_fit hul) (cxc_one rfl) (ybh (cxc_all hul)) rfl rfl ?_ ?_ ?_;(·(exact to_));(·(exact to_)))|refine t1_ ?_|(refine ta_ ?_;intro _)|((fail_if_success (refine ybi rfl ?_));refine ybj rfl ?_ ?_<;>(intro ht;rw [ht];first|replace ht := of_decide_eq_true ht|replace ht := of_decide_eq_false ht|skip))|(refine ych ?_;first|(refine ybw rfl ?_ ?_<;>intro ht)|(refine ybx rfl ?_ ?_<;>intro ht)))
          · refine nx_ret2 rfl (rv_cells rfl (yaz 2 rfl) rfl) (rv_tmp rfl) (fun w' s' => ⟨(h3, cxv zeroU (.slice none 0 0), 2), rfl, s'.nil, ?_⟩)
            rw [if_neg (fun hx => hC hx.2)]
            exact ⟨rfl, rfl, _, rfl, Sc.nil h3 2 none 0⟩
          · omega
      · generalize hEz : endC (ls3, e3) = ez at hE ⊢
        repeat' (first|(refine ycf ?_;apply ybk;(·first|(apply yad;(·rfl);(·exact yaz 1 rfl);(·exact ycj hul))|(apply yae;(·rfl);(·(first|exact yck (yaz 3 rfl) hul rfl|exact yck (yaz 4 rfl) hul rfl))));(·rfl);(·rfl))|(refine ybg 2 rfl rfl rfl (cxc_sz hul) (cxc_fit hul) (cxc_one rfl) (ybh (cxc_all hul)) rfl rfl ?_ ?_ ?_;(·(exact to_));(·(exact to_)))|refine t1_ ?_|(refine ta_ ?_;intro _)|((fail_if_success (refine ybi rfl ?_));refine ybj rfl ?_ ?_<;>(intro ht;rw [ht];first|replace ht := of_decide_eq_true ht|replace ht := of_decide_eq_false ht|skip))|(refine ych ?_;first|(refine ybw rfl ?_ ?_<;>intro ht)|(refine ybx rfl ?_ ?_<;>intro ht)))
        · refine nx_ret2 rfl (rv_cells rfl (yaz 2 rfl) rfl) (rv_tmp rfl) (fun w' s' => ⟨(h3, cxv zeroU (.slice none 0 0), 2), rfl, s'.nil, ?_⟩)
          rw [if_neg (fun hx => hE hx.1)]
          exact ⟨rfl, rfl, _, rfl, Sc.nil h3 2 none 0⟩
        · omega
end Go.Proofs.YtkkjppeaaicgaaaGreat
end

section
namespace Go.Proofs.YtkkjppeaaicgaaaGreat
open Go Go.Ck
set_option maxRecDepth 100000
set_option maxHeartbeats 2000000
set_option linter.unusedVariables false

theorem bstr_take (l : List Int) (k : Nat) : (bstr l).extract 0 k = bstr (l.take k) := by
  apply ByteArray.ext
  rw [ByteArray.data_extract]
  simp [bstr, List.map_take]
theorem bstr_drop (l : List Int) (k : Nat) : (bstr l).extract k (bstr l).size = bstr (l.drop k) := by
  apply ByteArray.ext
  rw [ByteArray.data_extract, bstr_size]
  simp [bstr, List.map_drop]
  exact List.take_of_length_le (by simp)
theorem bstr_at {l : List Int} (hb : Bytes l) {i : Nat} (hi : i < l.length) : ∃ v : UInt8, (bstr l)[i]? = some v ∧ (v.toNat : Int) = l[i] := by
  have hx := hb l[i] (List.getElem_mem _)
  refine ⟨UInt8.ofNat l[i].toNat, ?_, ?_⟩
  · have hs : i < (bstr l).size := by rw [bstr_size]; exact hi
    rw [getElem?_pos (bstr l) i hs]
    show some ((bstr l).data[i]'_) = _
    simp [bstr]
  · rw [UInt8.toNat_ofNat']
    omega

section
variable {P : Program} {n : Nat} {F : List (Nat × Value)} {h : View} {L : List Res} {dst : Option Nat} {ty : Nat} {pos : String} {af : Array Edge} {gd : Option (Nat × Bool)}
theorem qv_at_bstr {T : Nat} {x y : Operand} {l : List Int} {ki : IntKind} {i : Int} {k : Nat} (hb : Bytes l) [tu : TyU P T .string] (hx : ev F x = some (.string (bstr l))) (hy : ev F y = some (.int ki i))
    (hi : i = k) (hk : k < l.length) : QV P n F h L ⟨dst, .index T x y, ty, pos, af, gd⟩ (.int .u8 l[k]) := by
  obtain ⟨v, h1, h2⟩ := bstr_at hb hk
  rw [← h2]
  refine qv_index_str hx hy (by omega) ?_
  subst hi
  exact h1
theorem qv_str_to {T : Nat} {x y : Operand} {l : List Int} {i : Nat} {ki : IntKind} [tu : TyU P T .string] (hx : ev F x = some (.string (bstr l))) (hy : ev F y = some (.int ki i)) (h1 : i ≤ l.length) :
    QV P n F h L ⟨dst, .slice T x none (some y) none, ty, pos, af, gd⟩ (.string (bstr (l.take i))) := .mk fun a w f s => by
  have h2 : i ≤ (bstr l).size := by rw [bstr_size]; exact h1
  simp [execOp, f.ev hx, f.ev hy, Instr.sliceAt, Instr.slice, Instr.sliceBounds, Instr.sliceBound, asIntOf, run_underlying tu.u, h2]
  exact bstr_take l i
theorem qv_str_from {T : Nat} {x y : Operand} {l : List Int} {i : Nat} {ki : IntKind} [tu : TyU P T .string] (hx : ev F x = some (.string (bstr l))) (hy : ev F y = some (.int ki i)) (h1 : i ≤ l.length) :
    QV P n F h L ⟨dst, .slice T x (some y) none none, ty, pos, af, gd⟩ (.string (bstr (l.drop i))) := .mk fun a w f s => by
  have h2 : i ≤ (bstr l).size := by rw [bstr_size]; exact h1
  simp [execOp, f.ev hx, f.ev hy, Instr.sliceAt, Instr.slice, Instr.sliceBounds, Instr.sliceBound, asIntOf, run_underlying tu.u, h2]
  exact bstr_drop l i
theorem qv_len_bstr {x : Operand} {T : Nat} {l : List Int} [tu : TyU P T .string] (hx : ev F x = some (.string (bstr l))) : QV P n F h L ⟨dst, .call ⟨.builtin .len, #[x], #[T]⟩, ty, pos, af, gd⟩ (.int .i64 l.length) := by
  rw [← bstr_size]; exact yar hx
theorem qv_mul' {T T' : Nat} {x y : Operand} {k : IntKind} {i j r : Int} (hx : ev F x = some (.int k i)) (hy : ev F y = some (.int k j)) (hr : k.wrap (i * j) = r) : QV P n F h L ⟨dst, .binOp .mul T x y T', ty, pos, af, gd⟩ (.int k r) := by subst hr; exact qv_mul_w hx hy
theorem qv_add' {T T' : Nat} {x y : Operand} {k : IntKind} {i j r : Int} (hx : ev F x = some (.int k i)) (hy : ev F y = some (.int k j)) (hr : k.wrap (i + j) = r) : QV P n F h L ⟨dst, .binOp .add T x y T', ty, pos, af, gd⟩ (.int k r) := by subst hr; exact qv_add_w hx hy
theorem qv_neq_str {T T' : Nat} {x y : Operand} {a b : ByteArray} {t : Bool} (hx : ev F x = some (.string a)) (hy : ev F y = some (.string b)) (ht : (!(a.toList == b.toList)) = t) :
    QV P n F h L ⟨dst, .binOp .neq T x y T', ty, pos, af, gd⟩ (.bool t) := by
  subst ht
  refine .mk fun ac w f s => ?_
  have hg : (eqGuard .neq T x y (.string a) (.string b)).run P w = .ok () w := by simp [eqGuard]
  simp only [execOp, f.ev hx, f.ev hy, Sem.run_bind, hg, Result.andThen_ok, binOp, Op.stringOp]
  rfl
end

theorem Word_sp (l : List Int) (hb : Bytes l) (hl : l.length ≤ 8) (h : View) (w : World) (s : St ⟨w, h, []⟩ h [] w) :
    Calls Tryz.prog 63 [.string (bstr l), .bool true].toArray w fun e w' => e = .returned (.int .u64 (valB l)) ∧ St ⟨w, h, []⟩ h [] w' := by
  refine calls_enter Tryz.func63 rfl Tryz.ntmps63 rfl s ?_
  repeat' (first | refine tw_ ?_ | (refine ta_ ?_; intro _) | ((fail_if_success (refine ybi rfl ?_)); refine ybj rfl ?_ ?_ <;> (intro ht; rw [ht]; first | replace ht := of_decide_eq_true ht | replace ht := of_decide_eq_false ht | skip)) | (refine ych ?_; first | (refine ybw rfl ?_ ?_ <;> intro ht) | (refine ybx rfl ?_ ?_ <;> intro ht)))
  refine cx_loop (X := Nat) (fun k => [(0, .string (bstr l)), (1, .bool true), (5, .int .u64 (valB (l.take k))), (6, .int .i64 k)]) (fun _ => h) (fun _ => []) (fun k => k ≤ l.length) (fun k => l.length - k) 0 (Nat.zero_le _) ts_ (fun _ s => s) ?_
  intro k hk
  by_cases hkl : k < l.length
  · have hbd := valB_bd hb k (by omega)
    have hp : (256 : Int) ^ k ≤ 256 ^ 7 := p256 (by omega)
    have e7 : (256 : Int) ^ 7 = 72057594037927936 := by decide
    rw [e7] at hp
    have hc := hb l[k] (List.getElem_mem _)
    have hmul : IntKind.u64.wrap (valB (l.take k) * 256) = valB (l.take k) * 256 := wrap_u64 (by omega) (by omega)
    have hcw : IntKind.u64.wrap l[k] = l[k] := wrap_u64 hc.1 (by omega)
    have hadd : IntKind.u64.wrap (valB (l.take k) * 256 + l[k]) = valB (l.take (k + 1)) := by
      rw [valB_succ hkl]; exact wrap_u64 (by omega) (by omega)
    repeat' (first | (refine ycf ?_; apply ybk; (· first | (first | (refine qv_len_bstr rfl) | (refine qv_at_bstr (k := k) hb rfl rfl rfl hkl) | (refine qv_at_bstr (k := l.length - 1 - k) hb rfl rfl (by omega) (by omega)) | (refine qv_mul' rfl rfl hmul) | (refine qv_convert_int' rfl hcw) | (refine qv_add' rfl rfl hadd))); (· rfl); (· rfl)) | refine t1_ ?_ | (refine ta_ ?_; intro _) | ((fail_if_success (refine ybi rfl ?_)); refine ybj rfl ?_ ?_ <;> (intro ht; rw [ht]; first | replace ht := of_decide_eq_true ht | replace ht := of_decide_eq_false ht | skip)) | (refine ych ?_; first | (refine ybw rfl ?_ ?_ <;> intro ht) | (refine ybx rfl ?_ ?_ <;> intro ht)))
    · exact nx_round (k + 1) (by show k + 1 ≤ l.length; omega) (by show l.length - (k + 1) < l.length - k; omega) ts_ (fun _ s => s)
    all_goals omega
  · have ek : k = l.length := by omega
    subst ek
    repeat' (first | (refine ycf ?_; apply ybk; (· first | (first | (refine qv_len_bstr rfl) | (refine qv_at_bstr (k := k) hb rfl rfl rfl hkl) | (refine qv_at_bstr (k := l.length - 1 - k) hb rfl rfl (by omega) (by omega)) | (refine qv_mul' rfl rfl hmul) | (refine qv_convert_int' rfl hcw) | (refine qv_add' rfl rfl hadd))); (· rfl); (· rfl)) | refine t1_ ?_ | (refine ta_ ?_; intro _) | ((fail_if_success (refine ybi rfl ?_)); refine ybj rfl ?_ ?_ <;> (intro ht; rw [ht]; first | replace ht := of_decide_eq_true ht | replace ht := of_decide_eq_false ht | skip)) | (refine ych ?_; first | (refine ybw rfl ?_ ?_ <;> intro ht) | (refine ybx rfl ?_ ?_ <;> intro ht)))
    all_goals try omega
    rw [List.take_length]
    exact nx_ret1 rfl (rv_tmp rfl) (fun w' s' => ⟨rfl, s'⟩)

abbrev rinR (bi : Nat) (l : List Int) (e : Int) : Res := Res.blk bi (.cells #[.string (bstr l), .int .i64 e] 54 (0, 0))

theorem rnumber_sp (bi : Nat) (l : List Int) (size : Nat) (most : Int) (hb : Bytes l) (h0 : 0 < size) (h8 : size ≤ 8) (hm : 0 ≤ most ∧ most < 9223372036854775808) (h : View) (w : World) (s : St ⟨w, h, doms [rinR bi l 0]⟩ h [rinR bi l 0] w) :
    Calls Tryz.prog 44 [.pointer (some ⟨bi, 0, none⟩), .int .i64 size, .int .i64 most].toArray w fun en w' => ∃ x : Unit, en = .returned (.int .i64 (lookC l size most).1) ∧ St ⟨w, h, doms [rinR bi l 0]⟩ h [rinR bi l (lookC l size most).2] w' ∧ True := by
  refine calls_enter Tryz.func44 rfl Tryz.ntmps44 rfl s ?_
  unfold lookC
  by_cases hsz : l.length < size
  · rw [if_pos hsz]
    repeat' (first | (refine ycf ?_; apply ybk; (· first | (first | (refine qv_len_bstr rfl) | (apply qv_nilCheck; rfl))); (· rfl); (· rfl)) | refine t1_ ?_ | (refine ta_ ?_; intro _) | ((fail_if_success (refine ybi rfl ?_)); refine ybj rfl ?_ ?_ <;> (intro ht; rw [ht]; first | replace ht := of_decide_eq_true ht | replace ht := of_decide_eq_false ht | skip)) | (refine ych ?_; first | (refine ybw rfl ?_ ?_ <;> intro ht) | (refine ybx rfl ?_ ?_ <;> intro ht)))
    · exact nx_ret1 rfl (rv_tmp rfl) (fun w' s' => ⟨(), rfl, s', trivial⟩)
    · omega
  · rw [if_neg hsz]
    have hbt : Bytes (l.take size) := fun x hx => hb x (List.mem_of_mem_take hx)
    have hlt : (l.take size).length ≤ 8 := by simp; omega
    have hbd := valB_bd hb size (by omega)
    have hp : (256 : Int) ^ size ≤ 256 ^ 8 := p256 h8
    have e8 : (256 : Int) ^ 8 = 18446744073709551616 := by decide
    rw [e8] at hp
    have hW := Word_sp (l.take size) hbt hlt h
    generalize valB (l.take size) = X at hbd hW ⊢
    have hmw : IntKind.u64.wrap most = most := wrap_u64 hm.1 (by omega)
    repeat' (first | (refine ycf ?_; apply ybk; (· first | (first | (refine qv_len_bstr rfl) | (apply qv_nilCheck; rfl) | (refine qv_str_to rfl rfl (by omega)) | (refine qv_convert_int' rfl hmw))); (· rfl); (· rfl)) | refine t1_ ?_ | (refine ta_ ?_; intro _) | ((fail_if_success (refine ybi rfl ?_)); refine ybj rfl ?_ ?_ <;> (intro ht; rw [ht]; first | replace ht := of_decide_eq_true ht | replace ht := of_decide_eq_false ht | skip)) | (refine ych ?_; first | (refine ybw rfl ?_ ?_ <;> intro ht) | (refine ybx rfl ?_ ?_ <;> intro ht)))
    · omega
    (refine ycn (ycp Tryz.func63 rfl (by kernel_rfl) rfl) (hW) rfl rfl rfl ?_ ?_; (· (exact to_)))
    by_cases hX : most < X
    · rw [if_pos hX]
      repeat' (first | (refine ycf ?_; apply ybk; (· first | (first | (refine qv_len_bstr rfl) | (apply qv_nilCheck; rfl) | (refine qv_str_to rfl rfl (by omega)) | (refine qv_convert_int' rfl hmw))); (· rfl); (· rfl)) | refine t1_ ?_ | (refine ta_ ?_; intro _) | ((fail_if_success (refine ybi rfl ?_)); refine ybj rfl ?_ ?_ <;> (intro ht; rw [ht]; first | replace ht := of_decide_eq_true ht | replace ht := of_decide_eq_false ht | skip)) | (refine ych ?_; first | (refine ybw rfl ?_ ?_ <;> intro ht) | (refine ybx rfl ?_ ?_ <;> intro ht)))
      all_goals try omega
      exact nx_ret1 rfl (rv_tmp rfl) (fun w' s' => ⟨(), rfl, s', trivial⟩)
    · rw [if_neg hX]
      have hXw : IntKind.i64.wrap X = X := wrap_i64 (by unfold I64; omega)
      repeat' (first | (refine ycf ?_; apply ybk; (· first | (first | (refine qv_len_bstr rfl) | (apply qv_nilCheck; rfl) | (refine qv_convert_int' rfl hXw) | (refine qv_convert_int' rfl hmw))); (· rfl); (· rfl)) | refine t1_ ?_ | (refine ta_ ?_; intro _) | ((fail_if_success (refine ybi rfl ?_)); refine ybj rfl ?_ ?_ <;> (intro ht; rw [ht]; first | replace ht := of_decide_eq_true ht | replace ht := of_decide_eq_false ht | skip)) | (refine ych ?_; first | (refine ybw rfl ?_ ?_ <;> intro ht) | (refine ybx rfl ?_ ?_ <;> intro ht)))
      all_goals try omega
      exact nx_ret1 rfl (rv_tmp rfl) (fun w' s' => ⟨(), rfl, s', trivial⟩)

theorem lookC_bad {l : List Int} {size : Nat} {most : Int} (hz : (lookC l size most).2 ≠ 0) : (lookC l size most).1 = 0 := by
  unfold lookC at hz ⊢
  split
  · rfl
  · rename_i h1
    rw [if_neg h1] at hz
    split
    · rfl
    · rename_i h2
      rw [if_neg h2] at hz
      exact absurd rfl hz
theorem lookC_len {l : List Int} {size : Nat} {most : Int} (hz : (lookC l size most).2 = 0) : size ≤ l.length := by
  unfold lookC at hz
  split at hz
  · cases hz
  · omega

theorem take_sp (bi : Nat) (l : List Int) (e : Int) (size : Nat) (most : Int) (hb : Bytes l) (h0 : 0 < size) (h8 : size ≤ 8) (hm : 0 ≤ most ∧ most < 9223372036854775808) (h : View) (w : World) (s : St ⟨w, h, doms [rinR bi l e]⟩ h [rinR bi l e] w) :
    Calls Tryz.prog 42 [.pointer (some ⟨bi, 0, none⟩), .int .i64 size, .int .i64 most].toArray w fun en w' => ∃ x : Unit, en = .returned (.int .i64 (numC (l, e) size most).1) ∧ St ⟨w, h, doms [rinR bi l e]⟩ h [rinR bi (numC (l, e) size most).2.1 (numC (l, e) size most).2.2] w' ∧ True := by
  refine calls_enter Tryz.func42 rfl Tryz.ntmps42 rfl s ?_
  unfold numC
  dsimp only
  by_cases he : e = 0
  · subst he
    rw [if_neg (by simp)]
    repeat' (first | (refine ycf ?_; apply ybk; (· first | (first | (apply qv_nilCheck; rfl))); (· rfl); (· rfl)) | refine t1_ ?_ | (refine ta_ ?_; intro _) | ((fail_if_success (refine ybi rfl ?_)); refine ybj rfl ?_ ?_ <;> (intro ht; rw [ht]; first | replace ht := of_decide_eq_true ht | replace ht := of_decide_eq_false ht | skip)) | (refine ych ?_; first | (refine ybw rfl ?_ ?_ <;> intro ht) | (refine ybx rfl ?_ ?_ <;> intro ht)))
    (refine rx_call_m (ycp Tryz.func44 rfl (by kernel_rfl) rfl) (perm_at (k := 0) rfl) (rnumber_sp bi l size most hb h0 h8 hm h) rfl rfl rfl ?_ ?_ ?_; (· (exact to_)); (· intro _ _ hle; (exact to_)); intro x px hle)
    by_cases hz : (lookC l size most).2 = 0
    · have hsl := lookC_len hz
      rw [if_pos hz, hz]
      repeat' (first | (refine ycf ?_; apply ybk; (· first | (first | (apply qv_nilCheck; rfl) | (refine qv_str_from rfl rfl hsl))); (· rfl); (· rfl)) | refine t1_ ?_ | (refine ta_ ?_; intro _) | ((fail_if_success (refine ybi rfl ?_)); refine ybj rfl ?_ ?_ <;> (intro ht; rw [ht]; first | replace ht := of_decide_eq_true ht | replace ht := of_decide_eq_false ht | skip)) | (refine ych ?_; first | (refine ybw rfl ?_ ?_ <;> intro ht) | (refine ybx rfl ?_ ?_ <;> intro ht)))
      all_goals try omega
      exact nx_ret1 rfl (rv_tmp rfl) (fun w' s' => ⟨(), rfl, s', trivial⟩)
    · rw [if_neg hz, lookC_bad hz]
      generalize (lookC l size most).2 = E at hz ⊢
      repeat' (first | (refine ycf ?_; apply ybk; (· first | (first | (apply qv_nilCheck; rfl) | (refine qv_str_from rfl rfl hsl))); (· rfl); (· rfl)) | refine t1_ ?_ | (refine ta_ ?_; intro _) | ((fail_if_success (refine ybi rfl ?_)); refine ybj rfl ?_ ?_ <;> (intro ht; rw [ht]; first | replace ht := of_decide_eq_true ht | replace ht := of_decide_eq_false ht | skip)) | (refine ych ?_; first | (refine ybw rfl ?_ ?_ <;> intro ht) | (refine ybx rfl ?_ ?_ <;> intro ht)))
      · omega
      exact nx_ret1 rfl (rv_tmp rfl) (fun w' s' => ⟨(), rfl, s', trivial⟩)
  · rw [if_pos he]
    repeat' (first | (refine ycf ?_; apply ybk; (· first | (first | (apply qv_nilCheck; rfl) | (refine qv_str_from rfl rfl hsl))); (· rfl); (· rfl)) | refine t1_ ?_ | (refine ta_ ?_; intro _) | ((fail_if_success (refine ybi rfl ?_)); refine ybj rfl ?_ ?_ <;> (intro ht; rw [ht]; first | replace ht := of_decide_eq_true ht | replace ht := of_decide_eq_false ht | skip)) | (refine ych ?_; first | (refine ybw rfl ?_ ?_ <;> intro ht) | (refine ybx rfl ?_ ?_ <;> intro ht)))
    all_goals try omega
    exact nx_ret1 rfl (rv_tmp rfl) (fun w' s' => ⟨(), rfl, s', trivial⟩)

theorem rNum_sp (bi : Nat) (l : List Int) (e : Int) (most : Int) (hb : Bytes l) (hm : 0 ≤ most ∧ most < 9223372036854775808) (h : View) (w : World) (s : St ⟨w, h, doms [rinR bi l e]⟩ h [rinR bi l e] w) :
    Calls Tryz.prog 18 [.pointer (some ⟨bi, 0, none⟩), .int .i64 most].toArray w fun en w' => ∃ x : Unit, en = .returned (.int .i64 (numC (l, e) 8 most).1) ∧ St ⟨w, h, doms [rinR bi l e]⟩ h [rinR bi (numC (l, e) 8 most).2.1 (numC (l, e) 8 most).2.2] w' ∧ True := by
  refine calls_enter Tryz.func18 rfl Tryz.ntmps18 rfl s ?_
  repeat' (first | (refine ycf ?_; apply ybk; (· first | (first | (apply qv_nilCheck; rfl) | (refine qv_str_from rfl rfl hsl))); (· rfl); (· rfl)) | refine t1_ ?_ | (refine ta_ ?_; intro _) | ((fail_if_success (refine ybi rfl ?_)); refine ybj rfl ?_ ?_ <;> (intro ht; rw [ht]; first | replace ht := of_decide_eq_true ht | replace ht := of_decide_eq_false ht | skip)) | (refine ych ?_; first | (refine ybw rfl ?_ ?_ <;> intro ht) | (refine ybx rfl ?_ ?_ <;> intro ht)))
  (refine rx_call_m (ycp Tryz.func42 rfl (by kernel_rfl) rfl) (perm_at (k := 0) rfl) (take_sp bi l e 8 most hb (by omega) (by omega) hm h) rfl rfl rfl ?_ ?_ ?_; (· (exact to_)); (· intro _ _ hle; (exact to_)); intro x px hle)
  repeat' (first | (refine ycf ?_; apply ybk; (· first | (first | (apply qv_nilCheck; rfl) | (refine qv_str_from rfl rfl hsl))); (· rfl); (· rfl)) | refine t1_ ?_ | (refine ta_ ?_; intro _) | ((fail_if_success (refine ybi rfl ?_)); refine ybj rfl ?_ ?_ <;> (intro ht; rw [ht]; first | replace ht := of_decide_eq_true ht | replace ht := of_decide_eq_false ht | skip)) | (refine ych ?_; first | (refine ybw rfl ?_ ?_ <;> intro ht) | (refine ybx rfl ?_ ?_ <;> intro ht)))
  exact nx_ret1 rfl (rv_tmp rfl) (fun w' s' => ⟨(), rfl, s', trivial⟩)

theorem rSmall_sp (bi : Nat) (l : List Int) (e : Int) (most : Int) (hb : Bytes l) (hm : 0 ≤ most ∧ most < 9223372036854775808) (h : View) (w : World) (s : St ⟨w, h, doms [rinR bi l e]⟩ h [rinR bi l e] w) :
    Calls Tryz.prog 17 [.pointer (some ⟨bi, 0, none⟩), .int .i64 most].toArray w fun en w' => ∃ x : Unit, en = .returned (.int .i64 (numC (l, e) 1 most).1) ∧ St ⟨w, h, doms [rinR bi l e]⟩ h [rinR bi (numC (l, e) 1 most).2.1 (numC (l, e) 1 most).2.2] w' ∧ True := by
  refine calls_enter Tryz.func17 rfl Tryz.ntmps17 rfl s ?_
  repeat' (first | (refine ycf ?_; apply ybk; (· first | (first | (apply qv_nilCheck; rfl) | (refine qv_str_from rfl rfl hsl))); (· rfl); (· rfl)) | refine t1_ ?_ | (refine ta_ ?_; intro _) | ((fail_if_success (refine ybi rfl ?_)); refine ybj rfl ?_ ?_ <;> (intro ht; rw [ht]; first | replace ht := of_decide_eq_true ht | replace ht := of_decide_eq_false ht | skip)) | (refine ych ?_; first | (refine ybw rfl ?_ ?_ <;> intro ht) | (refine ybx rfl ?_ ?_ <;> intro ht)))
  (refine rx_call_m (ycp Tryz.func42 rfl (by kernel_rfl) rfl) (perm_at (k := 0) rfl) (take_sp bi l e 1 most hb (by omega) (by omega) hm h) rfl rfl rfl ?_ ?_ ?_; (· (exact to_)); (· intro _ _ hle; (exact to_)); intro x px hle)
  repeat' (first | (refine ycf ?_; apply ybk; (· first | (first | (apply qv_nilCheck; rfl) | (refine qv_str_from rfl rfl hsl))); (· rfl); (· rfl)) | refine t1_ ?_ | (refine ta_ ?_; intro _) | ((fail_if_success (refine ybi rfl ?_)); refine ybj rfl ?_ ?_ <;> (intro ht; rw [ht]; first | replace ht := of_decide_eq_true ht | replace ht := of_decide_eq_false ht | skip)) | (refine ych ?_; first | (refine ybw rfl ?_ ?_ <;> intro ht) | (refine ybx rfl ?_ ?_ <;> intro ht)))
  exact nx_ret1 rfl (rv_tmp rfl) (fun w' s' => ⟨(), rfl, s', trivial⟩)

theorem bstr_nil {l : List Int} : ((bstr l).toList == (⟨#[]⟩ : ByteArray).toList) = decide (l.length = 0) := by
  rw [ByteArray.toList_eq, ByteArray.toList_eq]
  cases l with
  | nil => rfl
  | cons x l => simp [bstr]

theorem rEnd_sp (bi : Nat) (l : List Int) (e : Int) (h : View) (w : World) (s : St ⟨w, h, doms [rinR bi l e]⟩ h [rinR bi l e] w) :
    Calls Tryz.prog 21 [.pointer (some ⟨bi, 0, none⟩)].toArray w fun en w' => ∃ x : Unit, en = .returned (.int .i64 (endC (l, e))) ∧ St ⟨w, h, doms [rinR bi l e]⟩ h [rinR bi l e] w' ∧ True := by
  refine calls_enter Tryz.func21 rfl Tryz.ntmps21 rfl s ?_
  unfold endC
  dsimp only
  by_cases hl : l.length = 0
  · have hn : (!((bstr l).toList == (⟨#[]⟩ : ByteArray).toList)) = false := by rw [bstr_nil, decide_eq_true hl]; rfl
    rw [if_neg (by omega)]
    repeat' (first | (refine ycf ?_; apply ybk; (· first | (first | (apply qv_nilCheck; rfl) | (refine qv_neq_str rfl rfl hn))); (· rfl); (· rfl)) | refine t1_ ?_ | (refine ta_ ?_; intro _) | ((fail_if_success (refine ybi rfl ?_)); refine ybj rfl ?_ ?_ <;> (intro ht; rw [ht]; first | replace ht := of_decide_eq_true ht | replace ht := of_decide_eq_false ht | skip)) | (refine ych ?_; first | (refine ybw rfl ?_ ?_ <;> intro ht) | (refine ybx rfl ?_ ?_ <;> intro ht)))
    all_goals exact nx_ret1 rfl (rv_tmp rfl) (fun w' s' => ⟨(), rfl, s', trivial⟩)
  · have hn : (!((bstr l).toList == (⟨#[]⟩ : ByteArray).toList)) = true := by rw [bstr_nil, decide_eq_false hl]; rfl
    repeat' (first | (refine ycf ?_; apply ybk; (· first | (first | (apply qv_nilCheck; rfl) | (refine qv_neq_str rfl rfl hn))); (· rfl); (· rfl)) | refine t1_ ?_ | (refine ta_ ?_; intro _) | ((fail_if_success (refine ybi rfl ?_)); refine ybj rfl ?_ ?_ <;> (intro ht; rw [ht]; first | replace ht := of_decide_eq_true ht | replace ht := of_decide_eq_false ht | skip)) | (refine ych ?_; first | (refine ybw rfl ?_ ?_ <;> intro ht) | (refine ybx rfl ?_ ?_ <;> intro ht)))
    · rw [if_pos (by omega)]
      exact nx_ret1 rfl (rv_tmp rfl) (fun w' s' => ⟨(), rfl, s', trivial⟩)
    · rw [if_neg (by omega)]
      exact nx_ret1 rfl (rv_tmp rfl) (fun w' s' => ⟨(), rfl, s', trivial⟩)
end Go.Proofs.YtkkjppeaaicgaaaGreat
end

section
namespace Go.Proofs.YtkkjppeaaicgaaaGreat
open Go Go.Ck
set_option maxRecDepth 100000
set_option maxHeartbeats 1000000
set_option linter.unusedVariables false

theorem refDot_sp (d : Dt) (h : View) (w : World) (s : St ⟨w, h, []⟩ h [] w) :
    Calls Tryz.prog 62 [dv d].toArray w fun e w' => e = .returned (.bool (rightB d)) ∧ St ⟨w, h, []⟩ h [] w' := by
  refine calls_enter Tryz.func62 rfl Tryz.ntmps62 rfl s ?_
  repeat' (first | refine tw_ ?_ | (refine ta_ ?_; intro _) | ((fail_if_success (refine ybi rfl ?_)); refine ybj rfl ?_ ?_ <;> (intro ht; rw [ht]; first | replace ht := of_decide_eq_true ht | replace ht := of_decide_eq_false ht | skip)) | (refine ych ?_; first | (refine ybw rfl ?_ ?_ <;> intro ht) | (refine ybx rfl ?_ ?_ <;> intro ht)))
  all_goals (refine nx_ret1 rfl (rv_tmp rfl) (fun w' s' => ⟨?_, s'.nil⟩))
  all_goals (congr 2; simp [rightB, *])

theorem refHas_sp (cv : Value) (u : List Int) (l : List Dt) (d : Dt) (h : View) (hc : Cx h cv u l) (hl : l.length ≤ 4611686018427387904) (hr : rightB d = true) (w : World) (s : St ⟨w, h, []⟩ h [] w) :
    Calls Tryz.prog 47 [cv, dv d].toArray w fun e w' => e = .returned (.bool (hasC u l d)) ∧ St ⟨w, h, []⟩ h [] w' := by
  obtain ⟨hu, mv, rfl, hs⟩ := hc
  obtain ⟨_, ad, cap, rfl, hcap, _⟩ := id hs
  have hr' := right_of hr
  refine calls_enter Tryz.func47 rfl Tryz.ntmps47 rfl s ?_
  repeat' (first | refine tw_ ?_ | (refine ta_ ?_; intro _) | ((fail_if_success (refine ybi rfl ?_)); refine ybj rfl ?_ ?_ <;> (intro ht; rw [ht]; first | replace ht := of_decide_eq_true ht | replace ht := of_decide_eq_false ht | skip)) | (refine ych ?_; first | (refine ybw rfl ?_ ?_ <;> intro ht) | (refine ybx rfl ?_ ?_ <;> intro ht)))
  refine cx_region_draw' rfl (by kernel_rfl) ?_
  repeat' (refine ycf ?_;(first|(first|(apply ybm;(·(first|(apply yae;(·rfl);(·(first|exact ycl (yaz 1 rfl) (d.1 - 1).toNat (by omega) (by omega)|exact yck (yaz 1 rfl) hu rfl)))|exact tq_));(·rfl);(·rfl);(·(exact th_)))|refine ybl rfl rfl ?_|((fail_if_success (refine ybi rfl ?_));refine ybj rfl ?_ ?_<;>(intro ht;rw [ht];first|replace ht := of_decide_eq_true ht|replace ht := of_decide_eq_false ht|skip))|(refine tb_ ?_ ?_ ?_;(·(exact to_));(·intro _;(exact to_));intro _)|(first|(refine tqs_ ?_ ?_ ?_;(·(exact to_));(·(exact to_))))|(apply ybn;(·(first|(apply yae;(·rfl);(·(first|exact ycl (yaz 1 rfl) (d.1 - 1).toNat (by omega) (by omega)|exact yck (yaz 1 rfl) hu rfl)))|exact tq_));(·rfl);(·rfl);(·rfl);(·(exact to_))))|refine ycg ?_))
  repeat' (first | (refine ycf ?_; apply ybk; (· first | (apply yae; (· rfl); (· (first | exact ycl (yaz 1 rfl) (d.1 - 1).toNat (by omega) (by omega) | exact yck (yaz 1 rfl) hu rfl)))); (· rfl); (· rfl)) | refine t1_ ?_ | (refine ta_ ?_; intro _) | ((fail_if_success (refine ybi rfl ?_)); refine ybj rfl ?_ ?_ <;> (intro ht; rw [ht]; first | replace ht := of_decide_eq_true ht | replace ht := of_decide_eq_false ht | skip)) | (refine ych ?_; first | (refine ybw rfl ?_ ?_ <;> intro ht) | (refine ybx rfl ?_ ?_ <;> intro ht)))
  · have : decide (d.2 ≤ uD u d) = true := decide_eq_true (by unfold uD; assumption)
    exact nx_ret1 rfl (rv_tmp rfl) (fun w' s' => ⟨by simp [hasC, this], s'.nil⟩)
  rename_i b1 b2
  have hf : decide (d.2 ≤ uD u d) = false := decide_eq_false ht
  clear ht
  refine cx_loop (X := Nat) (fun k => [(2, .pointer (some ⟨b1, 0, none⟩)), (3, .pointer (some ⟨b2, 0, none⟩)), (5, .int .i64 k)]) (fun _ => h) (fun _ => _) (fun k => k ≤ l.length ∧ ∀ j (hj : j < l.length), j < k → l[j] ≠ d) (fun k => l.length - k) 0 ⟨by omega, by omega⟩ ts_ (fun _ s => s) ?_
  rintro k ⟨hk, hno⟩
  by_cases hkl : k < l.length
  · obtain ⟨bs, o, rfl⟩ := hs.ad (by omega) (by omega)
    have hel : ∀ L, Cells h L ⟨bs, o + k * 2, none⟩ (dcs l[k]) := fun L => hs.elem dcs_len k hkl
    repeat' (first | (refine ycf ?_; apply ybk; (· first | (apply yae; (· rfl); (· (first | exact ycl (yaz 1 rfl) (d.1 - 1).toNat (by omega) (by omega) | exact yck (yaz 1 rfl) hu rfl)))); (· rfl); (· rfl)) | refine t1_ ?_ | (refine ta_ ?_; intro _) | ((fail_if_success (refine ybi rfl ?_)); refine ybj rfl ?_ ?_ <;> (intro ht; rw [ht]; first | replace ht := of_decide_eq_true ht | replace ht := of_decide_eq_false ht | skip)) | (refine ych ?_; first | (refine ybw rfl ?_ ?_ <;> intro ht) | (refine ybx rfl ?_ ?_ <;> intro ht)))
    · refine cx_region_draw' rfl (by kernel_rfl) ?_
      repeat' (refine ycf ?_;(first|(first|(apply ybm;(·(first|(first|(refine yad rfl (hel _) ?_;rfl)|exact qv_eql_agg rfl rfl (fun w => dot_eq _ _ w))|(apply yae;(·rfl);(·(first|exact ycl (yaz 1 rfl) (d.1 - 1).toNat (by omega) (by omega)|exact yck (yaz 1 rfl) hu rfl)))|exact tq_));(·rfl);(·rfl);(·(exact th_)))|refine ybl rfl rfl ?_|((fail_if_success (refine ybi rfl ?_));refine ybj rfl ?_ ?_<;>(intro ht;rw [ht];first|replace ht := of_decide_eq_true ht|replace ht := of_decide_eq_false ht|skip))|(refine tb_ ?_ ?_ ?_;(·(exact to_));(·intro _;(exact to_));intro _)|(first|(refine tqs_ ?_ ?_ ?_;(·(exact to_));(·(exact to_))))|(apply ybn;(·(first|(first|(refine yad rfl (hel _) ?_;rfl)|exact qv_eql_agg rfl rfl (fun w => dot_eq _ _ w))|(apply yae;(·rfl);(·(first|exact ycl (yaz 1 rfl) (d.1 - 1).toNat (by omega) (by omega)|exact yck (yaz 1 rfl) hu rfl)))|exact tq_));(·rfl);(·rfl);(·rfl);(·(exact to_))))|refine ycg ?_))
      repeat' (first | (refine ycf ?_; apply ybk; (· first | (first | (refine yad rfl (hel _) ?_; rfl) | exact qv_eql_agg rfl rfl (fun w => dot_eq _ _ w)) | (apply yae; (· rfl); (· (first | exact ycl (yaz 1 rfl) (d.1 - 1).toNat (by omega) (by omega) | exact yck (yaz 1 rfl) hu rfl)))); (· rfl); (· rfl)) | refine t1_ ?_ | (refine ta_ ?_; intro _) | ((fail_if_success (refine ybi rfl ?_)); refine ybj rfl ?_ ?_ <;> (intro ht; rw [ht]; first | replace ht := of_decide_eq_true ht | replace ht := of_decide_eq_false ht | skip)) | (refine ych ?_; first | (refine ybw rfl ?_ ?_ <;> intro ht) | (refine ybx rfl ?_ ?_ <;> intro ht)))
      · refine nx_ret1 rfl (rv_tmp rfl) (fun w' s' => ⟨?_, s'.nil⟩)
        have hm : d ∈ l := by rw [← ht]; exact List.getElem_mem hkl
        simp [hasC, hm]
      · refine nx_round (k + 1) ⟨by omega, fun j hj hjk => ?_⟩ (by omega) ts_ (fun _ s => s)
        by_cases hjk' : j = k
        · subst hjk'; exact ht
        · exact hno j hj (by omega)
    · omega
  · repeat' (first | (refine ycf ?_; apply ybk; (· first | (first | (refine yad rfl (hel _) ?_; rfl) | exact qv_eql_agg rfl rfl (fun w => dot_eq _ _ w)) | (apply yae; (· rfl); (· (first | exact ycl (yaz 1 rfl) (d.1 - 1).toNat (by omega) (by omega) | exact yck (yaz 1 rfl) hu rfl)))); (· rfl); (· rfl)) | refine t1_ ?_ | (refine ta_ ?_; intro _) | ((fail_if_success (refine ybi rfl ?_)); refine ybj rfl ?_ ?_ <;> (intro ht; rw [ht]; first | replace ht := of_decide_eq_true ht | replace ht := of_decide_eq_false ht | skip)) | (refine ych ?_; first | (refine ybw rfl ?_ ?_ <;> intro ht) | (refine ybx rfl ?_ ?_ <;> intro ht)))
    · omega
    · refine nx_ret1 rfl (rv_tmp rfl) (fun w' s' => ⟨?_, s'.nil⟩)
      have hm : d ∉ l := fun hm => by
        obtain ⟨j, hj, hjd⟩ := List.getElem_of_mem hm
        exact hno j hj (by omega) hjd
      unfold hasC
      rw [hf, decide_eq_false hm]; rfl

theorem refSame_sp (cv dvv : Value) (u v : List Int) (l m : List Dt) (h : View) (hc : Cx h cv u l) (hd : Cx h dvv v m) (hl : l.length ≤ 4611686018427387904) (hm : m.length ≤ 4611686018427387904) (w : World) (s : St ⟨w, h, []⟩ h [] w) :
    Calls Tryz.prog 25 [cv, dvv].toArray w fun e w' => e = .returned (.bool (decide (u = v) && decide (l = m))) ∧ St ⟨w, h, []⟩ h [] w' := by
  obtain ⟨hu, mv, rfl, hs⟩ := hc
  obtain ⟨hv, nv, rfl, hs2⟩ := hd
  obtain ⟨_, ad, cap, rfl, hcap, _⟩ := id hs
  obtain ⟨_, ad2, cap2, rfl, hcap2, _⟩ := id hs2
  refine calls_enter Tryz.func25 rfl Tryz.ntmps25 rfl s ?_
  repeat' (first|(refine ycf ?_;apply ybk;(·first|(first|(apply yad;(·rfl);(·exact ycm (yaz 0 rfl));(·simp [up, hv]))|(apply yad;(·rfl);(·exact ycm (yaz 1 rfl));(·simp [up, hu]))|(apply qv_neq_agg;(·rfl);(·rfl);(·exact fun w => run_equal_arr u v hu hv w)))|(apply yae;(·rfl);(·(first|exact yck (yaz 0 rfl) hv rfl|exact yck (yaz 1 rfl) hu rfl))));(·rfl);(·rfl))|refine t1_ ?_|(refine ta_ ?_;intro _)|((fail_if_success (refine ybi rfl ?_));refine ybj rfl ?_ ?_<;>(intro ht;rw [ht];first|replace ht := of_decide_eq_true ht|replace ht := of_decide_eq_false ht|skip))|(refine ych ?_;first|(refine ybw rfl ?_ ?_<;>intro ht)|(refine ybx rfl ?_ ?_<;>intro ht)))
  · have hne := ht
    refine nx_ret1 rfl (rv_tmp rfl) (fun w' s' => ⟨?_, s'.nil⟩)
    have : ¬ u = v := by simpa using hne
    simp [this]
  · have hne := ht
    refine nx_ret1 rfl (rv_tmp rfl) (fun w' s' => ⟨?_, s'.nil⟩)
    have : ¬ l = m := fun e => by rw [e] at hne; exact hne rfl
    simp [this]
  · rename_i b2 b1 huv0
    have huv : u = v := by simpa using huv0
    have hlm : l.length = m.length := by omega
    clear ht huv0
    refine cx_loop (X := Nat) (fun k => [(2, .pointer (some ⟨b2, 0, none⟩)), (3, .pointer (some ⟨b1, 0, none⟩)), (5, .int .i64 k)]) (fun _ => h) (fun _ => _) (fun k => k ≤ l.length ∧ ∀ j (hj : j < l.length), j < k → l[j] = m[j]'(by omega)) (fun k => l.length - k) 0 ⟨by omega, by omega⟩ ts_ (fun _ s => s) ?_
    rintro k ⟨hk, hno⟩
    by_cases hkl : k < l.length
    · obtain ⟨bs, o, rfl⟩ := hs.ad (by omega) (by omega)
      obtain ⟨bt, o2, rfl⟩ := hs2.ad (by omega) (by omega)
      have hkm : k < m.length := by omega
      have hel : ∀ L, Cells h L ⟨bs, o + k * 2, none⟩ (dcs l[k]) := fun L => hs.elem dcs_len k hkl
      have hel2 : ∀ L, Cells h L ⟨bt, o2 + k * 2, none⟩ (dcs m[k]) := fun L => hs2.elem dcs_len k hkm
      repeat' (first|(refine ycf ?_;apply ybk;(·first|(first|(apply yad;(·rfl);(·exact ycm (yaz 0 rfl));(·simp [up, hv]))|(apply yad;(·rfl);(·exact ycm (yaz 1 rfl));(·simp [up, hu]))|(apply qv_neq_agg;(·rfl);(·rfl);(·exact fun w => run_equal_arr u v hu hv w)))|(apply yae;(·rfl);(·(first|exact yck (yaz 0 rfl) hv rfl|exact yck (yaz 1 rfl) hu rfl))));(·rfl);(·rfl))|refine t1_ ?_|(refine ta_ ?_;intro _)|((fail_if_success (refine ybi rfl ?_));refine ybj rfl ?_ ?_<;>(intro ht;rw [ht];first|replace ht := of_decide_eq_true ht|replace ht := of_decide_eq_false ht|skip))|(refine ych ?_;first|(refine ybw rfl ?_ ?_<;>intro ht)|(refine ybx rfl ?_ ?_<;>intro ht)))
      · refine cx_region_draw' rfl (by kernel_rfl) ?_
        repeat' (refine ycf ?_;(first|(first|(apply ybm;(·(first|(first|(refine yad rfl (hel _) ?_;rfl)|(refine yad rfl (hel2 _) ?_;rfl)|exact qv_neq_agg rfl rfl (fun w => dot_eq _ _ w))|(apply yae;(·rfl);(·(first|exact yck (yaz 0 rfl) hv rfl|exact yck (yaz 1 rfl) hu rfl)))|exact tq_));(·rfl);(·rfl);(·(exact th_)))|refine ybl rfl rfl ?_|((fail_if_success (refine ybi rfl ?_));refine ybj rfl ?_ ?_<;>(intro ht;rw [ht];first|replace ht := of_decide_eq_true ht|replace ht := of_decide_eq_false ht|skip))|(refine tb_ ?_ ?_ ?_;(·(exact to_));(·intro _;(exact to_));intro _)|(first|(refine tqs_ ?_ ?_ ?_;(·(exact to_));(·(exact to_))))|(apply ybn;(·(first|(first|(refine yad rfl (hel _) ?_;rfl)|(refine yad rfl (hel2 _) ?_;rfl)|exact qv_neq_agg rfl rfl (fun w => dot_eq _ _ w))|(apply yae;(·rfl);(·(first|exact yck (yaz 0 rfl) hv rfl|exact yck (yaz 1 rfl) hu rfl)))|exact tq_));(·rfl);(·rfl);(·rfl);(·(exact to_))))|refine ycg ?_))
        repeat' (first | (refine ycf ?_; apply ybk; (· first | (first | (refine yad rfl (hel _) ?_; rfl) | (refine yad rfl (hel2 _) ?_; rfl) | exact qv_neq_agg rfl rfl (fun w => dot_eq _ _ w)) | (apply yae; (· rfl); (· (first | exact yck (yaz 0 rfl) hv rfl | exact yck (yaz 1 rfl) hu rfl)))); (· rfl); (· rfl)) | refine t1_ ?_ | (refine ta_ ?_; intro _) | ((fail_if_success (refine ybi rfl ?_)); refine ybj rfl ?_ ?_ <;> (intro ht; rw [ht]; first | replace ht := of_decide_eq_true ht | replace ht := of_decide_eq_false ht | skip)) | (refine ych ?_; first | (refine ybw rfl ?_ ?_ <;> intro ht) | (refine ybx rfl ?_ ?_ <;> intro ht)))
        · have hne := ht
          refine nx_ret1 rfl (rv_tmp rfl) (fun w' s' => ⟨?_, s'.nil⟩)
          have : ¬ l = m := fun e => by
            subst e
            simp at hne
          simp [this]
        · have hne := ht
          refine nx_round (k + 1) ⟨by omega, fun j hj hjk => ?_⟩ (by omega) ts_ (fun _ s => s)
          by_cases hjk' : j = k
          · subst hjk'; simpa using hne
          · exact hno j hj (by omega)
      · omega
    · repeat' (first | (refine ycf ?_; apply ybk; (· first | (first | (refine yad rfl (hel _) ?_; rfl) | (refine yad rfl (hel2 _) ?_; rfl) | exact qv_neq_agg rfl rfl (fun w => dot_eq _ _ w)) | (apply yae; (· rfl); (· (first | exact yck (yaz 0 rfl) hv rfl | exact yck (yaz 1 rfl) hu rfl)))); (· rfl); (· rfl)) | refine t1_ ?_ | (refine ta_ ?_; intro _) | ((fail_if_success (refine ybi rfl ?_)); refine ybj rfl ?_ ?_ <;> (intro ht; rw [ht]; first | replace ht := of_decide_eq_true ht | replace ht := of_decide_eq_false ht | skip)) | (refine ych ?_; first | (refine ybw rfl ?_ ?_ <;> intro ht) | (refine ybx rfl ?_ ?_ <;> intro ht)))
      · omega
      · refine nx_ret1 rfl (rv_tmp rfl) (fun w' s' => ⟨?_, s'.nil⟩)
        have : l = m := List.ext_getElem hlm fun i h1 h2 => hno i h1 (by omega)
        simp [this, huv]

end Go.Proofs.YtkkjppeaaicgaaaGreat
end
