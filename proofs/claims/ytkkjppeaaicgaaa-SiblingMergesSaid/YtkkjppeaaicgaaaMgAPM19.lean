/-
  The statement SiblingMergesSaid: for every input the law SiblingMerges returns true, and its arguments read as they did.
  Conditions: none.
-/
import Derived.Deep.Slices
import Derived.Carry
import Derived.DataReads
import Derived.DataShut
import Derived.Test.YtkkjppeaaicgaaaRows
import Derived.WalkKit
import Derived.ProofKit
import Derived.OpenShut
import Derived.Test.YtkkjppeaaicgaaaMgAPM18
section
namespace Go.Proofs.Ytkkjppeaaicgaaa
open Go Go.Ck
set_option maxRecDepth 100000
set_option maxHeartbeats 4000000
set_option linter.unusedVariables false

theorem stame_fits {T l : List Sb} (e : T.map Sb.a = (l.take 20).map fun x => cutA 40 100 x.a) : Fits T := by
  refine ⟨?_, fun x hx => ?_⟩
  · have := congrArg List.length e
    simp at this
    omega
  · have h2 : x.a ∈ (l.take 20).map fun x => cutA 40 100 x.a := by rw [← e]; exact List.mem_map_of_mem hx
    obtain ⟨y, _, e⟩ := List.mem_map.1 h2
    have e1 : x.l = y.l.take 40 := (congrArg (·.2.2.1) e).symm
    have e2 : x.b = y.b.take 100 := (congrArg (·.2.2.2) e).symm
    rw [e1, e2]
    simp
    omega
theorem fits_eq {T I : List Sb} (e : I.map Sb.a = T.map Sb.a) (f : Fits T) : Fits I := by
  refine ⟨?_, fun x hx => ?_⟩
  · have := congrArg List.length e
    simp at this
    rw [this]
    exact f.1
  · have h2 : x.a ∈ T.map Sb.a := by rw [← e]; exact List.mem_map_of_mem hx
    obtain ⟨y, hy, e⟩ := List.mem_map.1 h2
    have e1 : x.l = y.l := (congrArg (·.2.2.1) e).symm
    have e2 : x.b = y.b := (congrArg (·.2.2.2) e).symm
    rw [e1, e2]
    exact f.2 y hy
theorem fits_set {l : List Sb} (h : checkA (l.map Sb.a) = 0) : Fits l := by
  obtain ⟨c1, c2, _, _⟩ := checkA_ok h
  refine ⟨by rw [List.length_map] at c1; omega, fun x hx => ?_⟩
  obtain ⟨_, h2, _, h4⟩ := rightA_ok (c2 x.a (List.mem_map_of_mem hx))
  have h5 : x.l.length ≤ 32 := (check_right h2).2.1
  exact ⟨by omega, by have : x.b.length ≤ 16384 := h4; omega⟩
theorem mergeF_err {A B : List Ab} (h : (mergeF A B).2 ≠ 0) : (mergeF A B).1 = [] := by
  unfold mergeF at h ⊢
  split
  · rfl
  · split
    · rfl
    · split
      · rfl
      · rename_i h1 h2 h3
        simp [h1, h2, h3] at h
theorem fits_merged {M : List Sb} {A B : List Ab} (e : M.map Sb.a = (mergeF A B).1) : Fits M := by
  by_cases h : (mergeF A B).2 = 0
  · exact fits_set (by rw [e]; exact mergeF_set h)
  · rw [mergeF_err h] at e
    rw [List.map_eq_nil_iff.1 e]
    exact ⟨by simp, fun x hx => by cases hx⟩
theorem same_of {va vb : Value} {a b : List Sb} {h : View} (ha : Rs h va a) (hb : Rs h vb b) (fa : Fits a) (fb : Fits b) (w : World) (s : St ⟨w, h, []⟩ h [] w) :
    Calls Try.prog 23 [va, vb].toArray w fun e w' => e = .returned (.bool (decide (a.map Sb.a = b.map Sb.a))) ∧ St ⟨w, h, []⟩ h [] w' :=
  rsame_sp va vb a b h ha hb (by have := fa.1; omega) (by have := fb.1; omega) (fun x hx => by have := (fa.2 x hx).1; omega) (fun x hx => by have := (fb.2 x hx).1; omega) w s
theorem sme_of {va vb : Value} {a b : List Sb} {h : View} (ha : Ss h va a) (hb : Ss h vb b) (fa : Fits a) (fb : Fits b) (w : World) (s : St ⟨w, h, []⟩ h [] w) :
    Calls Try.prog 25 [va, vb].toArray w fun e w' => e = .returned (.bool (decide (a.map Sb.a = b.map Sb.a))) ∧ St ⟨w, h, []⟩ h [] w' :=
  sSame_sp va vb a b h ha hb (by have := fa.1; omega) (by have := fb.1; omega) (fun x hx => by have := (fa.2 x hx).1; omega) (fun x hx => by have := (fb.2 x hx).1; omega) w s
theorem sputF_sp (va : Value) (a : List Sb) (y : Sb) (h : View) (ha : Ss h va a) (hy : Sv h y) (fa : Fits a) (fy : y.l.length ≤ 1000000 ∧ y.b.length ≤ 1000000) (w : World) (s : St ⟨w, h, []⟩ h [] w) :
    Calls Try.prog 15 [va, sbv y].toArray w fun e w' => ∃ z : View × Value × List Sb, e = .returned (.tuple #[z.2.1, .int .i64 (mergeF (a.map Sb.a) [y.a]).2]) ∧ St ⟨w, h, []⟩ z.1 [] w' ∧ Ss z.1 z.2.1 z.2.2 ∧ z.2.2.map Sb.a = (mergeF (a.map Sb.a) [y.a]).1 := by
  refine (put_sp va a y h ha hy fa fy w s).mono ?_
  rintro e w' ⟨⟨h2, v2, M, er⟩, he, hs, hS, hM⟩
  have hf := merge_fun hM
  refine ⟨(h2, v2, M), ?_, hs, hS, ?_⟩
  · rw [show mergeF (a.map Sb.a) [y.a] = mergeF (a.map Sb.a) ([y].map Sb.a) from rfl, hf]; exact he
  · rw [show mergeF (a.map Sb.a) [y.a] = mergeF (a.map Sb.a) ([y].map Sb.a) from rfl, hf]

theorem SiblingMerges_sp (av bv : Value) (la lb : List Sb) (h : View) (ha : Rs h av la) (hb : Rs h bv lb) (hla : la.length ≤ 9223372036854775807) (hlla : ∀ x ∈ la, x.l.length ≤ 9223372036854775807 ∧ x.b.length ≤ 9223372036854775807)
    (hlb : lb.length ≤ 9223372036854775807) (hllb : ∀ x ∈ lb, x.l.length ≤ 9223372036854775807 ∧ x.b.length ≤ 9223372036854775807) (w : World) (s : St ⟨w, h, []⟩ h [] w) :
    Calls Try.prog 6 [av, bv].toArray w fun e w' => ∃ h', e = .returned (.bool true) ∧ St ⟨w, h, []⟩ h' [] w' := by
  refine calls_enter Try.func6 rfl Try.ntmps6 rfl s ?_
  repeat' (first | refine tw_ ?_ | (refine ta_ ?_; intro _) | ((fail_if_success (refine ybi rfl ?_)); refine ybj rfl ?_ ?_ <;> (intro ht; rw [ht]; first | replace ht := of_decide_eq_true ht | replace ht := of_decide_eq_false ht | skip)) | (refine ych ?_; first | (refine ybw rfl ?_ ?_ <;> intro ht) | (refine ybx rfl ?_ ?_ <;> intro ht)))
  (refine yco (ycp Try.func9 rfl (by kernel_rfl) rfl) (stame_sp av la h ha hla hlla) rfl rfl rfl ?_ ?_ ?_; (· (exact to_)); (· intro _ _ hle; (exact to_)); intro x px hle)
  obtain ⟨h1, v1, A⟩ := x
  obtain ⟨hA, eA⟩ := px
  dsimp only at hA eA
  have hle1 : Le h h1 := hle
  clear hle
  have fA := stame_fits eA
  repeat' (first | refine tw_ ?_ | (refine ta_ ?_; intro _) | ((fail_if_success (refine ybi rfl ?_)); refine ybj rfl ?_ ?_ <;> (intro ht; rw [ht]; first | replace ht := of_decide_eq_true ht | replace ht := of_decide_eq_false ht | skip)) | (refine ych ?_; first | (refine ybw rfl ?_ ?_ <;> intro ht) | (refine ybx rfl ?_ ?_ <;> intro ht)))
  (refine yco (ycp Try.func9 rfl (by kernel_rfl) rfl) (stame_sp bv lb h1 (hb.mono hle1) hlb hllb) rfl rfl rfl ?_ ?_ ?_; (· (exact to_)); (· intro _ _ hle; (exact to_)); intro x px hle)
  obtain ⟨h2, v2, B⟩ := x
  obtain ⟨hB, eB⟩ := px
  dsimp only at hB eB
  have hle2 : Le h1 h2 := hle
  clear hle
  have fB := stame_fits eB
  repeat' (first | refine tw_ ?_ | (refine ta_ ?_; intro _) | ((fail_if_success (refine ybi rfl ?_)); refine ybj rfl ?_ ?_ <;> (intro ht; rw [ht]; first | replace ht := of_decide_eq_true ht | replace ht := of_decide_eq_false ht | skip)) | (refine ych ?_; first | (refine ybw rfl ?_ ?_ <;> intro ht) | (refine ybx rfl ?_ ?_ <;> intro ht)))
  (refine yco (ycp Try.func10 rfl (by kernel_rfl) rfl) (sto_sp v1 A h2 (hA.mono hle2) fA) rfl rfl rfl ?_ ?_ ?_; (· (exact to_)); (· intro _ _ hle; (exact to_)); intro x px hle)
  obtain ⟨h3, v3, X⟩ := x
  obtain ⟨hX, eX⟩ := px
  dsimp only at hX eX
  have hle3 : Le h2 h3 := hle
  clear hle
  have fX := fits_eq eX fA
  repeat' (first | refine tw_ ?_ | (refine ta_ ?_; intro _) | ((fail_if_success (refine ybi rfl ?_)); refine ybj rfl ?_ ?_ <;> (intro ht; rw [ht]; first | replace ht := of_decide_eq_true ht | replace ht := of_decide_eq_false ht | skip)) | (refine ych ?_; first | (refine ybw rfl ?_ ?_ <;> intro ht) | (refine ybx rfl ?_ ?_ <;> intro ht)))
  (refine yco (ycp Try.func10 rfl (by kernel_rfl) rfl) (sto_sp v2 B h3 (hB.mono hle3) fB) rfl rfl rfl ?_ ?_ ?_; (· (exact to_)); (· intro _ _ hle; (exact to_)); intro x px hle)
  obtain ⟨h4, v4, Y⟩ := x
  obtain ⟨hY, eY⟩ := px
  dsimp only at hY eY
  have hle4 : Le h3 h4 := hle
  clear hle
  have fY := fits_eq eY fB
  have MG := smergeF_sp v3 v4 X Y h4 (hX.mono hle4) hY fX fY
  rw [eX, eY] at MG
  repeat' (first | refine tw_ ?_ | (refine ta_ ?_; intro _) | ((fail_if_success (refine ybi rfl ?_)); refine ybj rfl ?_ ?_ <;> (intro ht; rw [ht]; first | replace ht := of_decide_eq_true ht | replace ht := of_decide_eq_false ht | skip)) | (refine ych ?_; first | (refine ybw rfl ?_ ?_ <;> intro ht) | (refine ybx rfl ?_ ?_ <;> intro ht)))
  (refine yco (ycp Try.func26 rfl (by kernel_rfl) rfl) (MG) rfl rfl rfl ?_ ?_ ?_; (· (exact to_)); (· intro _ _ hle; (exact to_)); intro x px hle)
  obtain ⟨h5, v5, M⟩ := x
  obtain ⟨hM, eM⟩ := px
  dsimp only at hM eM
  have hle5 : Le h4 h5 := hle
  clear hle
  have fM := fits_merged eM
  have A5 := hA.mono (hle2.trans (hle3.trans (hle4.trans hle5)))
  have B5 := hB.mono (hle3.trans (hle4.trans hle5))
  have X5 := hX.mono (hle4.trans hle5)
  have Y5 := hY.mono hle5
  have MR := rmerge_sp v1 v2 A B h5 A5 B5 fA fB
  obtain ⟨⟨WM, er⟩, hW⟩ : ∃ p, p = mergeF (A.map Sb.a) (B.map Sb.a) := ⟨_, rfl⟩
  rw [← hW] at MR eM
  rw [← hW]
  repeat' (first | refine tw_ ?_ | (refine ta_ ?_; intro _) | ((fail_if_success (refine ybi rfl ?_)); refine ybj rfl ?_ ?_ <;> (intro ht; rw [ht]; first | replace ht := of_decide_eq_true ht | replace ht := of_decide_eq_false ht | skip)) | (refine ych ?_; first | (refine ybw rfl ?_ ?_ <;> intro ht) | (refine ybx rfl ?_ ?_ <;> intro ht)))
  (refine yco (ycp Try.func27 rfl (by kernel_rfl) rfl) (MR) rfl rfl rfl ?_ ?_ ?_; (· (exact to_)); (· intro _ _ hle; (exact to_)); intro x px hle)
  obtain ⟨h6, v6, M'⟩ := x
  obtain ⟨hM', eM'⟩ := px
  dsimp only at hM' eM' eM
  have hle6 : Le h5 h6 := hle
  clear hle
  have fM' : Fits M' := fits_eq (T := M) (by rw [eM', eM]) fM
  repeat' (first | (refine ycf ?_; apply ybk; (· first | (exact tk_)); (· rfl); (· rfl)) | refine t1_ ?_ | (refine ta_ ?_; intro _) | ((fail_if_success (refine ybi rfl ?_)); refine ybj rfl ?_ ?_ <;> (intro ht; rw [ht]; first | replace ht := of_decide_eq_true ht | replace ht := of_decide_eq_false ht | skip)) | (refine ych ?_; first | (refine ybw rfl ?_ ?_ <;> intro ht) | (refine ybx rfl ?_ ?_ <;> intro ht)))
  (refine ycn (ycp Try.func11 rfl (by kernel_rfl) rfl) (sets_sp h6) rfl rfl rfl ?_ ?_; (· (exact to_)))
  repeat' (first | (refine ycf ?_; apply ybk; (· first | (exact tk_)); (· rfl); (· rfl)) | refine t1_ ?_ | (refine ta_ ?_; intro _) | ((fail_if_success (refine ybi rfl ?_)); refine ybj rfl ?_ ?_ <;> (intro ht; rw [ht]; first | replace ht := of_decide_eq_true ht | replace ht := of_decide_eq_false ht | skip)) | (refine ych ?_; first | (refine ybw rfl ?_ ?_ <;> intro ht) | (refine ybx rfl ?_ ?_ <;> intro ht)))
  (refine yco (ycp Try.func28 rfl (by kernel_rfl) rfl) (sfrom_sp v5 M h6 (hM.mono hle6) fM) rfl rfl rfl ?_ ?_ ?_; (· (exact to_)); (· intro _ _ hle; (exact to_)); intro x px hle)
  obtain ⟨h7, v7, N⟩ := x
  obtain ⟨hN, eN⟩ := px
  dsimp only at hN eN
  have hle7 : Le h6 h7 := hle
  clear hle
  have fN := fits_eq eN fM
  have SM := same_of hN (hM'.mono hle7) fN fM'
  rw [decide_eq_true (show N.map Sb.a = M'.map Sb.a by rw [eN, eM, eM'])] at SM
  repeat' (first | (refine ycf ?_; apply ybk; (· first | (exact tk_)); (· rfl); (· rfl)) | refine t1_ ?_ | (refine ta_ ?_; intro _) | ((fail_if_success (refine ybi rfl ?_)); refine ybj rfl ?_ ?_ <;> (intro ht; rw [ht]; first | replace ht := of_decide_eq_true ht | replace ht := of_decide_eq_false ht | skip)) | (refine ych ?_; first | (refine ybw rfl ?_ ?_ <;> intro ht) | (refine ybx rfl ?_ ?_ <;> intro ht)))
  (refine ycn (ycp Try.func23 rfl (by kernel_rfl) rfl) (SM) rfl rfl rfl ?_ ?_; (· (exact to_)))
  repeat' (first | (refine ycf ?_; apply ybk; (· first | (exact tk_)); (· rfl); (· rfl)) | refine t1_ ?_ | (refine ta_ ?_; intro _) | ((fail_if_success (refine ybi rfl ?_)); refine ybj rfl ?_ ?_ <;> (intro ht; rw [ht]; first | replace ht := of_decide_eq_true ht | replace ht := of_decide_eq_false ht | skip)) | (refine ych ?_; first | (refine ybw rfl ?_ ?_ <;> intro ht) | (refine ybx rfl ?_ ?_ <;> intro ht)))
  have l57 := hle6.trans hle7
  have SX := sme_of (X5.mono l57) (Y5.mono l57) fX fY
  rw [eX, eY] at SX
  have SA := same_of (A5.mono l57) (B5.mono l57) fA fB
  generalize decide (A.map Sb.a = B.map Sb.a) = bb at SX SA
  (refine ycn (ycp Try.func25 rfl (by kernel_rfl) rfl) (SX) rfl rfl rfl ?_ ?_; (· (exact to_)))
  repeat' (first | (refine ycf ?_; apply ybk; (· first | (first | exact tk_ | (refine qv_neq_bool rfl rfl (by cases bb <;> rfl)))); (· rfl); (· rfl)) | refine t1_ ?_ | (refine ta_ ?_; intro _) | ((fail_if_success (refine ybi rfl ?_)); refine ybj rfl ?_ ?_ <;> (intro ht; rw [ht]; first | replace ht := of_decide_eq_true ht | replace ht := of_decide_eq_false ht | skip)) | (refine ych ?_; first | (refine ybw rfl ?_ ?_ <;> intro ht) | (refine ybx rfl ?_ ?_ <;> intro ht)))
  (refine ycn (ycp Try.func23 rfl (by kernel_rfl) rfl) (SA) rfl rfl rfl ?_ ?_; (· (exact to_)))
  repeat' (first | (refine ycf ?_; apply ybk; (· first | (first | exact tk_ | (refine qv_neq_bool rfl rfl (by cases bb <;> rfl)))); (· rfl); (· rfl)) | refine t1_ ?_ | (refine ta_ ?_; intro _) | ((fail_if_success (refine ybi rfl ?_)); refine ybj rfl ?_ ?_ <;> (intro ht; rw [ht]; first | replace ht := of_decide_eq_true ht | replace ht := of_decide_eq_false ht | skip)) | (refine ych ?_; first | (refine ybw rfl ?_ ?_ <;> intro ht) | (refine ybx rfl ?_ ?_ <;> intro ht)))
  (refine yco (ycp Try.func28 rfl (by kernel_rfl) rfl) (sfrom_sp v3 X h7 (X5.mono l57) fX) rfl rfl rfl ?_ ?_ ?_; (· (exact to_)); (· intro _ _ hle; (exact to_)); intro x px hle)
  obtain ⟨h8, v8, X'⟩ := x
  obtain ⟨hX', eX'⟩ := px
  dsimp only at hX' eX'
  have hle8 : Le h7 h8 := hle
  clear hle
  have fX' := fits_eq eX' fX
  have l58 := l57.trans hle8
  have SX' := same_of hX' (A5.mono l58) fX' fA
  rw [decide_eq_true (show X'.map Sb.a = A.map Sb.a by rw [eX', eX])] at SX'
  repeat' (first | (refine ycf ?_; apply ybk; (· first | (first | exact tk_ | (refine qv_neq_bool rfl rfl (by cases bb <;> rfl)))); (· rfl); (· rfl)) | refine t1_ ?_ | (refine ta_ ?_; intro _) | ((fail_if_success (refine ybi rfl ?_)); refine ybj rfl ?_ ?_ <;> (intro ht; rw [ht]; first | replace ht := of_decide_eq_true ht | replace ht := of_decide_eq_false ht | skip)) | (refine ych ?_; first | (refine ybw rfl ?_ ?_ <;> intro ht) | (refine ybx rfl ?_ ?_ <;> intro ht)))
  (refine ycn (ycp Try.func23 rfl (by kernel_rfl) rfl) (SX') rfl rfl rfl ?_ ?_; (· (exact to_)))
  repeat' (first | (refine ycf ?_; apply ybk; (· first | (first | exact tk_ | (refine qv_neq_bool rfl rfl (by cases bb <;> rfl)))); (· rfl); (· rfl)) | refine t1_ ?_ | (refine ta_ ?_; intro _) | ((fail_if_success (refine ybi rfl ?_)); refine ybj rfl ?_ ?_ <;> (intro ht; rw [ht]; first | replace ht := of_decide_eq_true ht | replace ht := of_decide_eq_false ht | skip)) | (refine ych ?_; first | (refine ybw rfl ?_ ?_ <;> intro ht) | (refine ybx rfl ?_ ?_ <;> intro ht)))
  (refine yco (ycp Try.func28 rfl (by kernel_rfl) rfl) (sfrom_sp v4 Y h8 (Y5.mono l58) fY) rfl rfl rfl ?_ ?_ ?_; (· (exact to_)); (· intro _ _ hle; (exact to_)); intro x px hle)
  obtain ⟨h9, v9, Y'⟩ := x
  obtain ⟨hY', eY'⟩ := px
  dsimp only at hY' eY'
  have hle9 : Le h8 h9 := hle
  clear hle
  have fY' := fits_eq eY' fY
  have l59 := l58.trans hle9
  have SY' := same_of hY' (B5.mono l59) fY' fB
  rw [decide_eq_true (show Y'.map Sb.a = B.map Sb.a by rw [eY', eY])] at SY'
  obtain ⟨_, adB, capB, hvB, _, _⟩ := id hB.1
  subst hvB
  obtain ⟨_, adY, capY, hvY, _, _⟩ := id hY.1
  subst hvY
  repeat' (first | (refine ycf ?_; apply ybk; (· first | (first | exact tk_ | (refine qv_neq_bool rfl rfl (by cases bb <;> rfl)))); (· rfl); (· rfl)) | refine t1_ ?_ | (refine ta_ ?_; intro _) | ((fail_if_success (refine ybi rfl ?_)); refine ybj rfl ?_ ?_ <;> (intro ht; rw [ht]; first | replace ht := of_decide_eq_true ht | replace ht := of_decide_eq_false ht | skip)) | (refine ych ?_; first | (refine ybw rfl ?_ ?_ <;> intro ht) | (refine ybx rfl ?_ ?_ <;> intro ht)))
  (refine ycn (ycp Try.func23 rfl (by kernel_rfl) rfl) (SY') rfl rfl rfl ?_ ?_; (· (exact to_)))
  by_cases h1 : B.length = 1
  · have hY9 := Y5.mono l59
    have lY : Y.length = 1 := by
      have := congrArg List.length eY
      simpa [h1] using this
    obtain ⟨y, hYy⟩ : ∃ y, Y = [y] := List.length_eq_one_iff.1 lY
    have hyv : Sv h9 y := hY9.2 y (by rw [hYy]; exact List.mem_singleton.2 rfl)
    have fy := fY.2 y (by rw [hYy]; exact List.mem_singleton.2 rfl)
    obtain ⟨bs, o, rfl⟩ := hY9.1.ad (by omega) (by omega)
    have hel : ∀ L, Cells h9 L ⟨bs, o + 0 * 20, none⟩ (sbc y) := fun L => by
      have := hY9.1.elem (L := L) sbc_len 0 (by omega)
      simp only [hYy, List.getElem_cons_zero] at this
      exact this
    have hyl := sbc_len y
    have PT := sputF_sp v3 X y h9 (X5.mono l59) hyv fX fy
    have eyB : [y.a] = B.map Sb.a := by rw [← eY, hYy]; rfl
    rw [eX, eyB, ← hW] at PT
    repeat' (first | (refine ycf ?_; apply ybk; (· first | (first | exact tk_ | (apply yad; (· rfl); (· exact hel _); (· exact hyl)))); (· rfl); (· rfl)) | refine t1_ ?_ | (refine ta_ ?_; intro _) | ((fail_if_success (refine ybi rfl ?_)); refine ybj rfl ?_ ?_ <;> (intro ht; rw [ht]; first | replace ht := of_decide_eq_true ht | replace ht := of_decide_eq_false ht | skip)) | (refine ych ?_; first | (refine ybw rfl ?_ ?_ <;> intro ht) | (refine ybx rfl ?_ ?_ <;> intro ht)))
    (refine yco (ycp Try.func15 rfl (by kernel_rfl) rfl) (PT) rfl rfl rfl ?_ ?_ ?_; (· (exact to_)); (· intro _ _ hle; (exact to_)); intro x px hle)
    obtain ⟨h10, v10, P⟩ := x
    obtain ⟨hP, eP⟩ := px
    dsimp only at hP eP
    have hle10 : Le h9 h10 := hle
    clear hle
    have fP : Fits P := fits_eq (T := M) (by rw [eP, eM]) fM
    have SP := sme_of hP (hM.mono (l59.trans hle10)) fP fM
    rw [decide_eq_true (show P.map Sb.a = M.map Sb.a by rw [eP, eM])] at SP
    repeat' (first | (refine ycf ?_; apply ybk; (· first | (first | exact tk_ | (apply yad; (· rfl); (· exact hel _); (· exact hyl)))); (· rfl); (· rfl)) | refine t1_ ?_ | (refine ta_ ?_; intro _) | ((fail_if_success (refine ybi rfl ?_)); refine ybj rfl ?_ ?_ <;> (intro ht; rw [ht]; first | replace ht := of_decide_eq_true ht | replace ht := of_decide_eq_false ht | skip)) | (refine ych ?_; first | (refine ybw rfl ?_ ?_ <;> intro ht) | (refine ybx rfl ?_ ?_ <;> intro ht)))
    (refine ycn (ycp Try.func25 rfl (by kernel_rfl) rfl) (SP) rfl rfl rfl ?_ ?_; (· (exact to_)))
    repeat' (first | (refine ycf ?_; apply ybk; (· first | (first | exact tk_ | (apply yad; (· rfl); (· exact hel _); (· exact hyl)))); (· rfl); (· rfl)) | refine t1_ ?_ | (refine ta_ ?_; intro _) | ((fail_if_success (refine ybi rfl ?_)); refine ybj rfl ?_ ?_ <;> (intro ht; rw [ht]; first | replace ht := of_decide_eq_true ht | replace ht := of_decide_eq_false ht | skip)) | (refine ych ?_; first | (refine ybw rfl ?_ ?_ <;> intro ht) | (refine ybx rfl ?_ ?_ <;> intro ht)))
    exact nx_ret1 rfl (rv_tmp rfl) (fun w' s' => ⟨h, rfl, s'.nil.base⟩)
  · --
    repeat' (first | (refine ycf ?_; apply ybk; (· first | (exact tk_)); (· rfl); (· rfl)) | refine t1_ ?_ | (refine ta_ ?_; intro _) | ((fail_if_success (refine ybi rfl ?_)); refine ybj rfl ?_ ?_ <;> (intro ht; rw [ht]; first | replace ht := of_decide_eq_true ht | replace ht := of_decide_eq_false ht | skip)) | (refine ych ?_; first | (refine ybw rfl ?_ ?_ <;> intro ht) | (refine ybx rfl ?_ ?_ <;> intro ht)))
    exact nx_ret1 rfl (rv_tmp rfl) (fun w' s' => ⟨h, rfl, s'.nil.base⟩)
end Go.Proofs.Ytkkjppeaaicgaaa
end

section
namespace Go.Ck
open Go Go.ChangeShapes
set_option linter.unusedVariables false
section
variable {H : Type} {enc : TypeId × Value → H} {P : Program} {w : World} {base : Nat} {spare : Nat → Bool} {held : Bool}

theorem trod_fields {t : TypeId} {fs : Array Field} {fuel : Nat} {cs : List Value} {x : DataW H × List MemPlace} (ht : P.underlying t = some (.struct fs)) (h : DataW.trod enc P w base spare held fuel t cs = some x) :
    cs.length = P.cellsOf t ∧ ∀ f ∈ fs.toList, ∃ m y, DataW.trod enc P w base spare held m f.type ((cs.drop f.offset).take (P.cellsOf f.type)) = some y := by
  cases fuel with
  | zero => simp [DataW.trod] at h
  | succ n =>
    unfold DataW.trod at h
    simp only [ht] at h
    split at h
    · rename_i hl
      obtain ⟨xs, hxs, _⟩ := Option.map_eq_some_iff.1 h
      refine ⟨hl, fun f hf => ?_⟩
      obtain ⟨i, hi, rfl⟩ := List.getElem_of_mem hf
      have := mapM_some_get hxs i _ (List.getElem?_eq_getElem hi)
      have hlen := mapM_some_length hxs
      rw [List.getElem?_eq_getElem (by omega)] at this
      exact ⟨n, _, this⟩
    · cases h

theorem trod_elems {t e : TypeId} {k fuel : Nat} {cs : List Value} {x : DataW H × List MemPlace} (ht : P.underlying t = some (.array k e)) (h : DataW.trod enc P w base spare held fuel t cs = some x) :
    cs.length = P.cellsOf t ∧ ∀ i, i < k → ∃ m y, DataW.trod enc P w base spare held m e ((cs.drop (i * P.cellsOf e)).take (P.cellsOf e)) = some y := by
  cases fuel with
  | zero => simp [DataW.trod] at h
  | succ n =>
    unfold DataW.trod at h
    simp only [ht] at h
    split at h
    · rename_i hl
      obtain ⟨xs, hxs, _⟩ := Option.map_eq_some_iff.1 h
      refine ⟨hl, fun i hi => ?_⟩
      have := mapM_some_get hxs i i (by simp [hi])
      have hlen := mapM_some_length hxs
      rw [List.getElem?_eq_getElem (by simp at hlen; omega)] at this
      exact ⟨n, _, this⟩
    · cases h
end
end Go.Ck
end

section
namespace Go.Ck
open Go Go.ChangeShapes
set_option linter.unusedVariables false
set_option maxHeartbeats 1000000
section
variable {H : Type} {enc : TypeId × Value → H} {P : Program} {w : World} {base : Nat} {spare : Nat → Bool} {held : Bool}

theorem cells_get' {a : Addr} {n : Nat} {cs : List Value} (h : w.cells? base a n = some cs) {j : Nat} {u : Value} (hj : cs[j]? = some u) : w.cell? (a.add j) = some u := by
  unfold World.cells? at h
  split at h
  · have hl := mapM_some_length h
    have hjl : j < cs.length := (List.getElem?_eq_some_iff.1 hj).1
    have := mapM_some_get h j j (by rw [List.length_range] at hl; exact List.getElem?_range (by omega))
    rw [this, hj]
  · cases h

theorem trod_slice_of {T e k : Nat} {α : Type} {en : α → List Value} {R : α → Prop} (tu : P.underlying T = some (.slice e)) (hc : P.cellsOf e = k) (hk0 : 0 < k) (hlen : ∀ x, (en x).length = k)
    (hel : ∀ (m : Nat) (cs : List Value) (y : DataW H × List MemPlace), DataW.trod enc P w base spare held m e cs = some y → ∃ x : α, R x ∧ cs = en x)
    {m : Nat} {cs : List Value} {y : DataW H × List MemPlace} (h : DataW.trod enc P w base spare held m T cs = some y) :
    ∃ (v : Value) (l : List α), cs = [v] ∧ Sc (fun b => w.heap[b]?) k v l.length (l.flatMap en) ∧ l.length ≤ maxLen ∧ ∀ x ∈ l, R x := by
  subst hc
  rcases Go.Deep.open_slice tu h with ⟨rfl, _⟩ | ⟨a, len, cap, q, n, D, Pl, rfl, _, h1, h2, hk, _, hall⟩
  · exact ⟨_, [], rfl, Sc.nil _ _ none 0, Nat.zero_le _, fun x hx => by cases hx⟩
  · have hkl : len ≤ q := by rw [hk]; split <;> omega
    have hex : ∀ i, i < len → ∃ d : α, R d ∧ w.cells? base (a.add (i * P.cellsOf e)) (P.cellsOf e) = some (en d) := fun i hi => by
      obtain ⟨cs', e1, e2⟩ := hall i (by omega)
      obtain ⟨d, hr, rfl⟩ := hel _ _ _ e2
      exact ⟨d, hr, e1⟩
    generalize P.cellsOf e = k at hex hk0 hlen ⊢
    by_cases h0 : len = 0
    · subst h0
      exact ⟨_, [], rfl, ⟨by simp, some a, cap, rfl, Nat.zero_le _, .inl rfl⟩, Nat.zero_le _, fun x hx => by cases hx⟩
    obtain ⟨d0, _⟩ := hex 0 (by omega)
    obtain ⟨f, hf'⟩ : ∃ f : Nat → α, ∀ i, i < len → R (f i) ∧ w.cells? base (a.add (i * k)) k = some (en (f i)) := by
      classical
      exact ⟨fun i => if hi : i < len then (hex i hi).choose else d0, fun i hi => by
        dsimp only
        rw [dif_pos hi]
        exact (hex i hi).choose_spec⟩
    have hf := fun i hi => (hf' i hi).2
    refine ⟨_, (List.range len).map f, rfl, ⟨?_, some a, cap, by simp, by simpa using h1, ?_⟩, by simp; omega, fun x hx => ?_⟩
    · rw [flat_len hlen]
    · refine .inr ?_
      have hc00 : 0 < (en (f 0)).length := by rw [hlen]; exact hk0
      have hc0 := cells_get' (hf 0 (by omega)) (j := 0) (List.getElem?_eq_getElem hc00)
      obtain ⟨b, o, sp⟩ := a
      have hadd : ∀ i j, ((⟨b, o, sp⟩ : Addr).add i).add j = (⟨b, o, sp⟩ : Addr).add (i + j) := fun i j => Go.Deep.add_add _ i j
      rw [hadd] at hc0
      have hblk : ((⟨b, o, sp⟩ : Addr).add (0 * k + 0)) = ⟨b, o, sp⟩ := by simp [Addr.add]
      rw [hblk] at hc0
      unfold World.cell? at hc0
      split at hc0
      · rename_i c e fz hb
        split at hc0
        · cases hc0
        · rename_i hsp
          have hsp' : sp = none := by simpa using hsp
          subst hsp'
          refine ⟨b, o, c, e, fz, rfl, hb, fun j u hj => ?_⟩
          have hjl : j < len * k := by
            have := (List.getElem?_eq_some_iff.1 hj).1
            rw [flat_len hlen] at this
            simpa using this
          have hjk : j / k < len := Nat.div_lt_of_lt_mul (by rw [Nat.mul_comm]; exact hjl)
          have hd : j / k < ((List.range len).map f).length := by simpa using hjk
          have e1 : (((List.range len).map f).flatMap en)[j]? = (en (f (j / k)))[j % k]? := by
            have := flat_at hlen ((List.range len).map f) (j / k) hd
            have e3 : ((List.range len).map f)[j / k] = f (j / k) := by simp
            rw [e3] at this
            rw [← this, List.getElem?_take_of_lt (Nat.mod_lt _ hk0), List.getElem?_drop]
            congr 1
            rw [Nat.mul_comm]
            exact (Nat.div_add_mod j k).symm
          rw [e1] at hj
          have := cells_get' (hf (j / k) hjk) hj
          rw [hadd, Addr.add_off] at this
          unfold World.cell? at this
          simp only [hb] at this
          simp only [Option.isSome_none, Bool.false_eq_true, if_false] at this
          have ej : j / k * k + j % k = j := by rw [Nat.mul_comm]; exact Nat.div_add_mod j k
          rw [ej] at this
          exact this
      · cases hc0
    · obtain ⟨i, hi, rfl⟩ := List.mem_map.1 hx
      exact (hf' i (by simpa using hi)).1
end
end Go.Ck
end

section
namespace Go.Proofs.Ytkkjppeaaicgaaa
open Go Go.Ck Go.ChangeShapes
set_option maxRecDepth 100000
set_option maxHeartbeats 1000000
set_option linter.unusedVariables false

theorem cellsDot : Try.prog.cellsOf 39 = 2 := by kernel_rfl
theorem cellsInt : Try.prog.cellsOf 3 = 1 := by kernel_rfl
theorem cellsArr : Try.prog.cellsOf 30 = 16 := by kernel_rfl
theorem cellsSl : Try.prog.cellsOf 31 = 1 := by kernel_rfl
theorem cellsCx : Try.prog.cellsOf 69 = 17 := by kernel_rfl
section
variable {H : Type} {enc : TypeId × Value → H} {w : World} {base : Nat} {spare : Nat → Bool} {held : Bool}

theorem trod_dot {m : Nat} {cs : List Value} {y : DataW H × List MemPlace} (h : DataW.trod enc Try.prog w base spare held m 39 cs = some y) : ∃ d : Dt, cs = dcs d := by
  obtain ⟨hl, hf⟩ := trod_fields Try.underlying39 h
  rw [cellsDot] at hl
  match cs, hl with
  | [a, b], _ =>
    obtain ⟨m1, y1, h1⟩ := hf _ (List.mem_cons_self ..)
    obtain ⟨m2, y2, h2⟩ := hf _ (List.mem_cons_of_mem _ (List.mem_cons_self ..))
    rw [cellsInt] at h1 h2
    obtain ⟨n1, e1, _⟩ := DataW.trod_int Try.underlying3 h1
    obtain ⟨n2, e2, _⟩ := DataW.trod_int Try.underlying3 h2
    simp at e1 e2
    exact ⟨(n1, n2), by rw [e1, e2]; rfl⟩

theorem trod_up {m : Nat} {cs : List Value} {y : DataW H × List MemPlace} (h : DataW.trod enc Try.prog w base spare held m 30 cs = some y) : ∃ u : List Int, u.length = 16 ∧ cs = up u := by
  obtain ⟨hl, hf⟩ := trod_elems Try.underlying30 h
  rw [cellsArr] at hl
  have hc : ∀ i (hi : i < cs.length), ∃ n, cs[i] = .int .i64 n := fun i hi => by
    obtain ⟨m1, y1, h1⟩ := hf i (by omega)
    rw [cellsInt, Nat.mul_one] at h1
    obtain ⟨n1, e1, _⟩ := DataW.trod_int Try.underlying3 h1
    have e2 : (List.drop i cs).take 1 = [cs[i]] := by
      rw [List.drop_eq_getElem_cons hi]; rfl
    rw [e2] at e1
    exact ⟨n1, by simpa using e1⟩
  clear hf h
  have key : ∀ cs : List Value, (∀ i (hi : i < cs.length), ∃ n, cs[i] = .int .i64 n) → ∃ u : List Int, u.length = cs.length ∧ cs = up u := by
    intro cs
    induction cs with
    | nil => intro _; exact ⟨[], rfl, rfl⟩
    | cons c cs ih =>
      intro hc
      obtain ⟨n, hn⟩ := hc 0 (by simp)
      obtain ⟨u, h1, h2⟩ := ih fun i hi => by
        have := hc (i + 1) (by simpa using hi)
        simpa using this
      simp only [List.getElem_cons_zero] at hn
      exact ⟨n :: u, by simp [h1], by rw [hn, h2]; rfl⟩
  obtain ⟨u, h1, h2⟩ := key cs hc
  exact ⟨u, by omega, h2⟩

theorem cells_get {a : Addr} {n : Nat} {cs : List Value} (h : w.cells? base a n = some cs) {j : Nat} {u : Value} (hj : cs[j]? = some u) : w.cell? (a.add j) = some u := by
  unfold World.cells? at h
  split at h
  · have hl := mapM_some_length h
    have hjl : j < cs.length := (List.getElem?_eq_some_iff.1 hj).1
    have := mapM_some_get h j j (by rw [List.length_range] at hl; exact List.getElem?_range (by omega))
    rw [this, hj]
  · cases h

theorem trod_ds {m : Nat} {cs : List Value} {y : DataW H × List MemPlace} (h : DataW.trod enc Try.prog w base spare held m 31 cs = some y) : ∃ (v : Value) (l : List Dt), cs = [v] ∧ Ds (fun b => w.heap[b]?) v l ∧ l.length ≤ maxLen := by
  rcases Go.Deep.open_slice Try.underlying31 h with ⟨rfl, _⟩ | ⟨a, len, cap, k, n, D, Pl, rfl, _, h1, h2, hk, _, hall⟩
  · exact ⟨_, [], rfl, Sc.nil _ 2 none 0, Nat.zero_le _⟩
  · have hkl : len ≤ k := by rw [hk]; split <;> omega
    have hex : ∀ i, i < len → ∃ d : Dt, w.cells? base (a.add (i * 2)) 2 = some (dcs d) := fun i hi => by
      obtain ⟨cs', e1, e2⟩ := hall i (by omega)
      rw [cellsDot] at e1
      obtain ⟨d, rfl⟩ := trod_dot e2
      exact ⟨d, e1⟩
    obtain ⟨f, hf⟩ := Go.Deep.choose_lt hex
    refine ⟨_, (List.range len).map f, rfl, ⟨?_, some a, cap, by simp, by simpa using h1, ?_⟩, by simp; omega⟩
    · rw [flat_len dcs_len]
    · by_cases h0 : len = 0
      · subst h0; exact .inl rfl
      · refine .inr ?_
        have hc0 := cells_get (hf 0 (by omega)) (j := 0) (u := .int .i64 (f 0).1) rfl
        obtain ⟨b, o, sp⟩ := a
        have hadd : ∀ i j, ((⟨b, o, sp⟩ : Addr).add i).add j = (⟨b, o, sp⟩ : Addr).add (i + j) := fun i j => Go.Deep.add_add _ i j
        rw [hadd] at hc0
        have hblk : ((⟨b, o, sp⟩ : Addr).add (0 * 2 + 0)) = ⟨b, o, sp⟩ := by simp [Addr.add]
        rw [hblk] at hc0
        unfold World.cell? at hc0
        split at hc0
        · rename_i c e fz hb
          split at hc0
          · cases hc0
          · rename_i hsp
            have hsp' : sp = none := by simpa using hsp
            subst hsp'
            refine ⟨b, o, c, e, fz, rfl, hb, fun j u hj => ?_⟩
            have hjl : j < len * 2 := by
              have := (List.getElem?_eq_some_iff.1 hj).1
              rw [flat_len dcs_len] at this
              simpa using this
            have hd : j / 2 < ((List.range len).map f).length := by simp; omega
            have e1 : (((List.range len).map f).flatMap dcs)[j]? = (dcs (f (j / 2)))[j % 2]? := by
              have := flat_at dcs_len ((List.range len).map f) (j / 2) hd
              have e3 : ((List.range len).map f)[j / 2] = f (j / 2) := by simp
              rw [e3] at this
              rw [← this, List.getElem?_take_of_lt (by omega), List.getElem?_drop]
              congr 1; omega
            rw [e1] at hj
            have := cells_get (hf (j / 2) (by omega)) hj
            rw [hadd, Addr.add_off] at this
            unfold World.cell? at this
            simp only [hb] at this
            simp only [Option.isSome_none, Bool.false_eq_true, if_false] at this
            have ej : j / 2 * 2 + j % 2 = j := by omega
            rw [ej] at this
            exact this
        · cases hc0

theorem trod_cx {v : Value} {d : DataW H} {ps : List MemPlace} (hv : ∃ cs, v = .agg cs) (h : DataW.Trod enc Try.prog w base spare held 69 v d ps) : ∃ (u : List Int) (l : List Dt), Cx (fun b => w.heap[b]?) v u l ∧ l.length ≤ maxLen := by
  obtain ⟨cs, rfl⟩ := hv
  obtain ⟨fuel, h⟩ := h
  obtain ⟨hl, hf⟩ := trod_fields Try.underlying69 h
  rw [cellsCx] at hl
  obtain ⟨m1, y1, h1⟩ := hf _ (List.mem_cons_self ..)
  obtain ⟨m2, y2, h2⟩ := hf _ (List.mem_cons_of_mem _ (List.mem_cons_self ..))
  rw [cellsArr] at h1
  rw [cellsSl] at h2
  obtain ⟨u, hu, e1⟩ := trod_up h1
  obtain ⟨mv, l, e2, hs, hlm⟩ := trod_ds h2
  refine ⟨u, l, ⟨hu, mv, ?_, hs⟩, hlm⟩
  have hc : (Value.agg cs).cells.toList = cxc u mv := by
    have e3 : (Value.agg cs).cells.toList = ((Value.agg cs).cells.toList.drop 0).take 16 ++ ((Value.agg cs).cells.toList.drop 16).take 1 := by
      rw [List.drop_zero]
      have e4 : ((Value.agg cs).cells.toList.drop 16).take 1 = (Value.agg cs).cells.toList.drop 16 := List.take_of_length_le (by simp at hl ⊢; omega)
      rw [e4, List.take_append_drop]
    rw [e3, e1, e2]
    rfl
  have hc2 : cs.toList = cxc u mv := hc
  unfold cxv
  rw [← hc2]
end
end Go.Proofs.Ytkkjppeaaicgaaa
end

section
namespace Go.Proofs.Ytkkjppeaaicgaaa
open Go Go.Ck Go.ChangeShapes
set_option maxRecDepth 100000
set_option maxHeartbeats 1000000
set_option linter.unusedVariables false

theorem cellsByte : Try.prog.cellsOf 5 = 1 := by kernel_rfl
theorem bcs_flat (l : List Int) : l.flatMap (fun n => [Value.int .u8 n]) = bcs l := by
  induction l with
  | nil => rfl
  | cons x l ih => rw [List.flatMap_cons, ih]; rfl
theorem trod_bs {H : Type} {enc : TypeId × Value → H} {w : World} {base : Nat} {spare : Nat → Bool} {held : Bool} {m : Nat} {cs : List Value} {y : DataW H × List MemPlace} (h : DataW.trod enc Try.prog w base spare held m 23 cs = some y) :
    ∃ (v : Value) (l : List Int), cs = [v] ∧ Bs8 (fun b => w.heap[b]?) v l ∧ Bytes l ∧ l.length ≤ maxLen := by
  obtain ⟨v, l, h1, h2, h3, h4⟩ := trod_slice_of (en := fun n : Int => [Value.int .u8 n]) (R := fun n => 0 ≤ n ∧ n < 256) Try.underlying23 cellsByte (by decide) (fun _ => rfl) (fun m cs y hy => by
    obtain ⟨n, e1, _, e3⟩ := DataW.trod_int Try.underlying5 hy
    obtain ⟨q1, q2⟩ := (Lit.wf_int_iff .u8 n).1 e3
    have m1 : IntKind.u8.min = 0 := by decide
    have m2 : IntKind.u8.max = 255 := by decide
    exact ⟨n, ⟨by omega, by omega⟩, e1⟩) h
  rw [bcs_flat] at h2
  exact ⟨v, l, h1, h2, h4, h3⟩
end Go.Proofs.Ytkkjppeaaicgaaa
end

section
namespace Go.Proofs.Ytkkjppeaaicgaaa
open Go Go.Ck Go.ChangeShapes
set_option maxRecDepth 100000
set_option maxHeartbeats 1000000
set_option linter.unusedVariables false

theorem cellsStr : Try.prog.cellsOf 9 = 1 := by kernel_rfl
theorem cellsRs : Try.prog.cellsOf 71 = 20 := by kernel_rfl
section
variable {H : Type} {enc : TypeId × Value → H} {w : World} {base : Nat} {spare : Nat → Bool} {held : Bool}
theorem trod_cxc {m : Nat} {cs : List Value} {y : DataW H × List MemPlace} (h : DataW.trod enc Try.prog w base spare held m 69 cs = some y) : ∃ (u : List Int) (l : List Dt) (mv : Value), u.length = 16 ∧ cs = cxc u mv ∧ Ds (fun b => w.heap[b]?) mv l ∧ l.length ≤ maxLen := by
  obtain ⟨hl, hf⟩ := trod_fields Try.underlying69 h
  rw [cellsCx] at hl
  obtain ⟨m1, y1, h1⟩ := hf _ (List.mem_cons_self ..)
  obtain ⟨m2, y2, h2⟩ := hf _ (List.mem_cons_of_mem _ (List.mem_cons_self ..))
  rw [cellsArr] at h1
  rw [cellsSl] at h2
  obtain ⟨u, hu, e1⟩ := trod_up h1
  obtain ⟨mv, l, e2, hs, hlm⟩ := trod_ds h2
  refine ⟨u, l, mv, hu, ?_, hs, hlm⟩
  have e3 : cs = (cs.drop 0).take 16 ++ (cs.drop 16).take 1 := by
    rw [List.drop_zero]
    have e4 : (cs.drop 16).take 1 = cs.drop 16 := List.take_of_length_le (by simp; omega)
    rw [e4, List.take_append_drop]
  rw [e3, e1, e2]
  rfl
theorem bytes_of_string (s : ByteArray) : ∃ b : List Int, Bytes b ∧ bstr b = s ∧ b.length = s.size := by
  refine ⟨s.data.toList.map fun x => (x.toNat : Int), fun b hb => ?_, ?_, by simp⟩
  · obtain ⟨x, _, rfl⟩ := List.mem_map.1 hb
    have := x.toNat_lt
    constructor <;> omega
  · unfold bstr
    rw [List.map_map]
    have : ((fun n : Int => UInt8.ofNat n.toNat) ∘ fun x : UInt8 => (x.toNat : Int)) = id := by
      funext x
      simp
    rw [this, List.map_id]
theorem trod_rs1 {m : Nat} {cs : List Value} {y : DataW H × List MemPlace} (h : DataW.trod enc Try.prog w base spare held m 71 cs = some y) : ∃ x : Sb, (Rv (fun b => w.heap[b]?) x ∧ x.l.length ≤ maxLen ∧ x.b.length ≤ maxLen) ∧ cs = sbc x := by
  obtain ⟨hl, hf⟩ := trod_fields Try.underlying71 h
  rw [cellsRs] at hl
  obtain ⟨m1, y1, h1⟩ := hf _ (List.mem_cons_self ..)
  obtain ⟨m2, y2, h2⟩ := hf _ (List.mem_cons_of_mem _ (List.mem_cons_self ..))
  obtain ⟨m3, y3, h3⟩ := hf _ (List.mem_cons_of_mem _ (List.mem_cons_of_mem _ (List.mem_cons_self ..)))
  rw [cellsDot] at h1
  rw [cellsCx] at h2
  rw [cellsStr] at h3
  obtain ⟨d, e1⟩ := trod_dot h1
  obtain ⟨u, l, mv, hu, e2, hds, hll⟩ := trod_cxc h2
  obtain ⟨s, e3, _, hs⟩ := DataW.trod_string Try.underlying9 h3
  obtain ⟨b, hb, hbs, hbl⟩ := bytes_of_string s
  refine ⟨⟨d, u, hu, l, mv, b, .string s⟩, ⟨⟨hds, by rw [hbs], hb⟩, hll, by show b.length ≤ maxLen; rw [hbl]; exact hs⟩, ?_⟩
  have q : cs = (cs.drop 0).take 2 ++ ((cs.drop 2).take 17 ++ (cs.drop 19).take 1) := by
    rw [List.drop_zero]
    have e4 : (cs.drop 19).take 1 = cs.drop 19 := List.take_of_length_le (by simp; omega)
    have e5 : (cs.drop 2).take 17 ++ cs.drop 19 = cs.drop 2 := by
      have : cs.drop 19 = (cs.drop 2).drop 17 := by rw [List.drop_drop]
      rw [this, List.take_append_drop]
    rw [e4, e5, List.take_append_drop]
  rw [q]
  show _ = dcs d ++ (cxc u mv ++ [.string s])
  rw [← e3, ← e2, ← e1]
theorem trod_rs {m : Nat} {cs : List Value} {y : DataW H × List MemPlace} (h : DataW.trod enc Try.prog w base spare held m 22 cs = some y) :
    ∃ (v : Value) (l : List Sb), cs = [v] ∧ Rs (fun b => w.heap[b]?) v l ∧ l.length ≤ maxLen ∧ ∀ x ∈ l, x.l.length ≤ maxLen ∧ x.b.length ≤ maxLen := by
  obtain ⟨v, l, h1, h2, h3, h4⟩ := trod_slice_of (en := sbc) (R := fun x => Rv (fun b => w.heap[b]?) x ∧ x.l.length ≤ maxLen ∧ x.b.length ≤ maxLen) Try.underlying22 cellsRs (by decide) sbc_len (fun m cs y hy => trod_rs1 hy) h
  exact ⟨v, l, h1, ⟨h2, fun x hx => (h4 x hx).1⟩, h3, fun x hx => (h4 x hx).2⟩
end
end Go.Proofs.Ytkkjppeaaicgaaa
end

section
namespace Go.Proofs.Ytkkjppeaaicgaaa.siblingMerges
open Go Go.Ck Go.ChangeShapes Go.WideShapes Go.ChangeAt Go.RowKit
set_option maxRecDepth 100000
set_option maxHeartbeats 1000000
set_option linter.unusedVariables false

theorem laidOut : laidOutB Try.prog = true := by kernel_rfl
theorem own : ownKnob Try.prog.godebug = none := by kernel_rfl

theorem contract (H : Type) (enc : TypeId × Value → H) (W : World) (base : Nat) (args : Array Value) (ds gs : List (DataW H)) (before : List MemPlace)
    (hval : ∀ (j : Nat) t v, Try.f6.params[j]? = some t → args[j]? = some v → Value.okWide Try.prog W .any base t v)
    (hW : DataW.Whole enc Try.prog Try.f6.params.toList Rows.siblingMergesSpec.vars false W args.toList ds gs before) :
    Calls Try.prog 6 args W fun e W' => ∃ v, e = .returned v ∧ Rows.siblingMergesSpec.post enc Try.prog Try.f6 false true false false W args v W' := by
  have hW' := hW
  obtain ⟨p, q, hA0, hV, rfl, hfz, hnd⟩ := hW
  have hA : DataW.TrodAll enc Try.prog W 0 (fun _ => true) true Try.f6.params.toList args.toList ds p := hA0
  rw [Try.params6] at hA hval
  obtain ⟨v0, vs0, d0, ds0, p0, q0, hargs0, rfl, rfl, h0, r0⟩ := trodAll_cons hA
  obtain ⟨v1, vs1, d1, ds1, p1, q1, hargs1, rfl, rfl, h1, r1⟩ := trodAll_cons r0
  obtain ⟨rfl, rfl, rfl⟩ := trodAll_nil r1
  obtain rfl : args = #[v0, v1] := by cases args; simp_all
  obtain ⟨rfl, rfl⟩ := trodVars_none hV
  obtain ⟨a0, len0, cap0, rfl⟩ := okWide_slice Try.underlying22 (hval 0 22 v0 rfl rfl)
  obtain ⟨fu0, g0⟩ := id h0
  obtain ⟨sv0, l0, hsv0, hd0, hl0, hll0⟩ := trod_rs g0
  obtain rfl : Value.slice a0 len0 cap0 = sv0 := by
    have e : (Value.slice a0 len0 cap0).cells.toList = [Value.slice a0 len0 cap0] := rfl
    rw [e] at hsv0
    exact (List.cons.inj hsv0).1
  have hl0 : l0.length ≤ 9223372036854775807 := by unfold maxLen at hl0; omega
  have hll0 : ∀ x ∈ l0, x.l.length ≤ 9223372036854775807 ∧ x.b.length ≤ 9223372036854775807 := fun x hx => by have := hll0 x hx; unfold maxLen at this; omega
  obtain ⟨a1, len1, cap1, rfl⟩ := okWide_slice Try.underlying22 (hval 1 22 v1 rfl rfl)
  obtain ⟨fu1, g1⟩ := id h1
  obtain ⟨sv1, l1, hsv1, hd1, hl1, hll1⟩ := trod_rs g1
  obtain rfl : Value.slice a1 len1 cap1 = sv1 := by
    have e : (Value.slice a1 len1 cap1).cells.toList = [Value.slice a1 len1 cap1] := rfl
    rw [e] at hsv1
    exact (List.cons.inj hsv1).1
  have hl1 : l1.length ≤ 9223372036854775807 := by unfold maxLen at hl1; omega
  have hll1 : ∀ x ∈ l1, x.l.length ≤ 9223372036854775807 ∧ x.b.length ≤ 9223372036854775807 := fun x hx => by have := hll1 x hx; unfold maxLen at this; omega
  have hst : St ⟨W, fun b => W.heap[b]?, []⟩ (fun b => W.heap[b]?) [] W := St.start (L := []) ⟨fun b o hb => hb, fun r hr => (by cases hr)⟩ (by simp [doms]) (fun b hb => (by simp [doms] at hb))
  refine (SiblingMerges_sp _ _ l0 l1 _ hd0 hd1 hl0 hll0 hl1 hll1 W hst).mono fun e W' ⟨h', he, s'⟩ => ?_
  subst he
  have hb : Below W.heap.size W W' := ⟨s'.os, s'.tape, s'.output, s'.size, fun k hk => s'.keep k hk (by simp)⟩
  simp only [List.append_nil] at hW'
  have hlt0 : ∀ x ∈ p0, x.block < W.heap.size := fun x hx => by simpa using hW'.lt x (by simp [hx])
  have hlt1 : ∀ x ∈ p1, x.block < W.heap.size := fun x hx => by simpa using hW'.lt x (by simp [hx])
  exact ⟨_, rfl, _, _, _, [], p0 ++ p1, [], hW', trodAll_cons_mk (shut_bool Try.underlying4 _) trodAll_mk0,
    by
      have h := (trodAll_cons_mk (Below.trod laidOut (by kernel_rfl) (of_decide_eq_true (by kernel_rfl)) h0 hb hlt0) (trodAll_cons_mk (Below.trod laidOut (by kernel_rfl) (of_decide_eq_true (by kernel_rfl)) h1 hb hlt1) trodAll_mk0))
      simp only [List.append_nil] at h
      exact h,
    rfl, hb.frame _, fun h => by cases h⟩

set_option maxRecDepth 100000 in
theorem lifted (os : Os) (started : os.Started) (H : Type) (enc : TypeId × Value → H) :
    ReturnsInHanded {} Try.checked os 6 .any (Rows.siblingMergesSpec.pre6 enc Try.prog Try.f6 Rows.siblingMergesRow.domain false) (Rows.siblingMergesSpec.post enc Try.prog Try.f6 false true false false) := by
  refine returnsInHanded_of_change (C := Try.checked) own started (by kernel_rfl) Try.func6
    (ChangeSpec.witness6 (enc := enc) (C := Try.checked) false ⟨#[], #[.slice none 0 0, .slice none 0 0], []⟩ 8 (by kernel_rfl) (by kernel_rfl) (by kernel_rfl) (by kernel_rfl)) ?_
  intro W base args ds gs before hval hW _ _
  exact contract H enc W base args ds gs before hval hW

theorem over : Rows.siblingMergesRow.holds Try.pinned (OpenSpec.ofChange Rows.siblingMergesSpec) :=
  OpenClaim.holds_of_wide 6 Try.f6 rfl rfl rfl rfl rfl rfl rfl ⟨rfl, rfl, rfl, rfl, rfl⟩ rfl rfl rfl rfl rfl (by kernel_rfl) Try.func6 (by kernel_rfl)
    (of_decide_eq_true (by kernel_rfl)) (by unfold Func.isWrapper; first | (rw [if_pos (by decide +kernel)]; kernel_rfl) | (rw [if_neg (by decide +kernel)]; exact ⟨rfl, rfl⟩))
    (fun os started H enc _ => lifted os started H enc)

theorem proved : Rows.SiblingMergesSaid :=
  over
end Go.Proofs.Ytkkjppeaaicgaaa.siblingMerges
end
