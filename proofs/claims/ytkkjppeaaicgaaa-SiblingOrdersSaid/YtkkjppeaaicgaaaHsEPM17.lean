/-
  Part 17 of a proof: SbT SbW SbX SoA HsB SbZ.
  Conditions: each theorem states its own.
-/
import Derived.Test.YtkkjppeaaicgaaaHsEPM16
section
namespace Go.Proofs.Ytkkjppeaaicgaaa
open Go Go.Ck
set_option maxRecDepth 100000
set_option maxHeartbeats 4000000
set_option linter.unusedVariables false

theorem ddk_all {l : List Sb} (hd : (l.map Sb.d).Nodup) : ∀ k, k ≤ l.length → ddk l k = l.take k
  | 0, _ => rfl
  | k + 1, hk => by
    obtain ⟨x, hx⟩ : ∃ x, l[k]? = some x := ⟨_, List.getElem?_eq_getElem (by omega)⟩
    have htk : l.take (k + 1) = l.take k ++ [x] := by
      obtain ⟨h, rfl⟩ := List.getElem?_eq_some_iff.1 hx
      exact List.take_succ_eq_append_getElem h
    by_cases h0 : k = 0
    · subst h0
      rw [ddk_one hx, htk]; rfl
    · obtain ⟨y, hy⟩ : ∃ y, l[k - 1]? = some y := ⟨_, List.getElem?_eq_getElem (by omega)⟩
      have hne : x.d ≠ y.d := fun e => by
        have h1 : (l.map Sb.d)[k]? = some x.d := by rw [List.getElem?_map, hx]; rfl
        have h2 : (l.map Sb.d)[k - 1]? = some x.d := by rw [List.getElem?_map, hy, e]; rfl
        obtain ⟨q1, e1⟩ := List.getElem?_eq_some_iff.1 h1
        obtain ⟨q2, e2⟩ := List.getElem?_eq_some_iff.1 h2
        exact List.pairwise_iff_getElem.1 hd (k - 1) k q2 q1 (by omega) (by rw [e1, e2])
      rw [ddk_succ hx hy h0, if_neg hne, ddk_all hd k (by omega), htk]
theorem merge_distinct {a b : List Sb} {M : List Ab} {e : Int} (h : MergeR a b M e) (ca : checkA (a.map Sb.a) = 0) (cb : checkA (b.map Sb.a) = 0) (hd : ((a ++ b).map Sb.d).Nodup) :
    ∃ R, R.Perm ((a ++ b).filter fun x => freeS (a.map Sb.a) (b.map Sb.a) x.a) ∧ SortS R ∧ (if 64 < R.length then e = 5 ∧ M = [] else e = 0 ∧ M = R.map Sb.a) := by
  unfold MergeR at h
  rw [if_neg (by rw [ca]; decide), if_neg (by rw [cb]; decide)] at h
  obtain ⟨R, kR, sR, hR⟩ := h
  have hp := kR.perm
  have hdR : (R.map Sb.d).Nodup := (hp.map Sb.d).nodup_iff.1 hd
  rw [ddk_all hdR _ (Nat.le_refl _), List.take_length] at hR
  exact ⟨_, (hp.symm.filter _), sR.sublist (List.filter_sublist ..), hR⟩
theorem perm_one {α : Type} {l : List α} {x : α} (h : l.Perm [x]) : l = [x] := List.perm_singleton.1 h
theorem sort_two {x y : Sb} {l : List Sb} (h : l.Perm [x, y]) (hs : SortS l) (hxy : ordD x.d y.d < 0) : l = [x, y] := by
  match l, h.length_eq with
  | [p, q], _ =>
    have hm := h.mem_iff (a := p)
    have hp : p = x ∨ p = y := by
      have := (h.mem_iff (a := p)).1 (by simp)
      simpa using this
    have hs2 : ordD p.d q.d ≤ 0 := by
      have := List.pairwise_cons.1 hs
      exact this.1 q (by simp)
    rcases hp with rfl | rfl
    · have : [q].Perm [y] := by simpa using h
      rw [perm_one this]
    · have h2 : [p, q].Perm [p, x] := h.trans (List.Perm.swap _ _ _)
      have : [q].Perm [x] := by simpa using h2
      have hq := perm_one this
      simp only [List.cons.injEq, and_true] at hq
      subst hq
      rw [ord_le] at hs2
      exact absurd hxy hs2
/-- a sibling of a zero past and no body -/
def s0 (d : Dt) : Sb := ⟨d, zeroU, rfl, [], .slice none 0 0, [], .slice none 0 0⟩
theorem s0_ok (h : View) (d : Dt) : Sv h (s0 d) := ⟨Sc.nil h 2 none 0, Sc.nil h 1 none 0, fun b hb => by cases hb⟩

theorem map_one {M : List Sb} {x : Ab} (h : M.map Sb.a = [x]) : ∃ m, M = [m] ∧ m.a = x := by
  match M, h with
  | [m], h => exact ⟨m, rfl, by simpa using h⟩
theorem map_two {M : List Sb} {x y : Ab} (h : M.map Sb.a = [x, y]) : ∃ m n, M = [m, n] ∧ m.a = x ∧ n.a = y := by
  match M, h with
  | [m, n], h =>
    simp only [List.map_cons, List.map_nil, List.cons.injEq, and_true] at h
    exact ⟨m, n, rfl, h.1, h.2⟩
theorem fits_small {l : List Sb} (h1 : l.length ≤ 40000) (h : ∀ x ∈ l, x.l.length ≤ 1000000 ∧ x.b.length ≤ 1000000) : Fits l := ⟨h1, h⟩
/-- one that is right is a set alone -/
theorem check_single {a : Ab} (h : rightA a = true) : checkA [a] = 0 := by
  obtain ⟨_, _, h3, _⟩ := rightA_ok h
  unfold checkA
  rw [if_neg (show ¬ 64 < [a].length by simp), if_neg, if_neg]
  · simp [h3]
  · have : badAt [a] 0 = false := by
      unfold badAt
      simp [h]
    simp [this]

theorem sets1 (v : Value) (a : List Sb) (y : Sb) (M : List Sb) (e : Int) (hm : MergeR a [y] (M.map Sb.a) e) (ca : checkA (a.map Sb.a) = 0) (cy : checkA [y.a] = 0) (hd : ((a ++ [y]).map Sb.d).Nodup) (G : List Sb) (hG : ((a ++ [y]).filter fun x => freeS (a.map Sb.a) [y.a] x.a) = G) (hl : G.length ≤ 64) :
    ∃ R, R.Perm G ∧ SortS R ∧ e = 0 ∧ M.map Sb.a = R.map Sb.a := by
  obtain ⟨R, h1, h2, h3⟩ := merge_distinct hm ca (by simpa using cy) hd
  have hG' : ((a ++ [y]).filter fun x => freeS (a.map Sb.a) ([y].map Sb.a) x.a) = G := hG
  rw [hG'] at h1
  rw [if_neg (by rw [h1.length_eq]; omega)] at h3
  exact ⟨R, h1, h2, h3⟩

theorem fill3b {d : Dt} {u : List Int} {mv : Value} (hu : u.length = 16) : fillL (fun i : Nat => ([(0, 2), (2, 17), (19, 1)] : List (Nat × Nat))[i]?) ([.int .i64 0, .int .i64 0] ++ (up zeroU ++ [.slice none 0 0, .slice none 0 0])) [(0, .agg (dcs d).toArray), (1, .agg (cxc u mv).toArray)] = some (dcs d ++ (cxc u mv ++ [.slice none 0 0])) := by
  obtain ⟨a0, a1, a2, a3, a4, a5, a6, a7, a8, a9, a10, a11, a12, a13, a14, a15, rfl⟩ := list16 u hu
  rfl
theorem sets_sp (h : View) (w : World) (s : St ⟨w, h, []⟩ h [] w) :
    Calls Try.prog 11 [].toArray w fun e w' => e = .returned (.bool true) ∧ St ⟨w, h, []⟩ h [] w' := by
  refine calls_enter Try.func11 rfl Try.ntmps11 rfl s ?_
  repeat' (first | refine tw_ ?_ | (refine ta_ ?_; intro _) | ((fail_if_success (refine ybi rfl ?_)); refine ybj rfl ?_ ?_ <;> (intro ht; rw [ht]; first | replace ht := of_decide_eq_true ht | replace ht := of_decide_eq_false ht | skip)) | (refine ych ?_; first | (refine ybw rfl ?_ ?_ <;> intro ht) | (refine ybx rfl ?_ ?_ <;> intro ht)))
  have n0 : Ss h (.slice none 0 0) [] := ⟨Sc.nil h 20 none 0, fun x hx => by cases hx⟩
  (refine yco (ycp Try.func15 rfl (by kernel_rfl) rfl) (put_sp (.slice none 0 0) [] (s0 (1, 1)) h n0 (s0_ok h _) ⟨by simp, fun x hx => by cases hx⟩ (by decide)) rfl rfl rfl ?_ ?_ ?_; (· (exact to_)); (· intro _ _ hle; (exact to_)); intro x px hle)
  obtain ⟨h1, v1, M1, e1⟩ := x
  obtain ⟨S1, R1⟩ := px
  dsimp only at S1 R1
  obtain ⟨T1, q1, q2, q3, q4⟩ := sets1 v1 [] (s0 (1, 1)) M1 e1 R1 (by kernel_rfl) (by kernel_rfl) (by decide) [s0 (1, 1)] (by kernel_rfl) (by decide)
  rw [perm_one q1] at q4
  subst q3
  obtain ⟨m1, rfl, hm1⟩ := map_one q4
  clear q1 q2 q4 R1 hle
  repeat' (first | refine tw_ ?_ | (refine ta_ ?_; intro _) | ((fail_if_success (refine ybi rfl ?_)); refine ybj rfl ?_ ?_ <;> (intro ht; rw [ht]; first | replace ht := of_decide_eq_true ht | replace ht := of_decide_eq_false ht | skip)) | (refine ych ?_; first | (refine ybw rfl ?_ ?_ <;> intro ht) | (refine ybx rfl ?_ ?_ <;> intro ht)))
  have d1 : m1.d = (1, 1) := congrArg (·.1) hm1
  (refine yco (ycp Try.func15 rfl (by kernel_rfl) rfl) (put_sp v1 [m1] (s0 (2, 1)) h1 S1 (s0_ok h1 _) ⟨by simp, fun x hx => by rw [List.mem_singleton.1 hx]; exact ⟨by rw [show m1.l = [] from congrArg (·.2.2.1) hm1]; decide, by rw [show m1.b = [] from congrArg (·.2.2.2) hm1]; decide⟩⟩ (by decide)) rfl rfl rfl ?_ ?_ ?_; (· (exact to_)); (· intro _ _ hle; (exact to_)); intro x px hle)
  obtain ⟨h2, v2, M2, e2⟩ := x
  obtain ⟨S2, R2⟩ := px
  dsimp only at S2 R2
  have c1 : checkA ([m1].map Sb.a) = 0 := by show checkA [m1.a] = 0; rw [hm1]; kernel_rfl
  have nd1 : (([m1] ++ [s0 (2, 1)]).map Sb.d).Nodup := by show [m1.d, (2, 1)].Nodup; rw [d1]; decide
  have g1 : (([m1] ++ [s0 (2, 1)]).filter fun x => freeS ([m1].map Sb.a) [(s0 (2, 1)).a] x.a) = [m1, s0 (2, 1)] := by
    show List.filter (fun x => freeS [m1.a] [(s0 (2, 1)).a] x.a) [m1, s0 (2, 1)] = _
    rw [List.filter_cons_of_pos (by show freeS [m1.a] [(s0 (2, 1)).a] m1.a = true; rw [hm1]; kernel_rfl), List.filter_cons_of_pos (by show freeS [m1.a] [(s0 (2, 1)).a] (s0 (2, 1)).a = true; rw [hm1]; kernel_rfl)]
    rfl
  obtain ⟨T2, q1, q2, q3, q4⟩ := sets1 v1 [m1] (s0 (2, 1)) M2 e2 R2 c1 (by kernel_rfl) nd1 _ g1 (by show 2 ≤ 64; decide)
  rw [sort_two q1 q2 (by show ordD m1.d (2, 1) < 0; rw [d1]; decide)] at q4
  subst q3
  obtain ⟨m2, n2, rfl, hm2, hn2⟩ := map_two q4
  rw [hm1] at hm2
  clear q1 q2 q4 R2 hle g1 nd1 c1
  obtain ⟨_, ad2, cap2, hv2, _, _⟩ := id S2.1
  subst hv2
  have c2 : checkA ([m2, n2].map Sb.a) = 0 := by show checkA [m2.a, n2.a] = 0; rw [hm2, hn2]; kernel_rfl
  have f2 : Fits [m2, n2] := ⟨by simp, fun x hx => by
    rcases List.mem_cons.1 hx with rfl | hx
    · exact ⟨by rw [show x.l = [] from congrArg (·.2.2.1) hm2]; decide, by rw [show x.b = [] from congrArg (·.2.2.2) hm2]; decide⟩
    · rw [List.mem_singleton.1 hx]; exact ⟨by rw [show n2.l = [] from congrArg (·.2.2.1) hn2]; decide, by rw [show n2.b = [] from congrArg (·.2.2.2) hn2]; decide⟩⟩
  repeat' (first | refine tw_ ?_ | (refine ta_ ?_; intro _) | ((fail_if_success (refine ybi rfl ?_)); refine ybj rfl ?_ ?_ <;> (intro ht; rw [ht]; first | replace ht := of_decide_eq_true ht | replace ht := of_decide_eq_false ht | skip)) | (refine ych ?_; first | (refine ybw rfl ?_ ?_ <;> intro ht) | (refine ybx rfl ?_ ?_ <;> intro ht)))
  (refine yco (ycp Try.func13 rfl (by kernel_rfl) rfl) (sseen_sp _ [m2, n2] h2 S2 f2) rfl rfl rfl ?_ ?_ ?_; (· (exact to_)); (· intro _ _ hle; (exact to_)); intro x px hle)
  obtain ⟨h3, v3, u, m, e3⟩ := x
  obtain ⟨C3, R3⟩ := px
  dsimp only at C3 R3
  unfold SeenR at R3
  rw [if_neg (by rw [c2]; decide)] at R3
  rcases R3 with ⟨_, _, _, r4⟩ | ⟨r1, r2, r3, r4⟩
  · exfalso
    have : ([m2, n2].map Sb.a).flatMap (fun s => s.1 :: s.2.2.1) = [(1, 1), (2, 1)] := by
      show [m2.a, n2.a].flatMap _ = _
      rw [hm2, hn2]; rfl
    rw [this] at r4
    exact absurd r4 (by decide)
  subst r1
  obtain ⟨hu, mv, hv3, s3⟩ := id C3
  subst hv3
  obtain ⟨_, ad3, cap3, hmv, _, _⟩ := id s3
  subst hmv
  have hle3 : Le h2 h3 := hle
  clear hle
  obtain ⟨y, hy⟩ : ∃ y : Sb, y = ⟨(1, 2), u, hu, m, .slice ad3 m.length cap3, [], .slice none 0 0⟩ := ⟨_, rfl⟩
  have hfy : fillL (fun i : Nat => ([(0, 2), (2, 17), (19, 1)] : List (Nat × Nat))[i]?) ([.int .i64 0, .int .i64 0] ++ (up zeroU ++ [.slice none 0 0, .slice none 0 0])) [(0, .agg (dcs (1, 2)).toArray), (1, .agg (cxc u (.slice ad3 m.length cap3)).toArray)] = some (sbc y) := by
    rw [hy]; exact fill3b hu
  have hyv : Sv h3 y := by rw [hy]; exact ⟨s3, Sc.nil h3 1 none 0, fun b hb => by cases hb⟩
  repeat' (first | (refine ycf ?_; apply ybk; (· first | (first | (apply yad; (· rfl); (· exact yaz 0 rfl); (· exact ycj hu)) | (apply yax (cs := sbc y); (· rfl); (· exact hfy)))); (· rfl); (· rfl)) | (refine ybg 0 rfl rfl rfl (cxc_sz hu) (cxc_fit hu) (cxc_one rfl) (ybh (cxc_all hu)) rfl rfl ?_ ?_ ?_; (· (exact to_)); (· (exact to_))) | refine t1_ ?_ | (refine ta_ ?_; intro _) | ((fail_if_success (refine ybi rfl ?_)); refine ybj rfl ?_ ?_ <;> (intro ht; rw [ht]; first | replace ht := of_decide_eq_true ht | replace ht := of_decide_eq_false ht | skip)) | (refine ych ?_; first | (refine ybw rfl ?_ ?_ <;> intro ht) | (refine ybx rfl ?_ ?_ <;> intro ht)))
  have ey : y.a = ((1, 2), u, m, []) := by rw [hy]; rfl
  have ck : checkC u m = 0 := check_inv r2 r3
  have sn : ∀ d, rightB d = true → hasC u m d = seenA [((1, 1), zeroU, [], []), ((2, 1), zeroU, [], [])] d := fun d hd => by
    rw [r4 d hd]
    show seenA [m2.a, n2.a] d = _
    rw [hm2, hn2]
    rfl
  have hA : ∀ d, rightB d = true → hasA y.a d = seenA [((1, 1), zeroU, [], []), ((2, 1), zeroU, [], [])] d := fun d hd => by
    rw [ey]
    show (decide (checkC u m = 0) && rightB d && hasC u m d) = _
    rw [ck, hd, sn d hd]
    rfl
  have ry : rightA y.a = true := by
    unfold rightA
    have e1 : hasA y.a y.a.1 = false := by
      rw [show y.a.1 = (1, 2) by rw [ey], hA (1, 2) (by decide)]
      kernel_rfl
    rw [e1, ey]
    show (rightB (1, 2) && (decide (checkC u m = 0) && (!false && decide ((([] : List Int).length : Int) ≤ 16384)))) = true
    rw [ck]
    rfl
  have dm2 : m2.d = (1, 1) := congrArg (·.1) hm2
  have dn2 : n2.d = (2, 1) := congrArg (·.1) hn2
  have dy : y.d = (1, 2) := by rw [hy]
  have nd2 : (([m2, n2] ++ [y]).map Sb.d).Nodup := by show [m2.d, n2.d, y.d].Nodup; rw [dm2, dn2, dy]; decide
  have fr : ∀ x : Ab, freeS [m2.a, n2.a] [y.a] x = (!(hasA m2.a x.1 || hasA n2.a x.1) && !(hasA y.a x.1)) := fun x => by
    unfold freeS
    simp
  have g2 : (([m2, n2] ++ [y]).filter fun x => freeS ([m2, n2].map Sb.a) [y.a] x.a) = [y] := by
    show List.filter (fun x => freeS [m2.a, n2.a] [y.a] x.a) [m2, n2, y] = _
    rw [List.filter_cons_of_neg (by show ¬ freeS [m2.a, n2.a] [y.a] m2.a = true; rw [fr, show m2.a.1 = (1, 1) from dm2, hA (1, 1) (by decide), show seenA [((1, 1), zeroU, [], []), ((2, 1), zeroU, [], [])] (1, 1) = true by kernel_rfl]; simp),
      List.filter_cons_of_neg (by show ¬ freeS [m2.a, n2.a] [y.a] n2.a = true; rw [fr, show n2.a.1 = (2, 1) from dn2, hA (2, 1) (by decide), show seenA [((1, 1), zeroU, [], []), ((2, 1), zeroU, [], [])] (2, 1) = true by kernel_rfl]; simp),
      List.filter_cons_of_pos (by show freeS [m2.a, n2.a] [y.a] y.a = true; rw [fr, show y.a.1 = (1, 2) from dy, hA (1, 2) (by decide), hm2, hn2]; kernel_rfl)]
    rfl
  have ly : y.l.length ≤ 1000000 ∧ y.b.length ≤ 1000000 := by rw [hy]; exact ⟨by show m.length ≤ _; omega, Nat.zero_le _⟩
  have S3 : Ss h3 (.slice ad2 [m2, n2].length cap2) [m2, n2] := S2.mono hle3
  (refine yco (ycp Try.func15 rfl (by kernel_rfl) rfl) (put_sp _ [m2, n2] y h3 S3 hyv f2 ly) rfl rfl rfl ?_ ?_ ?_; (· (exact to_)); (· intro _ _ hle; (exact to_)); intro x px hle)
  obtain ⟨h4, v4, M4, e4⟩ := x
  obtain ⟨S4, R4⟩ := px
  dsimp only at S4 R4
  obtain ⟨T4, q1, q2, q3, q4⟩ := sets1 v4 [m2, n2] y M4 e4 R4 c2 (check_single ry) nd2 _ g2 (by show 1 ≤ 64; decide)
  rw [perm_one q1] at q4
  subst q3
  obtain ⟨m4, rfl, hm4⟩ := map_one q4
  have dm4 : m4.d = (1, 2) := by rw [show m4.d = y.d from congrArg (·.1) hm4, dy]
  obtain ⟨_, ad4, cap4, hv4, _, _⟩ := id S4.1
  subst hv4
  obtain ⟨b4, o4, hb4⟩ := S4.1.ad (by show 0 < 1; decide) (by decide)
  subst hb4
  have hel : ∀ L, Cells h4 L ⟨b4, o4 + 0 * 20, none⟩ (sbc m4) := fun L => S4.1.elem sbc_len 0 (by show 0 < 1; decide)
  have e42 : m4.d.2 = 2 := by rw [dm4]
  have l4 : [m4].length = 1 := rfl
  have l2 : [m2, n2].length = 2 := rfl
  repeat' (first | (refine ycf ?_; apply ybk; (· first | (exact tk_) | (apply yae; (· rfl); (· (exact sb_nu (hel _))))); (· rfl); (· rfl)) | (refine ybg 0 rfl rfl rfl (cxc_sz hu) (cxc_fit hu) (cxc_one rfl) (ybh (cxc_all hu)) rfl rfl ?_ ?_ ?_; (· (exact to_)); (· (exact to_))) | refine t1_ ?_ | (refine ta_ ?_; intro _) | ((fail_if_success (refine ybi rfl ?_)); refine ybj rfl ?_ ?_ <;> (intro ht; rw [ht]; first | replace ht := of_decide_eq_true ht | replace ht := of_decide_eq_false ht | skip)) | (refine ych ?_; first | (refine ybw rfl ?_ ?_ <;> intro ht) | (refine ybx rfl ?_ ?_ <;> intro ht)))
  exact nx_ret1 rfl (rv_tmp rfl) (fun w' s' => ⟨rfl, s'.nil.base⟩)
end Go.Proofs.Ytkkjppeaaicgaaa
end

section
namespace Go.Proofs.Ytkkjppeaaicgaaa
open Go Go.Ck
set_option maxRecDepth 100000
set_option maxHeartbeats 1000000
set_option linter.unusedVariables false

/-- dots that rise -/
def StrictA (l : List Ab) : Prop := l.Pairwise fun x y => ordD x.1 y.1 < 0
theorem ord_anti {x y : Dt} (h1 : ordD x y < 0) (h2 : ordD y x < 0) : False := by rw [ord_iff] at h1 h2; omega
theorem ord_ne {x y : Dt} (h1 : ordD x y < 0) : x ≠ y := fun e => by rw [e] at h1; exact ord_self _ h1
theorem ord_lt_of {x y : Dt} (h1 : ordD x y ≤ 0) (h2 : x ≠ y) : ordD x y < 0 := by
  rw [ord_le, ord_iff] at h1
  rw [ord_iff]
  obtain ⟨x1, x2⟩ := x
  obtain ⟨y1, y2⟩ := y
  simp only [ne_eq, Prod.mk.injEq] at h1 h2 ⊢
  omega
theorem ord_tr {x y z : Dt} (h1 : ordD x y < 0) (h2 : ordD y z < 0) : ordD x z < 0 := by
  rw [ord_iff] at h1 h2 ⊢
  omega
theorem strict_nodup {l : List Ab} (h : StrictA l) : l.Nodup := by
  show List.Pairwise _ _
  exact List.Pairwise.imp (fun {a b} hab => by intro e; exact ord_ne hab (congrArg (·.1) e)) h
theorem strict_ext {l m : List Ab} (hl : StrictA l) (hm : StrictA m) (h : ∀ x, x ∈ l ↔ x ∈ m) : l = m :=
  List.Perm.eq_of_pairwise (le := fun x y : Ab => ordD x.1 y.1 < 0) (fun a b _ _ h1 h2 => (ord_anti h1 h2).elim) hl hm ((List.perm_ext_iff_of_nodup (strict_nodup hl) (strict_nodup hm)).2 h)
theorem strict_one {l : List Ab} (h : StrictA l) {x y : Ab} (hx : x ∈ l) (hy : y ∈ l) (e : x.1 = y.1) : x = y := by
  obtain ⟨i, hi, rfl⟩ := List.mem_iff_getElem.1 hx
  obtain ⟨j, hj, rfl⟩ := List.mem_iff_getElem.1 hy
  have hp := List.pairwise_iff_getElem.1 h
  rcases Nat.lt_trichotomy i j with h1 | h1 | h1
  · exact absurd e (ord_ne (hp i j hi hj h1))
  · subst h1; rfl
  · exact absurd e.symm (ord_ne (hp j i hj hi h1))
theorem strict_of_step {l : List Ab} (h : ∀ i x y, l[i]? = some x → l[i + 1]? = some y → ordD x.1 y.1 < 0) : StrictA l := by
  induction l with
  | nil => exact List.Pairwise.nil
  | cons x l ih =>
    have ih := ih (fun i a b ha hb => h (i + 1) a b (by simpa using ha) (by simpa using hb))
    refine List.pairwise_cons.2 ⟨fun y hy => ?_, ih⟩
    cases l with
    | nil => cases hy
    | cons z l =>
      have h1 := h 0 x z (by simp) (by simp)
      rcases List.mem_cons.1 hy with rfl | hy
      · exact h1
      · exact ord_tr h1 ((List.pairwise_cons.1 ih).1 y hy)
theorem checkA_strict {L : List Ab} (h : checkA L = 0) : StrictA L := strict_of_step (checkA_ok h).2.2.1
theorem checkA_mk {L : List Ab} (h1 : L.length ≤ 64) (h2 : ∀ x ∈ L, rightA x = true) (h3 : StrictA L) (h4 : ∀ x ∈ L, ∀ y ∈ L, hasA y x.1 = false) : checkA L = 0 := by
  unfold checkA
  rw [if_neg (by omega), if_neg, if_neg]
  · intro h
    obtain ⟨x, hx, h⟩ := List.any_eq_true.1 h
    obtain ⟨y, hy, h⟩ := List.any_eq_true.1 h
    rw [h4 x hx y hy] at h
    cases h
  · rw [bad_no]
    · decide
    · intro j hj
      unfold badAt
      have e1 : L[j]? = some L[j] := List.getElem?_eq_getElem hj
      rw [e1]
      have e2 : (some L[j]).any rightA = true := by simpa using h2 _ (List.getElem_mem hj)
      rw [e2]
      by_cases h0 : 0 < j
      · have e3 : L[j - 1]? = some L[j - 1] := List.getElem?_eq_getElem (by omega)
        rw [e3]
        have := List.pairwise_iff_getElem.1 h3 (j - 1) j (by omega) hj (by omega)
        have e4 : ¬ 0 ≤ ordD L[j - 1].1 L[j].1 := by omega
        simp [h0, e4]
      · simp [h0]

theorem last_le {l : List Sb} (hs : SortS l) {k : Nat} {y : Sb} (hy : l[k]? = some y) : ∀ x ∈ l.take (k + 1), ordD x.d y.d ≤ 0 := fun x hx => by
  obtain ⟨i, hi, rfl⟩ := List.mem_iff_getElem.1 hx
  obtain ⟨hk, rfl⟩ := List.getElem?_eq_some_iff.1 hy
  rw [List.getElem_take]
  simp only [List.length_take] at hi
  by_cases e : i = k
  · subst e
    rw [ord_le]
    exact ord_self _
  · exact List.pairwise_iff_getElem.1 hs i k (by omega) hk (by omega)
/-- the first of each dot -/
theorem ddk_spec {l : List Sb} (hs : SortS l) : ∀ k, k ≤ l.length → ((ddk l k).Pairwise fun x y => ordD x.d y.d < 0) ∧ ∀ x, x ∈ ddk l k ↔ ((l.take k).filter fun y => decide (y.d = x.d)).head? = some x
  | 0, _ => ⟨List.Pairwise.nil, fun x => by simp [ddk_zero]⟩
  | k + 1, hk => by
    obtain ⟨ih1, ih2⟩ := ddk_spec hs k (by omega)
    obtain ⟨z, hz⟩ : ∃ z, l[k]? = some z := ⟨_, List.getElem?_eq_getElem (by omega)⟩
    have htk : l.take (k + 1) = l.take k ++ [z] := by
      obtain ⟨h, rfl⟩ := List.getElem?_eq_some_iff.1 hz
      exact List.take_succ_eq_append_getElem h
    have hle := last_le hs hz
    rw [htk] at hle
    have hsub : ∀ x ∈ ddk l k, x ∈ l.take k := fun x hx => (List.mem_filter.1 (List.mem_of_mem_head? (Option.mem_def.2 ((ih2 x).1 hx)))).1
    have hnew : (∀ y ∈ l.take k, y.d ≠ z.d) → ((ddk l k ++ [z]).Pairwise fun x y => ordD x.d y.d < 0) ∧ ∀ x, x ∈ ddk l k ++ [z] ↔ ((l.take (k + 1)).filter fun y => decide (y.d = x.d)).head? = some x := fun hne => by
      refine ⟨List.pairwise_append.2 ⟨ih1, List.pairwise_singleton .., fun x hx y hy => ?_⟩, fun x => ?_⟩
      · rw [List.mem_singleton.1 hy]
        exact ord_lt_of (hle x (List.mem_append_left _ (hsub x hx))) (hne x (hsub x hx))
      · rw [htk, List.filter_append, List.mem_append, List.mem_singleton]
        by_cases e : z.d = x.d
        · have e0 : (l.take k).filter (fun y => decide (y.d = x.d)) = [] := List.filter_eq_nil_iff.2 fun y hy => by simpa [← e] using hne y hy
          have e1 : x ∉ ddk l k := fun hx => by
            have := (ih2 x).1 hx
            rw [e0] at this
            cases this
          rw [e0]
          simp only [e1, false_or, List.nil_append]
          rw [List.filter_cons_of_pos (by simp [e])]
          simp only [List.filter_nil, List.head?_cons, Option.some.injEq]
          exact eq_comm
        · have e1 : x ≠ z := fun h => e (by rw [h])
          rw [List.filter_cons_of_neg (by simpa using e)]
          simp only [List.filter_nil, List.append_nil, e1, or_false]
          exact ih2 x
    by_cases h0 : k = 0
    · subst h0
      have := hnew (fun y hy => by simp at hy)
      rw [ddk_zero, List.nil_append] at this
      rw [ddk_one hz]
      exact this
    · obtain ⟨y, hy⟩ : ∃ y, l[k - 1]? = some y := ⟨_, List.getElem?_eq_getElem (by omega)⟩
      have hyk : y ∈ l.take k := by
        refine List.mem_of_getElem? (i := k - 1) ?_
        rw [List.getElem?_take, if_pos (by omega), hy]
      rw [ddk_succ hz hy h0]
      by_cases e : z.d = y.d
      · rw [if_pos e, List.append_nil]
        refine ⟨ih1, fun x => ?_⟩
        rw [ih2 x, htk, List.filter_append]
        by_cases e2 : z.d = x.d
        · obtain ⟨q, t, eq⟩ : ∃ q t, (l.take k).filter (fun y => decide (y.d = x.d)) = q :: t := by
            have hm : y ∈ (l.take k).filter (fun y => decide (y.d = x.d)) := List.mem_filter.2 ⟨hyk, by simp [← e2, e]⟩
            cases hq : (l.take k).filter (fun y => decide (y.d = x.d)) with
            | nil => rw [hq] at hm; cases hm
            | cons q t => exact ⟨q, t, rfl⟩
          rw [eq]
          rfl
        · rw [List.filter_cons_of_neg (by simpa using e2)]
          simp
      · rw [if_neg e]
        refine hnew fun x hx e2 => ?_
        have h1 := hle x (List.mem_append_left _ hx)
        have h2 : ordD x.d y.d ≤ 0 := last_le hs hy x (by rw [show k - 1 + 1 = k by omega]; exact hx)
        have h3 : ordD y.d z.d ≤ 0 := hle y (List.mem_append_left _ hyk)
        rw [e2] at h2
        have h4 := ord_lt_of h3 (fun h => e h.symm)
        have h5 := ord_lt_of h2 e
        exact ord_anti h4 h5

/-- of a row of rising dots, those of one dot -/
theorem only_one {l : List Sb} (hn : StrictA (l.map Sb.a)) {x : Sb} (hx : x ∈ l) : l.filter (fun y => decide (y.d = x.d)) = [x] := by
  induction l with
  | nil => cases hx
  | cons y l ih =>
    have h1 := List.pairwise_cons.1 hn
    rcases List.mem_cons.1 hx with rfl | hx
    · rw [List.filter_cons_of_pos (by simp)]
      congr 1
      exact List.filter_eq_nil_iff.2 fun z hz => by
        have h2 : ¬ z.d = x.d := fun e => ord_ne (h1.1 z.a (List.mem_map_of_mem hz)) e.symm
        simpa using h2
    · have : ¬ y.d = x.d := ord_ne (h1.1 x.a (List.mem_map_of_mem hx))
      rw [List.filter_cons_of_neg (by simpa using this)]
      exact ih h1.2 hx

/-- those of both that nobody has seen, of each dot the first's -/
def InM (A B : List Ab) (x : Ab) : Prop := (x ∈ A ∨ (x ∈ B ∧ ∀ y ∈ A, y.1 ≠ x.1)) ∧ freeS A B x = true
theorem merge_law {a b : List Sb} {M : List Ab} {e : Int} (h : MergeR a b M e) (ca : checkA (a.map Sb.a) = 0) (cb : checkA (b.map Sb.a) = 0) :
    ∃ L : List Ab, StrictA L ∧ (∀ x, x ∈ L ↔ InM (a.map Sb.a) (b.map Sb.a) x) ∧ (if 64 < L.length then e = 5 ∧ M = [] else e = 0 ∧ M = L) := by
  unfold MergeR at h
  rw [if_neg (by rw [ca]; decide), if_neg (by rw [cb]; decide)] at h
  obtain ⟨R, kR, sR, hR⟩ := h
  obtain ⟨s1, s2⟩ := ddk_spec sR R.length (Nat.le_refl _)
  rw [List.take_length] at s2
  have sa := checkA_strict ca
  have sb := checkA_strict cb
  refine ⟨((ddk R R.length).filter fun x => freeS (a.map Sb.a) (b.map Sb.a) x.a).map Sb.a, ?_, fun x => ?_, by rw [List.length_map]; exact hR⟩
  · show List.Pairwise _ _
    rw [List.pairwise_map]
    exact (s1.filter _).imp (fun h => h)
  · have hmem : ∀ s : Sb, s ∈ ddk R R.length ↔ (a.filter (fun y => decide (y.d = s.d)) ++ b.filter fun y => decide (y.d = s.d)).head? = some s := fun s => by
      rw [s2 s, ← kR s.d, List.filter_append]
    rw [List.mem_map]
    constructor
    · rintro ⟨s, hs, rfl⟩
      obtain ⟨h1, h2⟩ := List.mem_filter.1 hs
      refine ⟨?_, h2⟩
      rw [hmem] at h1
      cases hq : a.filter (fun y => decide (y.d = s.d)) with
      | nil =>
        rw [hq] at h1
        right
        have hb : s ∈ b := (List.mem_filter.1 (List.mem_of_mem_head? (Option.mem_def.2 h1))).1
        refine ⟨List.mem_map_of_mem hb, fun y hy => ?_⟩
        obtain ⟨t, ht, rfl⟩ := List.mem_map.1 hy
        have := List.filter_eq_nil_iff.1 hq t ht
        intro e
        exact this (decide_eq_true (show t.d = s.d from e))
      | cons q t =>
        rw [hq] at h1
        have e : q = s := by simpa using h1
        left
        have hm : s ∈ a.filter (fun y => decide (y.d = s.d)) := by rw [hq, e]; exact List.mem_cons_self ..
        exact List.mem_map_of_mem (List.mem_filter.1 hm).1
    · rintro ⟨h1, h2⟩
      rcases h1 with h1 | ⟨h1, h3⟩
      · obtain ⟨s, hs, rfl⟩ := List.mem_map.1 h1
        refine ⟨s, List.mem_filter.2 ⟨?_, h2⟩, rfl⟩
        rw [hmem, only_one sa hs]
        rfl
      · obtain ⟨s, hs, rfl⟩ := List.mem_map.1 h1
        refine ⟨s, List.mem_filter.2 ⟨?_, h2⟩, rfl⟩
        rw [hmem, only_one sb hs, List.filter_eq_nil_iff.2 fun t ht => by have h4 : ¬ t.d = s.d := h3 t.a (List.mem_map_of_mem ht); simpa using h4]
        rfl
theorem free_iff {A B : List Ab} {x : Ab} : freeS A B x = true ↔ (∀ y ∈ A, hasA y x.1 = false) ∧ ∀ y ∈ B, hasA y x.1 = false := by
  unfold freeS
  simp only [Bool.and_eq_true, Bool.not_eq_true', List.any_eq_false, Bool.not_eq_true]
theorem merge_nil {a b : List Sb} {M : List Ab} {e : Int} (h : MergeR a b M e) (ha : a = []) (cb : checkA (b.map Sb.a) = 0) : e = 0 ∧ M = b.map Sb.a := by
  subst ha
  obtain ⟨L, h1, h2, h3⟩ := merge_law h (by kernel_rfl) cb
  obtain ⟨c1, c2, c3, c4⟩ := checkA_ok cb
  have e1 : L = b.map Sb.a := strict_ext h1 (checkA_strict cb) fun x => by
    rw [h2 x]
    unfold InM
    rw [free_iff]
    constructor
    · rintro ⟨h | h, _⟩
      · cases h
      · exact h.1
    · intro h
      exact ⟨.inr ⟨h, fun y hy => (by cases hy)⟩, fun y hy => (by cases hy), fun y hy => c4 x h y hy⟩
  rw [e1, if_neg (by omega)] at h3
  exact h3
theorem merge_self {a b : List Sb} {M : List Ab} {e : Int} (h : MergeR a b M e) (hab : a.map Sb.a = b.map Sb.a) (ca : checkA (a.map Sb.a) = 0) : e = 0 ∧ M = a.map Sb.a := by
  obtain ⟨L, h1, h2, h3⟩ := merge_law h ca (hab ▸ ca)
  rw [← hab] at h2
  obtain ⟨c1, c2, c3, c4⟩ := checkA_ok ca
  have e1 : L = a.map Sb.a := strict_ext h1 (checkA_strict ca) fun x => by
    rw [h2 x]
    unfold InM
    rw [free_iff]
    constructor
    · rintro ⟨h | h, _⟩
      · exact h
      · exact h.1
    · intro h
      exact ⟨.inl h, fun y hy => c4 x h y hy, fun y hy => c4 x h y hy⟩
  rw [e1, if_neg (by omega)] at h3
  exact h3
/-- what is merged is a set -/
theorem merge_set {a b : List Sb} {M : List Ab} (h : MergeR a b M 0) : checkA (a.map Sb.a) = 0 ∧ checkA (b.map Sb.a) = 0 ∧ checkA M = 0 := by
  by_cases ca : checkA (a.map Sb.a) = 0
  · by_cases cb : checkA (b.map Sb.a) = 0
    · refine ⟨ca, cb, ?_⟩
      obtain ⟨L, h1, h2, h3⟩ := merge_law h ca cb
      split at h3
      · exact absurd h3.1 (by decide)
      · rename_i hl
        rw [h3.2]
        refine checkA_mk (by omega) (fun x hx => ?_) h1 fun x hx y hy => ?_
        · rcases ((h2 x).1 hx).1 with h | h
          · exact (checkA_ok ca).2.1 x h
          · exact (checkA_ok cb).2.1 x h.1
        · have hf := free_iff.1 ((h2 x).1 hx).2
          rcases ((h2 y).1 hy).1 with h | h
          · exact hf.1 y h
          · exact hf.2 y h.1
    · unfold MergeR at h
      rw [if_neg (by rw [ca]; decide), if_pos cb] at h
      exact absurd h.1.symm cb
  · unfold MergeR at h
    rw [if_pos ca] at h
    exact absurd h.1.symm ca
theorem merge_err {a b : List Sb} {M : List Ab} {e : Int} (h : MergeR a b M e) (he : e ≠ 0) : M = [] := by
  unfold MergeR at h
  split at h
  · exact h.2
  split at h
  · exact h.2
  obtain ⟨R, _, _, h⟩ := h
  split at h
  · exact h.2
  · exact absurd h.1 he
end Go.Proofs.Ytkkjppeaaicgaaa
end

section
namespace Go.Proofs.Ytkkjppeaaicgaaa
open Go Go.Ck
set_option maxRecDepth 100000
set_option maxHeartbeats 1000000
set_option linter.unusedVariables false

def insA (x : Ab) : List Ab → List Ab
  | [] => [x]
  | y :: l => if ordD x.1 y.1 < 0 then x :: y :: l else y :: insA x l
def sortA (l : List Ab) : List Ab := l.foldr insA []
theorem mem_insA {x z : Ab} : ∀ {l : List Ab}, z ∈ insA x l ↔ z = x ∨ z ∈ l
  | [] => by simp [insA]
  | y :: l => by
    unfold insA
    split
    · simp
    · rw [List.mem_cons, mem_insA, List.mem_cons]
      constructor <;> (rintro (h | h | h) <;> simp [h])
theorem strict_insA {x : Ab} : ∀ {l : List Ab}, StrictA l → (∀ y ∈ l, y.1 ≠ x.1) → StrictA (insA x l)
  | [], _, _ => List.pairwise_singleton ..
  | y :: l, h, hn => by
    have h1 := List.pairwise_cons.1 h
    unfold insA
    split
    · rename_i hxy
      refine List.pairwise_cons.2 ⟨fun z hz => ?_, h⟩
      rcases List.mem_cons.1 hz with rfl | hz
      · exact hxy
      · exact ord_tr hxy (h1.1 z hz)
    · rename_i hxy
      have hyx : ordD y.1 x.1 < 0 := ord_lt_of (ord_le.2 hxy) (hn y (List.mem_cons_self ..))
      refine List.pairwise_cons.2 ⟨fun z hz => ?_, strict_insA h1.2 (fun z hz => hn z (List.mem_cons_of_mem _ hz))⟩
      rcases mem_insA.1 hz with rfl | hz
      · exact hyx
      · exact h1.1 z hz
theorem mem_sortA {z : Ab} : ∀ {l : List Ab}, z ∈ sortA l ↔ z ∈ l
  | [] => Iff.rfl
  | y :: l => by
    show z ∈ insA y (sortA l) ↔ _
    rw [mem_insA, mem_sortA, List.mem_cons]
theorem strict_sortA : ∀ {l : List Ab}, (l.map (·.1)).Nodup → StrictA (sortA l)
  | [], _ => List.Pairwise.nil
  | y :: l, h => by
    have h1 := List.nodup_cons.1 h
    refine strict_insA (strict_sortA h1.2) fun z hz e => h1.1 ?_
    have hm := List.mem_map_of_mem (f := fun x : Ab => x.1) (mem_sortA.1 hz)
    show y.1 ∈ l.map fun x : Ab => x.1
    rw [← e]
    exact hm
theorem strict_dots {l : List Ab} (h : StrictA l) : (l.map (·.1)).Nodup := by
  show List.Pairwise _ _
  rw [List.pairwise_map]
  exact List.Pairwise.imp (fun {a b} hab => ord_ne hab) h

def candA (A B : List Ab) : List Ab := (A ++ B.filter fun x => !(A.any fun y => decide (y.1 = x.1))).filter (freeS A B)
theorem mem_cand {A B : List Ab} {x : Ab} : x ∈ candA A B ↔ InM A B x := by
  unfold candA InM
  rw [List.mem_filter, List.mem_append, List.mem_filter]
  simp
theorem cand_dots {A B : List Ab} (ha : StrictA A) (hb : StrictA B) : ((candA A B).map (·.1)).Nodup := by
  unfold candA
  refine List.Nodup.sublist (List.Sublist.map _ List.filter_sublist) ?_
  rw [List.map_append, List.nodup_append]
  refine ⟨strict_dots ha, List.Nodup.sublist (List.Sublist.map _ List.filter_sublist) (strict_dots hb), fun x hx y hy e => ?_⟩
  obtain ⟨a, ha', rfl⟩ := List.mem_map.1 hx
  obtain ⟨b, hb', rfl⟩ := List.mem_map.1 hy
  have := (List.mem_filter.1 hb').2
  simp only [Bool.not_eq_true', List.any_eq_false, decide_eq_true_eq] at this
  exact this a ha' e
def mergeF (A B : List Ab) : List Ab × Int :=
  if checkA A ≠ 0 then ([], checkA A) else if checkA B ≠ 0 then ([], checkA B) else if 64 < (sortA (candA A B)).length then ([], 5) else (sortA (candA A B), 0)
theorem mergeF_uniq {A B L : List Ab} (ca : checkA A = 0) (cb : checkA B = 0) (h1 : StrictA L) (h2 : ∀ x, x ∈ L ↔ InM A B x) : mergeF A B = if 64 < L.length then ([], 5) else (L, 0) := by
  have e : sortA (candA A B) = L := strict_ext (strict_sortA (cand_dots (checkA_strict ca) (checkA_strict cb))) h1 fun x => by rw [mem_sortA, mem_cand, h2 x]
  unfold mergeF
  rw [if_neg (by rw [ca]; decide), if_neg (by rw [cb]; decide), e]
theorem merge_fun {a b : List Sb} {M : List Ab} {e : Int} (h : MergeR a b M e) : mergeF (a.map Sb.a) (b.map Sb.a) = (M, e) := by
  by_cases ca : checkA (a.map Sb.a) = 0
  · by_cases cb : checkA (b.map Sb.a) = 0
    · obtain ⟨L, h1, h2, h3⟩ := merge_law h ca cb
      rw [mergeF_uniq ca cb h1 h2]
      split
      · rename_i hl
        rw [if_pos hl] at h3
        rw [h3.1, h3.2]
      · rename_i hl
        rw [if_neg hl] at h3
        rw [h3.1, h3.2]
    · unfold MergeR at h
      rw [if_neg (by rw [ca]; decide), if_pos cb] at h
      unfold mergeF
      rw [if_neg (by rw [ca]; decide), if_pos cb, h.1, h.2]
  · unfold MergeR at h
    rw [if_pos ca] at h
    unfold mergeF
    rw [if_pos ca, h.1, h.2]
theorem mergeF_mem {A B : List Ab} (h : (mergeF A B).2 = 0) : checkA A = 0 ∧ checkA B = 0 ∧ StrictA (mergeF A B).1 ∧ ∀ x, x ∈ (mergeF A B).1 ↔ InM A B x := by
  unfold mergeF at h ⊢
  by_cases ca : checkA A = 0
  · rw [if_neg (by rw [ca]; decide)] at h ⊢
    by_cases cb : checkA B = 0
    · rw [if_neg (by rw [cb]; decide)] at h ⊢
      split at h
      · exact absurd h (by decide)
      · rename_i hl
        rw [if_neg hl]
        exact ⟨ca, cb, strict_sortA (cand_dots (checkA_strict ca) (checkA_strict cb)), fun x => by show x ∈ sortA _ ↔ _; rw [mem_sortA, mem_cand]⟩
    · rw [if_pos cb] at h
      exact absurd h cb
  · rw [if_pos ca] at h
    exact absurd h ca
theorem mergeF_set {A B : List Ab} (h : (mergeF A B).2 = 0) : checkA (mergeF A B).1 = 0 := by
  obtain ⟨ca, cb, h1, h2⟩ := mergeF_mem h
  have hl : (mergeF A B).1.length ≤ 64 := by
    unfold mergeF at h ⊢
    rw [if_neg (by rw [ca]; decide), if_neg (by rw [cb]; decide)] at h ⊢
    split at h
    · exact absurd h (by decide)
    · rename_i hl
      rw [if_neg hl]
      show (sortA _).length ≤ 64
      omega
  refine checkA_mk hl (fun x hx => ?_) h1 fun x hx y hy => ?_
  · rcases ((h2 x).1 hx).1 with h | h
    · exact (checkA_ok ca).2.1 x h
    · exact (checkA_ok cb).2.1 x h.1
  · have hf := free_iff.1 ((h2 x).1 hx).2
    rcases ((h2 y).1 hy).1 with h | h
    · exact hf.1 y h
    · exact hf.2 y h.1
theorem mergeF_nil {B : List Ab} (cb : checkA B = 0) : mergeF [] B = (B, 0) := by
  obtain ⟨c1, c2, c3, c4⟩ := checkA_ok cb
  rw [mergeF_uniq (by kernel_rfl) cb (checkA_strict cb) (fun x => ?_), if_neg (by omega)]
  unfold InM
  rw [free_iff]
  exact ⟨fun h => ⟨.inr ⟨h, fun y hy => (by cases hy)⟩, fun y hy => (by cases hy), fun y hy => c4 x h y hy⟩, fun h => h.1.elim (fun h => by cases h) (·.1)⟩
theorem mergeF_self {A : List Ab} (ca : checkA A = 0) : mergeF A A = (A, 0) := by
  obtain ⟨c1, c2, c3, c4⟩ := checkA_ok ca
  rw [mergeF_uniq ca ca (checkA_strict ca) (fun x => ?_), if_neg (by omega)]
  unfold InM
  rw [free_iff]
  exact ⟨fun h => ⟨.inl h, fun y hy => c4 x h y hy, fun y hy => c4 x h y hy⟩, fun h => h.1.elim id (·.1)⟩
/-- what all come to -/
def wholeF : List Ab → List (List Ab) → List Ab × Int
  | o, [] => (o, 0)
  | o, B :: r => if (mergeF o B).2 = 0 then wholeF (mergeF o B).1 r else ([], (mergeF o B).2)
theorem wholeF_set : ∀ {r : List (List Ab)} {o : List Ab}, checkA o = 0 → (wholeF o r).2 = 0 → checkA (wholeF o r).1 = 0
  | [], o, h, _ => h
  | B :: r, o, h, he => by
    unfold wholeF at he ⊢
    split at he
    · rename_i hm
      rw [if_pos hm]
      exact wholeF_set (mergeF_set hm) he
    · rename_i hm
      exact absurd he hm
/-- all alike: that -/
theorem wholeF_like {W : List Ab} (cw : checkA W = 0) : ∀ {r : List (List Ab)}, (∀ B ∈ r, B = W) → wholeF W r = (W, 0)
  | [], _ => rfl
  | B :: r, h => by
    have hB := h B (List.mem_cons_self ..)
    subst hB
    unfold wholeF
    rw [mergeF_self cw]
    exact wholeF_like cw fun C hC => h C (List.mem_cons_of_mem _ hC)
theorem wholeF_all {W : List Ab} (cw : checkA W = 0) {r : List (List Ab)} (h : ∀ B ∈ r, B = W) (h0 : r = [] → W = []) : wholeF [] r = (W, 0) := by
  cases r with
  | nil => rw [h0 rfl]; rfl
  | cons B r =>
    have hB := h B (List.mem_cons_self ..)
    subst hB
    unfold wholeF
    rw [mergeF_nil cw]
    exact wholeF_like cw fun C hC => h C (List.mem_cons_of_mem _ hC)
theorem wholeF_err : ∀ {r : List (List Ab)} {o : List Ab}, (wholeF o r).2 ≠ 0 → (wholeF o r).1 = []
  | [], o, h => absurd rfl h
  | B :: r, o, h => by
    unfold wholeF at h ⊢
    split at h
    · rename_i hm
      rw [if_pos hm]
      exact wholeF_err h
    · rename_i hm
      rw [if_neg hm]

theorem smergeF_sp (va vb : Value) (a b : List Sb) (h : View) (ha : Ss h va a) (hb : Ss h vb b) (fa : Fits a) (fb : Fits b) (w : World) (s : St ⟨w, h, []⟩ h [] w) :
    Calls Try.prog 26 [va, vb].toArray w fun e w' => ∃ z : View × Value × List Sb, e = .returned (.tuple #[z.2.1, .int .i64 (mergeF (a.map Sb.a) (b.map Sb.a)).2]) ∧ St ⟨w, h, []⟩ z.1 [] w' ∧ Ss z.1 z.2.1 z.2.2 ∧ z.2.2.map Sb.a = (mergeF (a.map Sb.a) (b.map Sb.a)).1 :=
  (smerge_sp va vb a b h ha hb fa fb w s).mono fun e w' ⟨z, h1, h2, h3, h4⟩ => ⟨(z.1, z.2.1, z.2.2.1), by rw [merge_fun h4]; exact h1, h2, h3, by rw [merge_fun h4]⟩
end Go.Proofs.Ytkkjppeaaicgaaa
end

section
namespace Go.Proofs.Ytkkjppeaaicgaaa
open Go Go.Ck
set_option maxRecDepth 100000
set_option maxHeartbeats 1000000
set_option linter.unusedVariables false

/-- writes that came about one after the other -/
structure Hist (S : List Ab) : Prop where
  len : S.length ≤ 64
  rt : ∀ x ∈ S, rightA x = true
  dots : ∀ x ∈ S, ∀ y ∈ S, x.1 = y.1 → x = y
  tr : ∀ x ∈ S, ∀ y ∈ S, hasA x y.1 = true → ∀ d, rightB d = true → hasA y d = true → hasA x d = true
  early : ∀ (i j : Nat) x y, S[i]? = some x → S[j]? = some y → hasA x y.1 = true → j < i
  known : ∀ x ∈ S, ∀ d, hasA x d = true → ∃ y ∈ S, y.1 = d
theorem Hist.nil : Hist [] := ⟨Nat.zero_le _, fun x h => (by cases h), fun x h => (by cases h), fun x h => (by cases h), fun i j x y h => (by simp at h), fun x h => (by cases h)⟩
theorem Hist.self {S : List Ab} (h : Hist S) {x : Ab} (hx : x ∈ S) : hasA x x.1 = false := (rightA_ok (h.rt x hx)).2.2.1
theorem Hist.rb {S : List Ab} (h : Hist S) {x : Ab} (hx : x ∈ S) : rightB x.1 = true := (rightA_ok (h.rt x hx)).1
/-- those of D that none of D has seen -/
structure IsMax (D M : List Ab) : Prop where
  st : StrictA M
  mem : ∀ x, x ∈ M ↔ x ∈ D ∧ ∀ y ∈ D, hasA y x.1 = false
theorem IsMax.nil : IsMax [] [] := ⟨List.Pairwise.nil, fun x => by simp⟩
theorem IsMax.uniq {D E M N : List Ab} (h : IsMax D M) (k : IsMax E N) (e : ∀ x, x ∈ D ↔ x ∈ E) : M = N := strict_ext h.st k.st fun x => by
  rw [h.mem x, k.mem x, e x]
  exact ⟨fun ⟨h1, h2⟩ => ⟨h1, fun y hy => h2 y ((e y).2 hy)⟩, fun ⟨h1, h2⟩ => ⟨h1, fun y hy => h2 y ((e y).1 hy)⟩⟩
theorem IsMax.one {S : List Ab} (h : Hist S) {x : Ab} (hx : x ∈ S) : IsMax [x] [x] := ⟨List.pairwise_singleton .., fun z => by
  rw [List.mem_singleton]
  exact ⟨fun e => ⟨e, fun y hy => by rw [List.mem_singleton.1 hy, e]; exact h.self hx⟩, fun e => e.1⟩⟩
/-- one of the greatest has seen it, or is it -/
theorem above {S D : List Ab} (h : Hist S) (hD : ∀ x ∈ D, x ∈ S) {z : Ab} (hz : z ∈ D) : ∃ y ∈ D, (∀ t ∈ D, hasA t y.1 = false) ∧ (y = z ∨ hasA y z.1 = true) := by
  have key : ∀ n, ∀ (i : Nat) z, S.length - i = n → S[i]? = some z → z ∈ D → ∃ y ∈ D, (∀ t ∈ D, hasA t y.1 = false) ∧ (y = z ∨ hasA y z.1 = true) := by
    intro n
    induction n using Nat.strongRecOn with
    | ind n ih =>
      intro i z hn hi hzD
      by_cases hm : ∀ t ∈ D, hasA t z.1 = false
      · exact ⟨z, hzD, hm, .inl rfl⟩
      · obtain ⟨t, ht⟩ := Classical.not_forall.1 hm
        obtain ⟨htD, ht2⟩ := Classical.not_imp.1 ht
        have htz : hasA t z.1 = true := by simpa using ht2
        obtain ⟨j, hj, hjt⟩ := List.mem_iff_getElem.1 (hD t htD)
        have hj2 : S[j]? = some t := by rw [List.getElem?_eq_getElem hj, hjt]
        have hij := h.early j i t z hj2 hi htz
        obtain ⟨y, h1, h2, h3⟩ := ih (S.length - j) (by omega) j t rfl hj2 htD
        refine ⟨y, h1, h2, .inr ?_⟩
        rcases h3 with rfl | h3
        · exact htz
        · exact h.tr y (hD y h1) t (hD t htD) h3 z.1 (h.rb (hD z hzD)) htz
  obtain ⟨i, hi, rfl⟩ := List.mem_iff_getElem.1 (hD z hz)
  exact key _ i _ rfl (List.getElem?_eq_getElem hi) hz
theorem IsMax.sub {D M : List Ab} (h : IsMax D M) {x : Ab} (hx : x ∈ M) : x ∈ D := ((h.mem x).1 hx).1
theorem strict_len {M S : List Ab} (hs : StrictA M) (hM : ∀ x ∈ M, x ∈ S) : M.length ≤ S.length := List.Nodup.length_le_of_subset (strict_nodup hs) (fun x hx => hM x hx)
theorem IsMax.set {S D M : List Ab} (h : Hist S) (hD : ∀ x ∈ D, x ∈ S) (m : IsMax D M) : checkA M = 0 :=
  checkA_mk (Nat.le_trans (strict_len m.st (fun x hx => hD x (m.sub hx))) h.len) (fun x hx => h.rt x (hD x (m.sub hx))) m.st fun x hx y hy => ((m.mem x).1 hx).2 y (m.sub hy)
/-- merged of both: those of both -/
theorem IsMax.merge {S D E M N : List Ab} (h : Hist S) (hD : ∀ x ∈ D, x ∈ S) (hE : ∀ x ∈ E, x ∈ S) (m : IsMax D M) (n : IsMax E N) : (mergeF M N).2 = 0 ∧ IsMax (D ++ E) (mergeF M N).1 := by
  have ca := m.set h hD
  have cb := n.set h hE
  have hin : ∀ x, InM M N x ↔ x ∈ D ++ E ∧ ∀ y ∈ D ++ E, hasA y x.1 = false := fun x => by
    unfold InM
    rw [free_iff]
    constructor
    · rintro ⟨hx, h1, h2⟩
      have hx' : x ∈ D ++ E := by
        rcases hx with hx | hx
        · exact List.mem_append_left _ (m.sub hx)
        · exact List.mem_append_right _ (n.sub hx.1)
      have hxS : x ∈ S := (List.mem_append.1 hx').elim (hD x) (hE x)
      refine ⟨hx', fun y hy => ?_⟩
      cases hc : hasA y x.1 with
      | false => rfl
      | true =>
        exfalso
        rcases List.mem_append.1 hy with hy | hy
        · obtain ⟨t, t1, t2, t3⟩ := above h hD hy
          have : hasA t x.1 = true := by
            rcases t3 with rfl | t3
            · exact hc
            · exact h.tr t (hD t t1) y (hD y hy) t3 _ (h.rb hxS) hc
          rw [h1 t ((m.mem t).2 ⟨t1, t2⟩)] at this
          cases this
        · obtain ⟨t, t1, t2, t3⟩ := above h hE hy
          have : hasA t x.1 = true := by
            rcases t3 with rfl | t3
            · exact hc
            · exact h.tr t (hE t t1) y (hE y hy) t3 _ (h.rb hxS) hc
          rw [h2 t ((n.mem t).2 ⟨t1, t2⟩)] at this
          cases this
    · rintro ⟨hx, h1⟩
      refine ⟨?_, fun y hy => h1 y (List.mem_append_left _ (m.sub hy)), fun y hy => h1 y (List.mem_append_right _ (n.sub hy))⟩
      rcases List.mem_append.1 hx with hx | hx
      · exact .inl ((m.mem x).2 ⟨hx, fun y hy => h1 y (List.mem_append_left _ hy)⟩)
      · by_cases hM : ∃ y ∈ M, y.1 = x.1
        · obtain ⟨y, hy, e⟩ := hM
          have := h.dots y (hD y (m.sub hy)) x (hE x hx) e
          exact .inl (this ▸ hy)
        · exact .inr ⟨(n.mem x).2 ⟨hx, fun y hy => h1 y (List.mem_append_right _ hy)⟩, fun y hy e => hM ⟨y, hy, e⟩⟩
  have hs : StrictA (sortA (candA M N)) := strict_sortA (cand_dots (checkA_strict ca) (checkA_strict cb))
  have hm : ∀ x, x ∈ sortA (candA M N) ↔ InM M N x := fun x => by rw [mem_sortA, mem_cand]
  have hl : (sortA (candA M N)).length ≤ 64 := Nat.le_trans (strict_len (S := S) hs fun x hx => by
    rcases List.mem_append.1 ((hin x).1 ((hm x).1 hx)).1 with h1 | h1
    · exact hD x h1
    · exact hE x h1) h.len
  rw [mergeF_uniq ca cb hs hm, if_neg (by omega)]
  exact ⟨rfl, hs, fun x => by rw [hm x, hin x]⟩
theorem IsMax.merge1 {S D M : List Ab} (h : Hist S) (hD : ∀ x ∈ D, x ∈ S) (m : IsMax D M) {x : Ab} (hx : x ∈ S) : (mergeF M [x]).2 = 0 ∧ IsMax (D ++ [x]) (mergeF M [x]).1 :=
  m.merge h hD (fun y hy => by rw [List.mem_singleton.1 hy]; exact hx) (.one h hx)
theorem IsMax.congr {D E M : List Ab} (m : IsMax D M) (e : ∀ x, x ∈ D ↔ x ∈ E) : IsMax E M := ⟨m.st, fun x => by
  rw [m.mem x, e x]
  exact ⟨fun ⟨h1, h2⟩ => ⟨h1, fun y hy => h2 y ((e y).2 hy)⟩, fun ⟨h1, h2⟩ => ⟨h1, fun y hy => h2 y ((e y).1 hy)⟩⟩⟩

/-- one more write: a fresh dot, and all that its past holds is known -/
theorem Hist.add {S M : List Ab} (h : Hist S) {s : Ab} (hl : S.length < 64) (hr : rightA s = true) (hf : ∀ x ∈ S, x.1 ≠ s.1) (hM : ∀ x ∈ M, x ∈ S) (hp : ∀ d, rightB d = true → (hasA s d = true ↔ ∃ x ∈ M, d = x.1 ∨ hasA x d = true)) : Hist (S ++ [s]) := by
  have hsr := rightA_ok hr
  have hno : ∀ x ∈ S, hasA x s.1 = false := fun x hx => by
    cases hc : hasA x s.1 with
    | false => rfl
    | true =>
      obtain ⟨y, hy, e⟩ := h.known x hx _ hc
      exact absurd e (hf y hy)
  have hrb : ∀ a d, hasA a d = true → rightB d = true := fun a d hc => by
    unfold hasA at hc
    simp only [Bool.and_eq_true] at hc
    exact hc.1.2
  refine ⟨by simp; omega, fun x hx => ?_, fun x hx y hy e => ?_, fun x hx y hy hxy d hd hyd => ?_, fun i j x y hi hj hxy => ?_, fun x hx d hxd => ?_⟩
  · rcases List.mem_append.1 hx with hx | hx
    · exact h.rt x hx
    · rw [List.mem_singleton.1 hx]; exact hr
  · rcases List.mem_append.1 hx with hx | hx <;> rcases List.mem_append.1 hy with hy | hy
    · exact h.dots x hx y hy e
    · rw [List.mem_singleton.1 hy] at e; exact absurd e (hf x hx)
    · rw [List.mem_singleton.1 hx] at e; exact absurd e.symm (hf y hy)
    · rw [List.mem_singleton.1 hx, List.mem_singleton.1 hy]
  · rcases List.mem_append.1 hx with hx | hx
    · rcases List.mem_append.1 hy with hy | hy
      · exact h.tr x hx y hy hxy d hd hyd
      · rw [List.mem_singleton.1 hy, hno x hx] at hxy; cases hxy
    · have ex := List.mem_singleton.1 hx
      subst ex
      rcases List.mem_append.1 hy with hy | hy
      · obtain ⟨e, he, h1⟩ := (hp _ (hrb _ _ hxy)).1 hxy
        refine (hp d hd).2 ⟨e, he, .inr ?_⟩
        rcases h1 with h1 | h1
        · rw [← h.dots y hy e (hM e he) h1]; exact hyd
        · exact h.tr e (hM e he) y hy h1 d hd hyd
      · rw [List.mem_singleton.1 hy, hsr.2.2.1] at hxy; cases hxy
  · rw [List.getElem?_append] at hi hj
    split at hj
    · split at hi
      · exact h.early i j x y hi hj hxy
      · omega
    · rename_i hjl
      have hjs : y = s := by
        have := (List.getElem?_eq_some_iff.1 hj).1
        simp at this
        rw [show j - S.length = 0 by omega] at hj
        simpa using hj.symm
      subst hjs
      split at hi
      · rw [hno x (List.mem_of_getElem? hi)] at hxy; cases hxy
      · have : x = y := by
          have := (List.getElem?_eq_some_iff.1 hi).1
          simp at this
          rw [show i - S.length = 0 by omega] at hi
          simpa using hi.symm
        subst this
        rw [hsr.2.2.1] at hxy; cases hxy
  · rcases List.mem_append.1 hx with hx | hx
    · obtain ⟨y, hy, e⟩ := h.known x hx d hxd
      exact ⟨y, List.mem_append_left _ hy, e⟩
    · rw [List.mem_singleton.1 hx] at hxd
      obtain ⟨y, hy, h1⟩ := (hp d (hrb _ _ hxd)).1 hxd
      rcases h1 with h1 | h1
      · exact ⟨y, List.mem_append_left _ (hM y hy), h1.symm⟩
      · obtain ⟨z, hz, e⟩ := h.known y (hM y hy) d h1
        exact ⟨z, List.mem_append_left _ hz, e⟩
end Go.Proofs.Ytkkjppeaaicgaaa
end

section
namespace Go.Proofs.Ytkkjppeaaicgaaa
open Go Go.Ck
set_option maxRecDepth 100000
set_option maxHeartbeats 1000000
set_option linter.unusedVariables false

/-- the sets of four places: each the writes of its own that none of them has seen; each write is somewhere -/
structure Places (S : List Ab) (zs : List (List Ab)) : Prop where
  len : zs.length = 4
  ds : ∃ D : Nat → List Ab, (∀ k, ∀ x ∈ D k, x ∈ S) ∧ (∀ (k : Nat) M, zs[k]? = some M → IsMax (D k) M) ∧ ∀ x ∈ S, ∃ k, k < 4 ∧ x ∈ D k
theorem Places.nil : Places [] [[], [], [], []] := ⟨rfl, fun _ => [], fun k x h => (by cases h), fun k M h => by
  have : M = [] := by
    have := List.mem_of_getElem? h
    simpa using this
  rw [this]
  exact IsMax.nil, fun x h => (by cases h)⟩
theorem Places.set {S : List Ab} {zs : List (List Ab)} (p : Places S zs) (h : Hist S) {k : Nat} {M : List Ab} (hk : zs[k]? = some M) : checkA M = 0 := by
  obtain ⟨D, h1, h2, _⟩ := p.ds
  exact (h2 k M hk).set h (h1 k)
theorem Places.sub {S : List Ab} {zs : List (List Ab)} (p : Places S zs) {k : Nat} {M : List Ab} (hk : zs[k]? = some M) : ∀ x ∈ M, x ∈ S := by
  obtain ⟨D, h1, h2, _⟩ := p.ds
  exact fun x hx => h1 k x ((h2 k M hk).sub hx)
theorem Places.take {S : List Ab} {zs : List (List Ab)} (p : Places S zs) (h : Hist S) {k o : Nat} {M N : List Ab} (hk : zs[k]? = some M) (ho : zs[o]? = some N) : (mergeF M N).2 = 0 ∧ Places S (zs.set k (mergeF M N).1) := by
  obtain ⟨hl, D, h1, h2, h3⟩ := p
  have hm := (h2 k M hk).merge h (h1 k) (h1 o) (h2 o N ho)
  refine ⟨hm.1, by rw [List.length_set]; exact hl, fun j => if j = k then D k ++ D o else D j, fun j x hx => ?_, fun j X hj => ?_, fun x hx => ?_⟩
  · dsimp only at hx
    split at hx
    · rcases List.mem_append.1 hx with hx | hx
      · exact h1 _ x hx
      · exact h1 _ x hx
    · exact h1 _ x hx
  · dsimp only
    rw [List.getElem?_set] at hj
    split at hj
    · rename_i e
      subst e
      rw [if_pos rfl]
      split at hj
      · rw [← Option.some.inj hj]
        exact hm.2
      · cases hj
    · rename_i e
      rw [if_neg (fun q => e q.symm)]
      exact h2 j X hj
  · obtain ⟨j, hj, hx⟩ := h3 x hx
    refine ⟨j, hj, ?_⟩
    dsimp only
    split
    · rename_i e
      rw [e] at hx
      exact List.mem_append_left _ hx
    · exact hx
theorem Places.write {S : List Ab} {zs : List (List Ab)} {s : Ab} (p : Places S zs) (h : Hist (S ++ [s])) {k : Nat} {M : List Ab} (hk : zs[k]? = some M) (hk4 : k < 4) : (mergeF M [s]).2 = 0 ∧ Places (S ++ [s]) (zs.set k (mergeF M [s]).1) := by
  obtain ⟨hl, D, h1, h2, h3⟩ := p
  have hm := (h2 k M hk).merge1 h (fun x hx => List.mem_append_left _ (h1 k x hx)) (x := s) (List.mem_append_right _ (List.mem_singleton.2 rfl))
  refine ⟨hm.1, by rw [List.length_set]; exact hl, fun j => if j = k then D k ++ [s] else D j, fun j x hx => ?_, fun j X hj => ?_, fun x hx => ?_⟩
  · dsimp only at hx
    split at hx
    · rcases List.mem_append.1 hx with hx | hx
      · exact List.mem_append_left _ (h1 _ x hx)
      · exact List.mem_append_right _ hx
    · exact List.mem_append_left _ (h1 _ x hx)
  · dsimp only
    rw [List.getElem?_set] at hj
    split at hj
    · rename_i e
      subst e
      rw [if_pos rfl]
      split at hj
      · rw [← Option.some.inj hj]
        exact hm.2
      · cases hj
    · rename_i e
      rw [if_neg (fun q => e q.symm)]
      exact h2 j X hj
  · rcases List.mem_append.1 hx with hx | hx
    · obtain ⟨j, hj, hx⟩ := h3 x hx
      refine ⟨j, hj, ?_⟩
      dsimp only
      split
      · rename_i e
        rw [e] at hx
        exact List.mem_append_left _ hx
      · exact hx
    · refine ⟨k, hk4, ?_⟩
      dsimp only
      rw [if_pos rfl]
      exact List.mem_append_right _ hx
/-- all of four places are all -/
theorem Places.four {S : List Ab} {zs : List (List Ab)} (p : Places S zs) (h : Hist S) : ∃ A B C E, zs = [A, B, C, E] ∧ ∃ a b c e, IsMax a A ∧ IsMax b B ∧ IsMax c C ∧ IsMax e E ∧ (∀ x ∈ a, x ∈ S) ∧ (∀ x ∈ b, x ∈ S) ∧ (∀ x ∈ c, x ∈ S) ∧ (∀ x ∈ e, x ∈ S) ∧ ∀ x ∈ S, x ∈ a ∨ x ∈ b ∨ x ∈ c ∨ x ∈ e := by
  obtain ⟨hl, D, h1, h2, h3⟩ := p
  match zs, hl with
  | [A, B, C, E], _ =>
    refine ⟨A, B, C, E, rfl, D 0, D 1, D 2, D 3, h2 0 A rfl, h2 1 B rfl, h2 2 C rfl, h2 3 E rfl, h1 0, h1 1, h1 2, h1 3, fun x hx => ?_⟩
    obtain ⟨k, hk, hx⟩ := h3 x hx
    match k, hk with
    | 0, _ => exact .inl hx
    | 1, _ => exact .inr (.inl hx)
    | 2, _ => exact .inr (.inr (.inl hx))
    | 3, _ => exact .inr (.inr (.inr hx))

/-- how far each client has counted -/
structure Nums (S : List Ab) (nx : List Int) (i : Nat) : Prop where
  len : nx.length = 5
  bd : ∀ j, j < 5 → 0 ≤ nx.getD j 0 ∧ nx.getD j 0 ≤ i
  of : ∀ x ∈ S, ∃ c : Nat, 1 ≤ c ∧ c ≤ 4 ∧ x.1.1 = c ∧ x.1.2 ≤ nx.getD c 0
theorem Nums.nil : Nums [] [0, 0, 0, 0, 0] 0 := ⟨rfl, fun j hj => by
  match j, hj with
  | 0, _ => decide
  | 1, _ => decide
  | 2, _ => decide
  | 3, _ => decide
  | 4, _ => decide, fun x hx => (by cases hx)⟩
theorem Nums.up {S : List Ab} {nx : List Int} {i : Nat} (h : Nums S nx i) : Nums S nx (i + 1) := ⟨h.len, fun j hj => by have := h.bd j hj; omega, h.of⟩
theorem nx_set {nx : List Int} {c j : Nat} {v : Int} (hc : c < nx.length) : (nx.set c v).getD j 0 = if j = c then v else nx.getD j 0 := by
  rw [List.getD_eq_getElem?_getD, List.getElem?_set]
  by_cases e : c = j
  · subst e
    rw [if_pos rfl, if_pos hc, if_pos rfl]
    rfl
  · rw [if_neg e, if_neg (fun q => e q.symm), ← List.getD_eq_getElem?_getD]
theorem Nums.bump {S : List Ab} {nx : List Int} {i c : Nat} (h : Nums S nx i) (h1 : 1 ≤ c) (h4 : c ≤ 4) : Nums S (nx.set c (nx.getD c 0 + 1)) (i + 1) ∧ ∀ x ∈ S, x.1 ≠ ((c : Int), nx.getD c 0 + 1) := by
  have hc : c < nx.length := by rw [h.len]; omega
  refine ⟨⟨by rw [List.length_set]; exact h.len, fun j hj => ?_, fun x hx => ?_⟩, fun x hx e => ?_⟩
  · rw [nx_set hc]
    split
    · have := h.bd c (by omega); omega
    · have := h.bd j hj; omega
  · obtain ⟨d, d1, d2, d3, d4⟩ := h.of x hx
    refine ⟨d, d1, d2, d3, ?_⟩
    rw [nx_set hc]
    split
    · rename_i e; subst e; omega
    · exact d4
  · obtain ⟨d, d1, d2, d3, d4⟩ := h.of x hx
    rw [e] at d3 d4
    dsimp only at d3 d4
    have : d = c := by omega
    subst this
    omega
theorem Nums.add {S : List Ab} {nx : List Int} {i c : Nat} {s : Ab} (h : Nums S nx i) (h1 : 1 ≤ c) (h4 : c ≤ 4) (e1 : s.1.1 = c) (e2 : s.1.2 ≤ nx.getD c 0) : Nums (S ++ [s]) nx i := ⟨h.len, h.bd, fun x hx => by
  rcases List.mem_append.1 hx with hx | hx
  · exact h.of x hx
  · rw [List.mem_singleton.1 hx]
    exact ⟨c, h1, h4, e1, e2⟩⟩

theorem zero_none {d : Dt} (hd : rightB d = true) : hasC zeroU [] d = false := by
  obtain ⟨_, _, h3, _⟩ := right_of hd
  have hz : uD zeroU d = 0 := by
    unfold uD zeroU
    rw [List.getD_eq_getElem?_getD, List.getElem?_replicate]
    split <;> rfl
  unfold hasC
  rw [hz]
  simp
  omega
/-- one more write -/
theorem Hist.write {S M : List Ab} (h : Hist S) {d : Dt} {u : List Int} {m : List Dt} {b : List Int} (hl : S.length < 64) (hr : rightB d = true) (hf : ∀ x ∈ S, x.1 ≠ d) (hM : ∀ x ∈ M, x ∈ S) (hi : Inv u m) (hm : m.length ≤ 32) (hb : b.length ≤ 16384) (hs : ∀ x, rightB x = true → hasC u m x = seenA M x) : Hist (S ++ [(d, u, m, b)]) := by
  have ck : checkC u m = 0 := check_inv hi hm
  have hA : ∀ x, rightB x = true → hasA (d, u, m, b) x = hasC u m x := fun x hx => by
    show (decide (checkC u m = 0) && rightB x && hasC u m x) = _
    rw [ck, hx]
    rfl
  have hAM : ∀ x ∈ M, ∀ y, rightB y = true → hasA x y = hasC x.2.1 x.2.2.1 y := fun x hx y hy => by
    have hc := (rightA_ok (h.rt x (hM x hx))).2.1
    show (decide (checkC x.2.1 x.2.2.1 = 0) && rightB y && hasC x.2.1 x.2.2.1 y) = _
    rw [hc, hy]
    rfl
  have hsee : ∀ y, rightB y = true → (seenA M y = true ↔ ∃ x ∈ M, y = x.1 ∨ hasA x y = true) := fun y hy => by
    unfold seenA
    rw [List.any_eq_true]
    constructor
    · rintro ⟨x, hx, hq⟩
      refine ⟨x, hx, ?_⟩
      rw [hAM x hx y hy]
      simpa using hq
    · rintro ⟨x, hx, hq⟩
      refine ⟨x, hx, ?_⟩
      rw [hAM x hx y hy] at hq
      simpa using hq
  have hself : hasC u m d = false := by
    cases hc : hasC u m d with
    | false => rfl
    | true =>
      exfalso
      rw [hs d hr] at hc
      obtain ⟨x, hx, hq⟩ := (hsee d hr).1 hc
      rcases hq with hq | hq
      · exact hf x (hM x hx) hq.symm
      · obtain ⟨y, hy, e⟩ := h.known x (hM x hx) d hq
        exact hf y hy e
  refine h.add (M := M) hl ?_ hf hM fun y hy => ?_
  · unfold rightA
    show (rightB d && (decide (checkC u m = 0) && (!hasA (d, u, m, b) d && decide ((b.length : Int) ≤ 16384)))) = true
    rw [hA d hr, hself, hr, ck]
    simp
    omega
  · rw [hA y hy, hs y hy]
    exact hsee y hy
theorem u64_low (m : Int) : 0 ≤ IntKind.u64.wrap m := by
  simp only [IntKind.wrap, IntKind.bits, IntKind.signed]
  simp
  omega
theorem wrap_mod (n : Int) (m : Nat) (hm : 0 < m) (hm2 : m ≤ 1000) : ∃ r : Nat, IntKind.i64.wrap ((IntKind.u64.wrap n).tmod (m : Int)) = (r : Int) ∧ r < m := by
  have h1 := u64_low n
  rw [Int.tmod_eq_emod_of_nonneg h1]
  generalize IntKind.u64.wrap n = x at h1
  have h2 : 0 ≤ x % (m : Int) := Int.emod_nonneg _ (by omega)
  have h3 : x % (m : Int) < m := Int.emod_lt_of_pos _ (by omega)
  refine ⟨(x % (m : Int)).toNat, ?_, by omega⟩
  generalize x % (m : Int) = y at h2 h3
  simp only [IntKind.wrap, IntKind.bits, IntKind.signed]
  simp
  omega
end Go.Proofs.Ytkkjppeaaicgaaa
end

section
namespace Go.Proofs.Ytkkjppeaaicgaaa
open Go Go.Ck
set_option maxRecDepth 100000
set_option maxHeartbeats 1000000
set_option linter.unusedVariables false

/-- whether the one at i is kept -/
def keepR (L : List Ab) (i : Nat) (x : Ab) : Prop := ∀ (k : Nat) y, L[k]? = some y → hasA y x.1 = false ∧ (i ≤ k ∨ y.1 ≠ x.1)
/-- as far as k -/
def keepK (L : List Ab) (i : Nat) (x : Ab) (k : Nat) : Prop := ∀ (j : Nat) y, j < k → L[j]? = some y → hasA y x.1 = false ∧ (i ≤ j ∨ y.1 ≠ x.1)
theorem keepK_zero {L : List Ab} {i : Nat} {x : Ab} : keepK L i x 0 := fun j y h => by omega
theorem keepK_all {L : List Ab} {i : Nat} {x : Ab} : keepK L i x L.length ↔ keepR L i x :=
  ⟨fun h k y hk => h k y (List.getElem?_eq_some_iff.1 hk).1 hk, fun h j y _ hj => h j y hj⟩
theorem keepK_succ {L : List Ab} {i k : Nat} {x y : Ab} (hk : L[k]? = some y) : keepK L i x (k + 1) ↔ keepK L i x k ∧ hasA y x.1 = false ∧ (i ≤ k ∨ y.1 ≠ x.1) := by
  constructor
  · exact fun h => ⟨fun j z hj hz => h j z (by omega) hz, h k y (by omega) hk⟩
  · rintro ⟨h1, h2⟩ j z hj hz
    by_cases e : j = k
    · subst e
      rw [hk] at hz
      cases hz
      exact h2
    · exact h1 j z (by omega) hz
theorem keepK_out {L : List Ab} {i k : Nat} {x : Ab} (h : ¬ keepK L i x k) (hk : k ≤ L.length) : ¬ keepR L i x := fun hr => h fun j y _ hj => hr j y hj
theorem keep_iff {A B : List Ab} (ca : StrictA A) (cb : StrictA B) {x : Ab} : (∃ j, (A ++ B)[j]? = some x ∧ keepR (A ++ B) j x) ↔ InM A B x := by
  unfold InM
  rw [free_iff]
  constructor
  · rintro ⟨j, hj, hk⟩
    have hf : ∀ y ∈ A ++ B, hasA y x.1 = false := fun y hy => by
      obtain ⟨i, hi, rfl⟩ := List.mem_iff_getElem.1 hy
      exact (hk i _ (List.getElem?_eq_getElem hi)).1
    refine ⟨?_, fun y hy => hf y (List.mem_append_left _ hy), fun y hy => hf y (List.mem_append_right _ hy)⟩
    by_cases hA : j < A.length
    · rw [List.getElem?_append_left hA] at hj
      exact .inl (List.mem_of_getElem? hj)
    · right
      rw [List.getElem?_append_right (by omega)] at hj
      refine ⟨List.mem_of_getElem? hj, fun y hy => ?_⟩
      obtain ⟨i, hi, rfl⟩ := List.mem_iff_getElem.1 hy
      rcases (hk i A[i] (by rw [List.getElem?_append_left hi, List.getElem?_eq_getElem hi])).2 with h | h
      · omega
      · exact h
  · rintro ⟨hx, hA, hB⟩
    have hf : ∀ (k : Nat) y, (A ++ B)[k]? = some y → hasA y x.1 = false := fun k y hy => by
      rcases List.mem_append.1 (List.mem_of_getElem? hy) with h | h
      · exact hA y h
      · exact hB y h
    rcases hx with hx | ⟨hx, hne⟩
    · obtain ⟨i, hi, rfl⟩ := List.mem_iff_getElem.1 hx
      refine ⟨i, by rw [List.getElem?_append_left hi, List.getElem?_eq_getElem hi], fun k y hy => ⟨hf k y hy, ?_⟩⟩
      by_cases hik : i ≤ k
      · exact .inl hik
      · right
        rw [List.getElem?_append_left (by omega), List.getElem?_eq_getElem (by omega)] at hy
        rw [← Option.some.inj hy]
        exact ord_ne (List.pairwise_iff_getElem.1 ca k i (by omega) hi (by omega))
    · obtain ⟨i, hi, rfl⟩ := List.mem_iff_getElem.1 hx
      refine ⟨A.length + i, by rw [List.getElem?_append_right (by omega), Nat.add_sub_cancel_left, List.getElem?_eq_getElem hi], fun k y hy => ⟨hf k y hy, ?_⟩⟩
      by_cases hik : A.length + i ≤ k
      · exact .inl hik
      · right
        by_cases hk : k < A.length
        · rw [List.getElem?_append_left hk] at hy
          exact hne y (List.mem_of_getElem? hy)
        · rw [List.getElem?_append_right (by omega), List.getElem?_eq_getElem (by omega)] at hy
          rw [← Option.some.inj hy]
          exact ord_ne (List.pairwise_iff_getElem.1 cb (k - A.length) i (by omega) hi (by omega))
/-- what the first i come to -/
structure OutR (L : List Ab) (i : Nat) (O : List Ab) : Prop where
  st : StrictA O
  mem : ∀ x, x ∈ O ↔ ∃ j, j < i ∧ L[j]? = some x ∧ keepR L j x
theorem OutR.zero {L : List Ab} : OutR L 0 [] := ⟨List.Pairwise.nil, fun x => by simp⟩
theorem OutR.skip {L O : List Ab} {i : Nat} {x : Ab} (h : OutR L i O) (hx : L[i]? = some x) (hk : ¬ keepR L i x) : OutR L (i + 1) O := ⟨h.st, fun z => by
  rw [h.mem z]
  constructor
  · rintro ⟨j, h1, h2⟩
    exact ⟨j, by omega, h2⟩
  · rintro ⟨j, h1, h2, h3⟩
    by_cases e : j = i
    · subst e
      rw [hx] at h2
      cases h2
      exact absurd h3 hk
    · exact ⟨j, by omega, h2, h3⟩⟩
theorem OutR.ne {L O : List Ab} {i : Nat} {x : Ab} (h : OutR L i O) (hx : L[i]? = some x) (hk : keepR L i x) : ∀ y ∈ O, y.1 ≠ x.1 := fun y hy => by
  obtain ⟨j, h1, h2, _⟩ := (h.mem y).1 hy
  rcases (hk j y h2).2 with h3 | h3
  · omega
  · exact h3
theorem OutR.add {L O O' : List Ab} {i : Nat} {x : Ab} (h : OutR L i O) (hx : L[i]? = some x) (hk : keepR L i x) (hs : StrictA O') (hm : ∀ z, z ∈ O' ↔ z = x ∨ z ∈ O) : OutR L (i + 1) O' := ⟨hs, fun z => by
  rw [hm z, h.mem z]
  constructor
  · rintro (rfl | ⟨j, h1, h2⟩)
    · exact ⟨i, by omega, hx, hk⟩
    · exact ⟨j, by omega, h2⟩
  · rintro ⟨j, h1, h2, h3⟩
    by_cases e : j = i
    · subst e
      rw [hx] at h2
      cases h2
      exact .inl rfl
    · exact .inr ⟨j, by omega, h2, h3⟩⟩
theorem OutR.done {A B O : List Ab} (h : OutR (A ++ B) (A ++ B).length O) (ca : checkA A = 0) (cb : checkA B = 0) : mergeF A B = if 64 < O.length then ([], 5) else (O, 0) :=
  mergeF_uniq ca cb h.st fun x => by
    rw [h.mem x, ← keep_iff (checkA_strict ca) (checkA_strict cb)]
    exact ⟨fun ⟨j, _, h2⟩ => ⟨j, h2⟩, fun ⟨j, h2, h3⟩ => ⟨j, (List.getElem?_eq_some_iff.1 h2).1, h2, h3⟩⟩

/-- x put in at k -/
def insS (M : List Sb) (k : Nat) (x : Sb) : List Sb := M.take k ++ x :: M.drop k
theorem insS_len {M : List Sb} {k : Nat} {x : Sb} : (insS M k x).length = M.length + 1 := by
  simp [insS]; omega
theorem insS_all {M : List Sb} {x : Sb} : insS M M.length x = M ++ [x] := by simp [insS]
theorem insS_mem {M : List Sb} {k : Nat} {x z : Sb} : z ∈ insS M k x ↔ z = x ∨ z ∈ M := by
  unfold insS
  rw [List.mem_append, List.mem_cons]
  constructor
  · rintro (h | h | h)
    · exact .inr (List.mem_of_mem_take h)
    · exact .inl h
    · exact .inr (List.mem_of_mem_drop h)
  · rintro (h | h)
    · exact .inr (.inl h)
    · rw [← List.take_append_drop k M, List.mem_append] at h
      rcases h with h | h
      · exact .inl h
      · exact .inr (.inr h)
theorem insS_at {M : List Sb} {k j : Nat} {x : Sb} (hj : j < k) (hk : k ≤ M.length) : (insS M k x)[j]? = some (M[j]'(by omega)) := by
  unfold insS
  rw [List.getElem?_append_left (by simp; omega), List.getElem?_take, if_pos hj, List.getElem?_eq_getElem]
theorem insS_set {M : List Sb} {k : Nat} {x : Sb} (h0 : 0 < k) (hk : k ≤ M.length) : ((insS M k x).set k (M[k - 1]'(by omega))).set (k - 1) x = insS M (k - 1) x := by
  have e1 : M.take k = M.take (k - 1) ++ [M[k - 1]'(by omega)] := by
    have := List.take_succ_eq_append_getElem (l := M) (i := k - 1) (by omega)
    rwa [show k - 1 + 1 = k by omega] at this
  have e2 : M.drop (k - 1) = M[k - 1]'(by omega) :: M.drop k := by
    have := List.drop_eq_getElem_cons (l := M) (i := k - 1) (by omega)
    rwa [show k - 1 + 1 = k by omega] at this
  have l1 : (M.take (k - 1)).length = k - 1 := by simp; omega
  unfold insS
  rw [e1, e2, List.append_assoc, List.set_append_right _ _ (by omega), l1, show k - (k - 1) = 1 by omega]
  rw [List.set_append_right _ _ (by omega), l1, Nat.sub_self]
  rfl
theorem insS_strict {M : List Sb} {k : Nat} {x : Sb} (hs : StrictA (M.map Sb.a)) (hk : k ≤ M.length) (hd : ∀ e ∈ M.drop k, ordD x.d e.d < 0) (hl : ∀ (h0 : 0 < k), ordD (M[k - 1]'(by omega)).d x.d < 0) : StrictA ((insS M k x).map Sb.a) := by
  unfold StrictA at hs ⊢
  rw [List.pairwise_map] at hs ⊢
  unfold insS
  rw [← List.take_append_drop k M, List.pairwise_append] at hs
  obtain ⟨q1, q2, q3⟩ := hs
  refine List.pairwise_append.2 ⟨q1, List.pairwise_cons.2 ⟨hd, q2⟩, fun e he z hz => ?_⟩
  rcases List.mem_cons.1 hz with rfl | hz
  · obtain ⟨i, hi, rfl⟩ := List.getElem_of_mem he
    have hik : i < k := by simp at hi; omega
    rw [List.getElem_take]
    have hl' := hl (by omega)
    by_cases hc : i = k - 1
    · subst hc; exact hl'
    · have := List.pairwise_iff_getElem.1 q1 i (k - 1) hi (by simp; omega) (by omega)
      rw [List.getElem_take, List.getElem_take] at this
      exact ord_tr this hl'
  · exact q3 e he z hz
end Go.Proofs.Ytkkjppeaaicgaaa
end
