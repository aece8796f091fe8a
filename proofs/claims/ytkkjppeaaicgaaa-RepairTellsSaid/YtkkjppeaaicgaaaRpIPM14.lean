/-
  Part 14 of a proof: SbT SbW SbX SbY CkPer.
  Conditions: each theorem states its own.
-/
import Derived.Test.YtkkjppeaaicgaaaRpIPM13
section
namespace Go.Proofs.Ytkkjppeaaicgaaa
open Go Go.Ck
set_option maxRecDepth 100000
set_option maxHeartbeats 4000000
set_option linter.unusedVariables false

theorem ddk_all {l : List Sb} (hd : (l.map Sb.d).Nodup) : ∀ k, k ≤ l.length → ddk l k = l.take k
  | 0, _ => rfl
  | k + 1, hk => by
    obtain ⟨x, hx⟩ : ∃ x, l[k]? = some x := ⟨_, List.getElem?_eq_getElem (by omega)⟩
    have htk : l.take (k + 1) = l.take k ++ [x] := by
      obtain ⟨h, rfl⟩ := List.getElem?_eq_some_iff.1 hx
      exact List.take_succ_eq_append_getElem h
    by_cases h0 : k = 0
    · subst h0
      rw [ddk_one hx, htk]; rfl
    · obtain ⟨y, hy⟩ : ∃ y, l[k - 1]? = some y := ⟨_, List.getElem?_eq_getElem (by omega)⟩
      have hne : x.d ≠ y.d := fun e => by
        have h1 : (l.map Sb.d)[k]? = some x.d := by rw [List.getElem?_map, hx]; rfl
        have h2 : (l.map Sb.d)[k - 1]? = some x.d := by rw [List.getElem?_map, hy, e]; rfl
        obtain ⟨q1, e1⟩ := List.getElem?_eq_some_iff.1 h1
        obtain ⟨q2, e2⟩ := List.getElem?_eq_some_iff.1 h2
        exact List.pairwise_iff_getElem.1 hd (k - 1) k q2 q1 (by omega) (by rw [e1, e2])
      rw [ddk_succ hx hy h0, if_neg hne, ddk_all hd k (by omega), htk]
theorem merge_distinct {a b : List Sb} {M : List Ab} {e : Int} (h : MergeR a b M e) (ca : checkA (a.map Sb.a) = 0) (cb : checkA (b.map Sb.a) = 0) (hd : ((a ++ b).map Sb.d).Nodup) :
    ∃ R, R.Perm ((a ++ b).filter fun x => freeS (a.map Sb.a) (b.map Sb.a) x.a) ∧ SortS R ∧ (if 64 < R.length then e = 5 ∧ M = [] else e = 0 ∧ M = R.map Sb.a) := by
  unfold MergeR at h
  rw [if_neg (by rw [ca]; decide), if_neg (by rw [cb]; decide)] at h
  obtain ⟨R, kR, sR, hR⟩ := h
  have hp := kR.perm
  have hdR : (R.map Sb.d).Nodup := (hp.map Sb.d).nodup_iff.1 hd
  rw [ddk_all hdR _ (Nat.le_refl _), List.take_length] at hR
  exact ⟨_, (hp.symm.filter _), sR.sublist (List.filter_sublist ..), hR⟩
theorem perm_one {α : Type} {l : List α} {x : α} (h : l.Perm [x]) : l = [x] := List.perm_singleton.1 h
theorem sort_two {x y : Sb} {l : List Sb} (h : l.Perm [x, y]) (hs : SortS l) (hxy : ordD x.d y.d < 0) : l = [x, y] := by
  match l, h.length_eq with
  | [p, q], _ =>
    have hm := h.mem_iff (a := p)
    have hp : p = x ∨ p = y := by
      have := (h.mem_iff (a := p)).1 (by simp)
      simpa using this
    have hs2 : ordD p.d q.d ≤ 0 := by
      have := List.pairwise_cons.1 hs
      exact this.1 q (by simp)
    rcases hp with rfl | rfl
    · have : [q].Perm [y] := by simpa using h
      rw [perm_one this]
    · have h2 : [p, q].Perm [p, x] := h.trans (List.Perm.swap _ _ _)
      have : [q].Perm [x] := by simpa using h2
      have hq := perm_one this
      simp only [List.cons.injEq, and_true] at hq
      subst hq
      rw [ord_le] at hs2
      exact absurd hxy hs2
/-- a sibling of a zero past and no body -/
def s0 (d : Dt) : Sb := ⟨d, zeroU, rfl, [], .slice none 0 0, [], .slice none 0 0⟩
theorem s0_ok (h : View) (d : Dt) : Sv h (s0 d) := ⟨Sc.nil h 2 none 0, Sc.nil h 1 none 0, fun b hb => by cases hb⟩

theorem map_one {M : List Sb} {x : Ab} (h : M.map Sb.a = [x]) : ∃ m, M = [m] ∧ m.a = x := by
  match M, h with
  | [m], h => exact ⟨m, rfl, by simpa using h⟩
theorem map_two {M : List Sb} {x y : Ab} (h : M.map Sb.a = [x, y]) : ∃ m n, M = [m, n] ∧ m.a = x ∧ n.a = y := by
  match M, h with
  | [m, n], h =>
    simp only [List.map_cons, List.map_nil, List.cons.injEq, and_true] at h
    exact ⟨m, n, rfl, h.1, h.2⟩
theorem fits_small {l : List Sb} (h1 : l.length ≤ 40000) (h : ∀ x ∈ l, x.l.length ≤ 1000000 ∧ x.b.length ≤ 1000000) : Fits l := ⟨h1, h⟩
/-- one that is right is a set alone -/
theorem check_single {a : Ab} (h : rightA a = true) : checkA [a] = 0 := by
  obtain ⟨_, _, h3, _⟩ := rightA_ok h
  unfold checkA
  rw [if_neg (show ¬ 64 < [a].length by simp), if_neg, if_neg]
  · simp [h3]
  · have : badAt [a] 0 = false := by
      unfold badAt
      simp [h]
    simp [this]

theorem sets1 (v : Value) (a : List Sb) (y : Sb) (M : List Sb) (e : Int) (hm : MergeR a [y] (M.map Sb.a) e) (ca : checkA (a.map Sb.a) = 0) (cy : checkA [y.a] = 0) (hd : ((a ++ [y]).map Sb.d).Nodup) (G : List Sb) (hG : ((a ++ [y]).filter fun x => freeS (a.map Sb.a) [y.a] x.a) = G) (hl : G.length ≤ 64) :
    ∃ R, R.Perm G ∧ SortS R ∧ e = 0 ∧ M.map Sb.a = R.map Sb.a := by
  obtain ⟨R, h1, h2, h3⟩ := merge_distinct hm ca (by simpa using cy) hd
  have hG' : ((a ++ [y]).filter fun x => freeS (a.map Sb.a) ([y].map Sb.a) x.a) = G := hG
  rw [hG'] at h1
  rw [if_neg (by rw [h1.length_eq]; omega)] at h3
  exact ⟨R, h1, h2, h3⟩

theorem fill3b {d : Dt} {u : List Int} {mv : Value} (hu : u.length = 16) : fillL (fun i : Nat => ([(0, 2), (2, 17), (19, 1)] : List (Nat × Nat))[i]?) ([.int .i64 0, .int .i64 0] ++ (up zeroU ++ [.slice none 0 0, .slice none 0 0])) [(0, .agg (dcs d).toArray), (1, .agg (cxc u mv).toArray)] = some (dcs d ++ (cxc u mv ++ [.slice none 0 0])) := by
  obtain ⟨a0, a1, a2, a3, a4, a5, a6, a7, a8, a9, a10, a11, a12, a13, a14, a15, rfl⟩ := list16 u hu
  rfl
theorem sets_sp (h : View) (w : World) (s : St ⟨w, h, []⟩ h [] w) :
    Calls Try.prog 11 [].toArray w fun e w' => e = .returned (.bool true) ∧ St ⟨w, h, []⟩ h [] w' := by
  refine calls_enter Try.func11 rfl Try.ntmps11 rfl s ?_
  repeat' (first | refine tw_ ?_ | (refine ta_ ?_; intro _) | ((fail_if_success (refine ybi rfl ?_)); refine ybj rfl ?_ ?_ <;> (intro ht; rw [ht]; first | replace ht := of_decide_eq_true ht | replace ht := of_decide_eq_false ht | skip)) | (refine ych ?_; first | (refine ybw rfl ?_ ?_ <;> intro ht) | (refine ybx rfl ?_ ?_ <;> intro ht)))
  have n0 : Ss h (.slice none 0 0) [] := ⟨Sc.nil h 20 none 0, fun x hx => by cases hx⟩
  (refine yco (ycp Try.func15 rfl (by kernel_rfl) rfl) (put_sp (.slice none 0 0) [] (s0 (1, 1)) h n0 (s0_ok h _) ⟨by simp, fun x hx => by cases hx⟩ (by decide)) rfl rfl rfl ?_ ?_ ?_; (· (exact to_)); (· intro _ _ hle; (exact to_)); intro x px hle)
  obtain ⟨h1, v1, M1, e1⟩ := x
  obtain ⟨S1, R1⟩ := px
  dsimp only at S1 R1
  obtain ⟨T1, q1, q2, q3, q4⟩ := sets1 v1 [] (s0 (1, 1)) M1 e1 R1 (by kernel_rfl) (by kernel_rfl) (by decide) [s0 (1, 1)] (by kernel_rfl) (by decide)
  rw [perm_one q1] at q4
  subst q3
  obtain ⟨m1, rfl, hm1⟩ := map_one q4
  clear q1 q2 q4 R1 hle
  repeat' (first | refine tw_ ?_ | (refine ta_ ?_; intro _) | ((fail_if_success (refine ybi rfl ?_)); refine ybj rfl ?_ ?_ <;> (intro ht; rw [ht]; first | replace ht := of_decide_eq_true ht | replace ht := of_decide_eq_false ht | skip)) | (refine ych ?_; first | (refine ybw rfl ?_ ?_ <;> intro ht) | (refine ybx rfl ?_ ?_ <;> intro ht)))
  have d1 : m1.d = (1, 1) := congrArg (·.1) hm1
  (refine yco (ycp Try.func15 rfl (by kernel_rfl) rfl) (put_sp v1 [m1] (s0 (2, 1)) h1 S1 (s0_ok h1 _) ⟨by simp, fun x hx => by rw [List.mem_singleton.1 hx]; exact ⟨by rw [show m1.l = [] from congrArg (·.2.2.1) hm1]; decide, by rw [show m1.b = [] from congrArg (·.2.2.2) hm1]; decide⟩⟩ (by decide)) rfl rfl rfl ?_ ?_ ?_; (· (exact to_)); (· intro _ _ hle; (exact to_)); intro x px hle)
  obtain ⟨h2, v2, M2, e2⟩ := x
  obtain ⟨S2, R2⟩ := px
  dsimp only at S2 R2
  have c1 : checkA ([m1].map Sb.a) = 0 := by show checkA [m1.a] = 0; rw [hm1]; kernel_rfl
  have nd1 : (([m1] ++ [s0 (2, 1)]).map Sb.d).Nodup := by show [m1.d, (2, 1)].Nodup; rw [d1]; decide
  have g1 : (([m1] ++ [s0 (2, 1)]).filter fun x => freeS ([m1].map Sb.a) [(s0 (2, 1)).a] x.a) = [m1, s0 (2, 1)] := by
    show List.filter (fun x => freeS [m1.a] [(s0 (2, 1)).a] x.a) [m1, s0 (2, 1)] = _
    rw [List.filter_cons_of_pos (by show freeS [m1.a] [(s0 (2, 1)).a] m1.a = true; rw [hm1]; kernel_rfl), List.filter_cons_of_pos (by show freeS [m1.a] [(s0 (2, 1)).a] (s0 (2, 1)).a = true; rw [hm1]; kernel_rfl)]
    rfl
  obtain ⟨T2, q1, q2, q3, q4⟩ := sets1 v1 [m1] (s0 (2, 1)) M2 e2 R2 c1 (by kernel_rfl) nd1 _ g1 (by show 2 ≤ 64; decide)
  rw [sort_two q1 q2 (by show ordD m1.d (2, 1) < 0; rw [d1]; decide)] at q4
  subst q3
  obtain ⟨m2, n2, rfl, hm2, hn2⟩ := map_two q4
  rw [hm1] at hm2
  clear q1 q2 q4 R2 hle g1 nd1 c1
  obtain ⟨_, ad2, cap2, hv2, _, _⟩ := id S2.1
  subst hv2
  have c2 : checkA ([m2, n2].map Sb.a) = 0 := by show checkA [m2.a, n2.a] = 0; rw [hm2, hn2]; kernel_rfl
  have f2 : Fits [m2, n2] := ⟨by simp, fun x hx => by
    rcases List.mem_cons.1 hx with rfl | hx
    · exact ⟨by rw [show x.l = [] from congrArg (·.2.2.1) hm2]; decide, by rw [show x.b = [] from congrArg (·.2.2.2) hm2]; decide⟩
    · rw [List.mem_singleton.1 hx]; exact ⟨by rw [show n2.l = [] from congrArg (·.2.2.1) hn2]; decide, by rw [show n2.b = [] from congrArg (·.2.2.2) hn2]; decide⟩⟩
  repeat' (first | refine tw_ ?_ | (refine ta_ ?_; intro _) | ((fail_if_success (refine ybi rfl ?_)); refine ybj rfl ?_ ?_ <;> (intro ht; rw [ht]; first | replace ht := of_decide_eq_true ht | replace ht := of_decide_eq_false ht | skip)) | (refine ych ?_; first | (refine ybw rfl ?_ ?_ <;> intro ht) | (refine ybx rfl ?_ ?_ <;> intro ht)))
  (refine yco (ycp Try.func13 rfl (by kernel_rfl) rfl) (sseen_sp _ [m2, n2] h2 S2 f2) rfl rfl rfl ?_ ?_ ?_; (· (exact to_)); (· intro _ _ hle; (exact to_)); intro x px hle)
  obtain ⟨h3, v3, u, m, e3⟩ := x
  obtain ⟨C3, R3⟩ := px
  dsimp only at C3 R3
  unfold SeenR at R3
  rw [if_neg (by rw [c2]; decide)] at R3
  rcases R3 with ⟨_, _, _, r4⟩ | ⟨r1, r2, r3, r4⟩
  · exfalso
    have : ([m2, n2].map Sb.a).flatMap (fun s => s.1 :: s.2.2.1) = [(1, 1), (2, 1)] := by
      show [m2.a, n2.a].flatMap _ = _
      rw [hm2, hn2]; rfl
    rw [this] at r4
    exact absurd r4 (by decide)
  subst r1
  obtain ⟨hu, mv, hv3, s3⟩ := id C3
  subst hv3
  obtain ⟨_, ad3, cap3, hmv, _, _⟩ := id s3
  subst hmv
  have hle3 : Le h2 h3 := hle
  clear hle
  obtain ⟨y, hy⟩ : ∃ y : Sb, y = ⟨(1, 2), u, hu, m, .slice ad3 m.length cap3, [], .slice none 0 0⟩ := ⟨_, rfl⟩
  have hfy : fillL (fun i : Nat => ([(0, 2), (2, 17), (19, 1)] : List (Nat × Nat))[i]?) ([.int .i64 0, .int .i64 0] ++ (up zeroU ++ [.slice none 0 0, .slice none 0 0])) [(0, .agg (dcs (1, 2)).toArray), (1, .agg (cxc u (.slice ad3 m.length cap3)).toArray)] = some (sbc y) := by
    rw [hy]; exact fill3b hu
  have hyv : Sv h3 y := by rw [hy]; exact ⟨s3, Sc.nil h3 1 none 0, fun b hb => by cases hb⟩
  repeat' (first | (refine ycf ?_; apply ybk; (· first | (first | (apply yad; (· rfl); (· exact yaz 0 rfl); (· exact ycj hu)) | (apply yax (cs := sbc y); (· rfl); (· exact hfy)))); (· rfl); (· rfl)) | (refine ybg 0 rfl rfl rfl (cxc_sz hu) (cxc_fit hu) (cxc_one rfl) (ybh (cxc_all hu)) rfl rfl ?_ ?_ ?_; (· (exact to_)); (· (exact to_))) | refine t1_ ?_ | (refine ta_ ?_; intro _) | ((fail_if_success (refine ybi rfl ?_)); refine ybj rfl ?_ ?_ <;> (intro ht; rw [ht]; first | replace ht := of_decide_eq_true ht | replace ht := of_decide_eq_false ht | skip)) | (refine ych ?_; first | (refine ybw rfl ?_ ?_ <;> intro ht) | (refine ybx rfl ?_ ?_ <;> intro ht)))
  have ey : y.a = ((1, 2), u, m, []) := by rw [hy]; rfl
  have ck : checkC u m = 0 := check_inv r2 r3
  have sn : ∀ d, rightB d = true → hasC u m d = seenA [((1, 1), zeroU, [], []), ((2, 1), zeroU, [], [])] d := fun d hd => by
    rw [r4 d hd]
    show seenA [m2.a, n2.a] d = _
    rw [hm2, hn2]
    rfl
  have hA : ∀ d, rightB d = true → hasA y.a d = seenA [((1, 1), zeroU, [], []), ((2, 1), zeroU, [], [])] d := fun d hd => by
    rw [ey]
    show (decide (checkC u m = 0) && rightB d && hasC u m d) = _
    rw [ck, hd, sn d hd]
    rfl
  have ry : rightA y.a = true := by
    unfold rightA
    have e1 : hasA y.a y.a.1 = false := by
      rw [show y.a.1 = (1, 2) by rw [ey], hA (1, 2) (by decide)]
      kernel_rfl
    rw [e1, ey]
    show (rightB (1, 2) && (decide (checkC u m = 0) && (!false && decide ((([] : List Int).length : Int) ≤ 16384)))) = true
    rw [ck]
    rfl
  have dm2 : m2.d = (1, 1) := congrArg (·.1) hm2
  have dn2 : n2.d = (2, 1) := congrArg (·.1) hn2
  have dy : y.d = (1, 2) := by rw [hy]
  have nd2 : (([m2, n2] ++ [y]).map Sb.d).Nodup := by show [m2.d, n2.d, y.d].Nodup; rw [dm2, dn2, dy]; decide
  have fr : ∀ x : Ab, freeS [m2.a, n2.a] [y.a] x = (!(hasA m2.a x.1 || hasA n2.a x.1) && !(hasA y.a x.1)) := fun x => by
    unfold freeS
    simp
  have g2 : (([m2, n2] ++ [y]).filter fun x => freeS ([m2, n2].map Sb.a) [y.a] x.a) = [y] := by
    show List.filter (fun x => freeS [m2.a, n2.a] [y.a] x.a) [m2, n2, y] = _
    rw [List.filter_cons_of_neg (by show ¬ freeS [m2.a, n2.a] [y.a] m2.a = true; rw [fr, show m2.a.1 = (1, 1) from dm2, hA (1, 1) (by decide), show seenA [((1, 1), zeroU, [], []), ((2, 1), zeroU, [], [])] (1, 1) = true by kernel_rfl]; simp),
      List.filter_cons_of_neg (by show ¬ freeS [m2.a, n2.a] [y.a] n2.a = true; rw [fr, show n2.a.1 = (2, 1) from dn2, hA (2, 1) (by decide), show seenA [((1, 1), zeroU, [], []), ((2, 1), zeroU, [], [])] (2, 1) = true by kernel_rfl]; simp),
      List.filter_cons_of_pos (by show freeS [m2.a, n2.a] [y.a] y.a = true; rw [fr, show y.a.1 = (1, 2) from dy, hA (1, 2) (by decide), hm2, hn2]; kernel_rfl)]
    rfl
  have ly : y.l.length ≤ 1000000 ∧ y.b.length ≤ 1000000 := by rw [hy]; exact ⟨by show m.length ≤ _; omega, Nat.zero_le _⟩
  have S3 : Ss h3 (.slice ad2 [m2, n2].length cap2) [m2, n2] := S2.mono hle3
  (refine yco (ycp Try.func15 rfl (by kernel_rfl) rfl) (put_sp _ [m2, n2] y h3 S3 hyv f2 ly) rfl rfl rfl ?_ ?_ ?_; (· (exact to_)); (· intro _ _ hle; (exact to_)); intro x px hle)
  obtain ⟨h4, v4, M4, e4⟩ := x
  obtain ⟨S4, R4⟩ := px
  dsimp only at S4 R4
  obtain ⟨T4, q1, q2, q3, q4⟩ := sets1 v4 [m2, n2] y M4 e4 R4 c2 (check_single ry) nd2 _ g2 (by show 1 ≤ 64; decide)
  rw [perm_one q1] at q4
  subst q3
  obtain ⟨m4, rfl, hm4⟩ := map_one q4
  have dm4 : m4.d = (1, 2) := by rw [show m4.d = y.d from congrArg (·.1) hm4, dy]
  obtain ⟨_, ad4, cap4, hv4, _, _⟩ := id S4.1
  subst hv4
  obtain ⟨b4, o4, hb4⟩ := S4.1.ad (by show 0 < 1; decide) (by decide)
  subst hb4
  have hel : ∀ L, Cells h4 L ⟨b4, o4 + 0 * 20, none⟩ (sbc m4) := fun L => S4.1.elem sbc_len 0 (by show 0 < 1; decide)
  have e42 : m4.d.2 = 2 := by rw [dm4]
  have l4 : [m4].length = 1 := rfl
  have l2 : [m2, n2].length = 2 := rfl
  repeat' (first | (refine ycf ?_; apply ybk; (· first | (exact tk_) | (apply yae; (· rfl); (· (exact sb_nu (hel _))))); (· rfl); (· rfl)) | (refine ybg 0 rfl rfl rfl (cxc_sz hu) (cxc_fit hu) (cxc_one rfl) (ybh (cxc_all hu)) rfl rfl ?_ ?_ ?_; (· (exact to_)); (· (exact to_))) | refine t1_ ?_ | (refine ta_ ?_; intro _) | ((fail_if_success (refine ybi rfl ?_)); refine ybj rfl ?_ ?_ <;> (intro ht; rw [ht]; first | replace ht := of_decide_eq_true ht | replace ht := of_decide_eq_false ht | skip)) | (refine ych ?_; first | (refine ybw rfl ?_ ?_ <;> intro ht) | (refine ybx rfl ?_ ?_ <;> intro ht)))
  exact nx_ret1 rfl (rv_tmp rfl) (fun w' s' => ⟨rfl, s'.nil.base⟩)
end Go.Proofs.Ytkkjppeaaicgaaa
end

section
namespace Go.Proofs.Ytkkjppeaaicgaaa
open Go Go.Ck
set_option maxRecDepth 100000
set_option maxHeartbeats 1000000
set_option linter.unusedVariables false

/-- dots that rise -/
def StrictA (l : List Ab) : Prop := l.Pairwise fun x y => ordD x.1 y.1 < 0
theorem ord_anti {x y : Dt} (h1 : ordD x y < 0) (h2 : ordD y x < 0) : False := by rw [ord_iff] at h1 h2; omega
theorem ord_ne {x y : Dt} (h1 : ordD x y < 0) : x ≠ y := fun e => by rw [e] at h1; exact ord_self _ h1
theorem ord_lt_of {x y : Dt} (h1 : ordD x y ≤ 0) (h2 : x ≠ y) : ordD x y < 0 := by
  rw [ord_le, ord_iff] at h1
  rw [ord_iff]
  obtain ⟨x1, x2⟩ := x
  obtain ⟨y1, y2⟩ := y
  simp only [ne_eq, Prod.mk.injEq] at h1 h2 ⊢
  omega
theorem ord_tr {x y z : Dt} (h1 : ordD x y < 0) (h2 : ordD y z < 0) : ordD x z < 0 := by
  rw [ord_iff] at h1 h2 ⊢
  omega
theorem strict_nodup {l : List Ab} (h : StrictA l) : l.Nodup := by
  show List.Pairwise _ _
  exact List.Pairwise.imp (fun {a b} hab => by intro e; exact ord_ne hab (congrArg (·.1) e)) h
theorem strict_ext {l m : List Ab} (hl : StrictA l) (hm : StrictA m) (h : ∀ x, x ∈ l ↔ x ∈ m) : l = m :=
  List.Perm.eq_of_pairwise (le := fun x y : Ab => ordD x.1 y.1 < 0) (fun a b _ _ h1 h2 => (ord_anti h1 h2).elim) hl hm ((List.perm_ext_iff_of_nodup (strict_nodup hl) (strict_nodup hm)).2 h)
theorem strict_one {l : List Ab} (h : StrictA l) {x y : Ab} (hx : x ∈ l) (hy : y ∈ l) (e : x.1 = y.1) : x = y := by
  obtain ⟨i, hi, rfl⟩ := List.mem_iff_getElem.1 hx
  obtain ⟨j, hj, rfl⟩ := List.mem_iff_getElem.1 hy
  have hp := List.pairwise_iff_getElem.1 h
  rcases Nat.lt_trichotomy i j with h1 | h1 | h1
  · exact absurd e (ord_ne (hp i j hi hj h1))
  · subst h1; rfl
  · exact absurd e.symm (ord_ne (hp j i hj hi h1))
theorem strict_of_step {l : List Ab} (h : ∀ i x y, l[i]? = some x → l[i + 1]? = some y → ordD x.1 y.1 < 0) : StrictA l := by
  induction l with
  | nil => exact List.Pairwise.nil
  | cons x l ih =>
    have ih := ih (fun i a b ha hb => h (i + 1) a b (by simpa using ha) (by simpa using hb))
    refine List.pairwise_cons.2 ⟨fun y hy => ?_, ih⟩
    cases l with
    | nil => cases hy
    | cons z l =>
      have h1 := h 0 x z (by simp) (by simp)
      rcases List.mem_cons.1 hy with rfl | hy
      · exact h1
      · exact ord_tr h1 ((List.pairwise_cons.1 ih).1 y hy)
theorem checkA_strict {L : List Ab} (h : checkA L = 0) : StrictA L := strict_of_step (checkA_ok h).2.2.1
theorem checkA_mk {L : List Ab} (h1 : L.length ≤ 64) (h2 : ∀ x ∈ L, rightA x = true) (h3 : StrictA L) (h4 : ∀ x ∈ L, ∀ y ∈ L, hasA y x.1 = false) : checkA L = 0 := by
  unfold checkA
  rw [if_neg (by omega), if_neg, if_neg]
  · intro h
    obtain ⟨x, hx, h⟩ := List.any_eq_true.1 h
    obtain ⟨y, hy, h⟩ := List.any_eq_true.1 h
    rw [h4 x hx y hy] at h
    cases h
  · rw [bad_no]
    · decide
    · intro j hj
      unfold badAt
      have e1 : L[j]? = some L[j] := List.getElem?_eq_getElem hj
      rw [e1]
      have e2 : (some L[j]).any rightA = true := by simpa using h2 _ (List.getElem_mem hj)
      rw [e2]
      by_cases h0 : 0 < j
      · have e3 : L[j - 1]? = some L[j - 1] := List.getElem?_eq_getElem (by omega)
        rw [e3]
        have := List.pairwise_iff_getElem.1 h3 (j - 1) j (by omega) hj (by omega)
        have e4 : ¬ 0 ≤ ordD L[j - 1].1 L[j].1 := by omega
        simp [h0, e4]
      · simp [h0]

theorem last_le {l : List Sb} (hs : SortS l) {k : Nat} {y : Sb} (hy : l[k]? = some y) : ∀ x ∈ l.take (k + 1), ordD x.d y.d ≤ 0 := fun x hx => by
  obtain ⟨i, hi, rfl⟩ := List.mem_iff_getElem.1 hx
  obtain ⟨hk, rfl⟩ := List.getElem?_eq_some_iff.1 hy
  rw [List.getElem_take]
  simp only [List.length_take] at hi
  by_cases e : i = k
  · subst e
    rw [ord_le]
    exact ord_self _
  · exact List.pairwise_iff_getElem.1 hs i k (by omega) hk (by omega)
/-- the first of each dot -/
theorem ddk_spec {l : List Sb} (hs : SortS l) : ∀ k, k ≤ l.length → ((ddk l k).Pairwise fun x y => ordD x.d y.d < 0) ∧ ∀ x, x ∈ ddk l k ↔ ((l.take k).filter fun y => decide (y.d = x.d)).head? = some x
  | 0, _ => ⟨List.Pairwise.nil, fun x => by simp [ddk_zero]⟩
  | k + 1, hk => by
    obtain ⟨ih1, ih2⟩ := ddk_spec hs k (by omega)
    obtain ⟨z, hz⟩ : ∃ z, l[k]? = some z := ⟨_, List.getElem?_eq_getElem (by omega)⟩
    have htk : l.take (k + 1) = l.take k ++ [z] := by
      obtain ⟨h, rfl⟩ := List.getElem?_eq_some_iff.1 hz
      exact List.take_succ_eq_append_getElem h
    have hle := last_le hs hz
    rw [htk] at hle
    have hsub : ∀ x ∈ ddk l k, x ∈ l.take k := fun x hx => (List.mem_filter.1 (List.mem_of_mem_head? (Option.mem_def.2 ((ih2 x).1 hx)))).1
    have hnew : (∀ y ∈ l.take k, y.d ≠ z.d) → ((ddk l k ++ [z]).Pairwise fun x y => ordD x.d y.d < 0) ∧ ∀ x, x ∈ ddk l k ++ [z] ↔ ((l.take (k + 1)).filter fun y => decide (y.d = x.d)).head? = some x := fun hne => by
      refine ⟨List.pairwise_append.2 ⟨ih1, List.pairwise_singleton .., fun x hx y hy => ?_⟩, fun x => ?_⟩
      · rw [List.mem_singleton.1 hy]
        exact ord_lt_of (hle x (List.mem_append_left _ (hsub x hx))) (hne x (hsub x hx))
      · rw [htk, List.filter_append, List.mem_append, List.mem_singleton]
        by_cases e : z.d = x.d
        · have e0 : (l.take k).filter (fun y => decide (y.d = x.d)) = [] := List.filter_eq_nil_iff.2 fun y hy => by simpa [← e] using hne y hy
          have e1 : x ∉ ddk l k := fun hx => by
            have := (ih2 x).1 hx
            rw [e0] at this
            cases this
          rw [e0]
          simp only [e1, false_or, List.nil_append]
          rw [List.filter_cons_of_pos (by simp [e])]
          simp only [List.filter_nil, List.head?_cons, Option.some.injEq]
          exact eq_comm
        · have e1 : x ≠ z := fun h => e (by rw [h])
          rw [List.filter_cons_of_neg (by simpa using e)]
          simp only [List.filter_nil, List.append_nil, e1, or_false]
          exact ih2 x
    by_cases h0 : k = 0
    · subst h0
      have := hnew (fun y hy => by simp at hy)
      rw [ddk_zero, List.nil_append] at this
      rw [ddk_one hz]
      exact this
    · obtain ⟨y, hy⟩ : ∃ y, l[k - 1]? = some y := ⟨_, List.getElem?_eq_getElem (by omega)⟩
      have hyk : y ∈ l.take k := by
        refine List.mem_of_getElem? (i := k - 1) ?_
        rw [List.getElem?_take, if_pos (by omega), hy]
      rw [ddk_succ hz hy h0]
      by_cases e : z.d = y.d
      · rw [if_pos e, List.append_nil]
        refine ⟨ih1, fun x => ?_⟩
        rw [ih2 x, htk, List.filter_append]
        by_cases e2 : z.d = x.d
        · obtain ⟨q, t, eq⟩ : ∃ q t, (l.take k).filter (fun y => decide (y.d = x.d)) = q :: t := by
            have hm : y ∈ (l.take k).filter (fun y => decide (y.d = x.d)) := List.mem_filter.2 ⟨hyk, by simp [← e2, e]⟩
            cases hq : (l.take k).filter (fun y => decide (y.d = x.d)) with
            | nil => rw [hq] at hm; cases hm
            | cons q t => exact ⟨q, t, rfl⟩
          rw [eq]
          rfl
        · rw [List.filter_cons_of_neg (by simpa using e2)]
          simp
      · rw [if_neg e]
        refine hnew fun x hx e2 => ?_
        have h1 := hle x (List.mem_append_left _ hx)
        have h2 : ordD x.d y.d ≤ 0 := last_le hs hy x (by rw [show k - 1 + 1 = k by omega]; exact hx)
        have h3 : ordD y.d z.d ≤ 0 := hle y (List.mem_append_left _ hyk)
        rw [e2] at h2
        have h4 := ord_lt_of h3 (fun h => e h.symm)
        have h5 := ord_lt_of h2 e
        exact ord_anti h4 h5

/-- of a row of rising dots, those of one dot -/
theorem only_one {l : List Sb} (hn : StrictA (l.map Sb.a)) {x : Sb} (hx : x ∈ l) : l.filter (fun y => decide (y.d = x.d)) = [x] := by
  induction l with
  | nil => cases hx
  | cons y l ih =>
    have h1 := List.pairwise_cons.1 hn
    rcases List.mem_cons.1 hx with rfl | hx
    · rw [List.filter_cons_of_pos (by simp)]
      congr 1
      exact List.filter_eq_nil_iff.2 fun z hz => by
        have h2 : ¬ z.d = x.d := fun e => ord_ne (h1.1 z.a (List.mem_map_of_mem hz)) e.symm
        simpa using h2
    · have : ¬ y.d = x.d := ord_ne (h1.1 x.a (List.mem_map_of_mem hx))
      rw [List.filter_cons_of_neg (by simpa using this)]
      exact ih h1.2 hx

/-- those of both that nobody has seen, of each dot the first's -/
def InM (A B : List Ab) (x : Ab) : Prop := (x ∈ A ∨ (x ∈ B ∧ ∀ y ∈ A, y.1 ≠ x.1)) ∧ freeS A B x = true
theorem merge_law {a b : List Sb} {M : List Ab} {e : Int} (h : MergeR a b M e) (ca : checkA (a.map Sb.a) = 0) (cb : checkA (b.map Sb.a) = 0) :
    ∃ L : List Ab, StrictA L ∧ (∀ x, x ∈ L ↔ InM (a.map Sb.a) (b.map Sb.a) x) ∧ (if 64 < L.length then e = 5 ∧ M = [] else e = 0 ∧ M = L) := by
  unfold MergeR at h
  rw [if_neg (by rw [ca]; decide), if_neg (by rw [cb]; decide)] at h
  obtain ⟨R, kR, sR, hR⟩ := h
  obtain ⟨s1, s2⟩ := ddk_spec sR R.length (Nat.le_refl _)
  rw [List.take_length] at s2
  have sa := checkA_strict ca
  have sb := checkA_strict cb
  refine ⟨((ddk R R.length).filter fun x => freeS (a.map Sb.a) (b.map Sb.a) x.a).map Sb.a, ?_, fun x => ?_, by rw [List.length_map]; exact hR⟩
  · show List.Pairwise _ _
    rw [List.pairwise_map]
    exact (s1.filter _).imp (fun h => h)
  · have hmem : ∀ s : Sb, s ∈ ddk R R.length ↔ (a.filter (fun y => decide (y.d = s.d)) ++ b.filter fun y => decide (y.d = s.d)).head? = some s := fun s => by
      rw [s2 s, ← kR s.d, List.filter_append]
    rw [List.mem_map]
    constructor
    · rintro ⟨s, hs, rfl⟩
      obtain ⟨h1, h2⟩ := List.mem_filter.1 hs
      refine ⟨?_, h2⟩
      rw [hmem] at h1
      cases hq : a.filter (fun y => decide (y.d = s.d)) with
      | nil =>
        rw [hq] at h1
        right
        have hb : s ∈ b := (List.mem_filter.1 (List.mem_of_mem_head? (Option.mem_def.2 h1))).1
        refine ⟨List.mem_map_of_mem hb, fun y hy => ?_⟩
        obtain ⟨t, ht, rfl⟩ := List.mem_map.1 hy
        have := List.filter_eq_nil_iff.1 hq t ht
        intro e
        exact this (decide_eq_true (show t.d = s.d from e))
      | cons q t =>
        rw [hq] at h1
        have e : q = s := by simpa using h1
        left
        have hm : s ∈ a.filter (fun y => decide (y.d = s.d)) := by rw [hq, e]; exact List.mem_cons_self ..
        exact List.mem_map_of_mem (List.mem_filter.1 hm).1
    · rintro ⟨h1, h2⟩
      rcases h1 with h1 | ⟨h1, h3⟩
      · obtain ⟨s, hs, rfl⟩ := List.mem_map.1 h1
        refine ⟨s, List.mem_filter.2 ⟨?_, h2⟩, rfl⟩
        rw [hmem, only_one sa hs]
        rfl
      · obtain ⟨s, hs, rfl⟩ := List.mem_map.1 h1
        refine ⟨s, List.mem_filter.2 ⟨?_, h2⟩, rfl⟩
        rw [hmem, only_one sb hs, List.filter_eq_nil_iff.2 fun t ht => by have h4 : ¬ t.d = s.d := h3 t.a (List.mem_map_of_mem ht); simpa using h4]
        rfl
theorem free_iff {A B : List Ab} {x : Ab} : freeS A B x = true ↔ (∀ y ∈ A, hasA y x.1 = false) ∧ ∀ y ∈ B, hasA y x.1 = false := by
  unfold freeS
  simp only [Bool.and_eq_true, Bool.not_eq_true', List.any_eq_false, Bool.not_eq_true]
theorem merge_nil {a b : List Sb} {M : List Ab} {e : Int} (h : MergeR a b M e) (ha : a = []) (cb : checkA (b.map Sb.a) = 0) : e = 0 ∧ M = b.map Sb.a := by
  subst ha
  obtain ⟨L, h1, h2, h3⟩ := merge_law h (by kernel_rfl) cb
  obtain ⟨c1, c2, c3, c4⟩ := checkA_ok cb
  have e1 : L = b.map Sb.a := strict_ext h1 (checkA_strict cb) fun x => by
    rw [h2 x]
    unfold InM
    rw [free_iff]
    constructor
    · rintro ⟨h | h, _⟩
      · cases h
      · exact h.1
    · intro h
      exact ⟨.inr ⟨h, fun y hy => (by cases hy)⟩, fun y hy => (by cases hy), fun y hy => c4 x h y hy⟩
  rw [e1, if_neg (by omega)] at h3
  exact h3
theorem merge_self {a b : List Sb} {M : List Ab} {e : Int} (h : MergeR a b M e) (hab : a.map Sb.a = b.map Sb.a) (ca : checkA (a.map Sb.a) = 0) : e = 0 ∧ M = a.map Sb.a := by
  obtain ⟨L, h1, h2, h3⟩ := merge_law h ca (hab ▸ ca)
  rw [← hab] at h2
  obtain ⟨c1, c2, c3, c4⟩ := checkA_ok ca
  have e1 : L = a.map Sb.a := strict_ext h1 (checkA_strict ca) fun x => by
    rw [h2 x]
    unfold InM
    rw [free_iff]
    constructor
    · rintro ⟨h | h, _⟩
      · exact h
      · exact h.1
    · intro h
      exact ⟨.inl h, fun y hy => c4 x h y hy, fun y hy => c4 x h y hy⟩
  rw [e1, if_neg (by omega)] at h3
  exact h3
/-- what is merged is a set -/
theorem merge_set {a b : List Sb} {M : List Ab} (h : MergeR a b M 0) : checkA (a.map Sb.a) = 0 ∧ checkA (b.map Sb.a) = 0 ∧ checkA M = 0 := by
  by_cases ca : checkA (a.map Sb.a) = 0
  · by_cases cb : checkA (b.map Sb.a) = 0
    · refine ⟨ca, cb, ?_⟩
      obtain ⟨L, h1, h2, h3⟩ := merge_law h ca cb
      split at h3
      · exact absurd h3.1 (by decide)
      · rename_i hl
        rw [h3.2]
        refine checkA_mk (by omega) (fun x hx => ?_) h1 fun x hx y hy => ?_
        · rcases ((h2 x).1 hx).1 with h | h
          · exact (checkA_ok ca).2.1 x h
          · exact (checkA_ok cb).2.1 x h.1
        · have hf := free_iff.1 ((h2 x).1 hx).2
          rcases ((h2 y).1 hy).1 with h | h
          · exact hf.1 y h
          · exact hf.2 y h.1
    · unfold MergeR at h
      rw [if_neg (by rw [ca]; decide), if_pos cb] at h
      exact absurd h.1.symm cb
  · unfold MergeR at h
    rw [if_pos ca] at h
    exact absurd h.1.symm ca
theorem merge_err {a b : List Sb} {M : List Ab} {e : Int} (h : MergeR a b M e) (he : e ≠ 0) : M = [] := by
  unfold MergeR at h
  split at h
  · exact h.2
  split at h
  · exact h.2
  obtain ⟨R, _, _, h⟩ := h
  split at h
  · exact h.2
  · exact absurd h.1 he
end Go.Proofs.Ytkkjppeaaicgaaa
end

section
namespace Go.Proofs.Ytkkjppeaaicgaaa
open Go Go.Ck
set_option maxRecDepth 100000
set_option maxHeartbeats 1000000
set_option linter.unusedVariables false

def insA (x : Ab) : List Ab → List Ab
  | [] => [x]
  | y :: l => if ordD x.1 y.1 < 0 then x :: y :: l else y :: insA x l
def sortA (l : List Ab) : List Ab := l.foldr insA []
theorem mem_insA {x z : Ab} : ∀ {l : List Ab}, z ∈ insA x l ↔ z = x ∨ z ∈ l
  | [] => by simp [insA]
  | y :: l => by
    unfold insA
    split
    · simp
    · rw [List.mem_cons, mem_insA, List.mem_cons]
      constructor <;> (rintro (h | h | h) <;> simp [h])
theorem strict_insA {x : Ab} : ∀ {l : List Ab}, StrictA l → (∀ y ∈ l, y.1 ≠ x.1) → StrictA (insA x l)
  | [], _, _ => List.pairwise_singleton ..
  | y :: l, h, hn => by
    have h1 := List.pairwise_cons.1 h
    unfold insA
    split
    · rename_i hxy
      refine List.pairwise_cons.2 ⟨fun z hz => ?_, h⟩
      rcases List.mem_cons.1 hz with rfl | hz
      · exact hxy
      · exact ord_tr hxy (h1.1 z hz)
    · rename_i hxy
      have hyx : ordD y.1 x.1 < 0 := ord_lt_of (ord_le.2 hxy) (hn y (List.mem_cons_self ..))
      refine List.pairwise_cons.2 ⟨fun z hz => ?_, strict_insA h1.2 (fun z hz => hn z (List.mem_cons_of_mem _ hz))⟩
      rcases mem_insA.1 hz with rfl | hz
      · exact hyx
      · exact h1.1 z hz
theorem mem_sortA {z : Ab} : ∀ {l : List Ab}, z ∈ sortA l ↔ z ∈ l
  | [] => Iff.rfl
  | y :: l => by
    show z ∈ insA y (sortA l) ↔ _
    rw [mem_insA, mem_sortA, List.mem_cons]
theorem strict_sortA : ∀ {l : List Ab}, (l.map (·.1)).Nodup → StrictA (sortA l)
  | [], _ => List.Pairwise.nil
  | y :: l, h => by
    have h1 := List.nodup_cons.1 h
    refine strict_insA (strict_sortA h1.2) fun z hz e => h1.1 ?_
    have hm := List.mem_map_of_mem (f := fun x : Ab => x.1) (mem_sortA.1 hz)
    show y.1 ∈ l.map fun x : Ab => x.1
    rw [← e]
    exact hm
theorem strict_dots {l : List Ab} (h : StrictA l) : (l.map (·.1)).Nodup := by
  show List.Pairwise _ _
  rw [List.pairwise_map]
  exact List.Pairwise.imp (fun {a b} hab => ord_ne hab) h

def candA (A B : List Ab) : List Ab := (A ++ B.filter fun x => !(A.any fun y => decide (y.1 = x.1))).filter (freeS A B)
theorem mem_cand {A B : List Ab} {x : Ab} : x ∈ candA A B ↔ InM A B x := by
  unfold candA InM
  rw [List.mem_filter, List.mem_append, List.mem_filter]
  simp
theorem cand_dots {A B : List Ab} (ha : StrictA A) (hb : StrictA B) : ((candA A B).map (·.1)).Nodup := by
  unfold candA
  refine List.Nodup.sublist (List.Sublist.map _ List.filter_sublist) ?_
  rw [List.map_append, List.nodup_append]
  refine ⟨strict_dots ha, List.Nodup.sublist (List.Sublist.map _ List.filter_sublist) (strict_dots hb), fun x hx y hy e => ?_⟩
  obtain ⟨a, ha', rfl⟩ := List.mem_map.1 hx
  obtain ⟨b, hb', rfl⟩ := List.mem_map.1 hy
  have := (List.mem_filter.1 hb').2
  simp only [Bool.not_eq_true', List.any_eq_false, decide_eq_true_eq] at this
  exact this a ha' e
def mergeF (A B : List Ab) : List Ab × Int :=
  if checkA A ≠ 0 then ([], checkA A) else if checkA B ≠ 0 then ([], checkA B) else if 64 < (sortA (candA A B)).length then ([], 5) else (sortA (candA A B), 0)
theorem mergeF_uniq {A B L : List Ab} (ca : checkA A = 0) (cb : checkA B = 0) (h1 : StrictA L) (h2 : ∀ x, x ∈ L ↔ InM A B x) : mergeF A B = if 64 < L.length then ([], 5) else (L, 0) := by
  have e : sortA (candA A B) = L := strict_ext (strict_sortA (cand_dots (checkA_strict ca) (checkA_strict cb))) h1 fun x => by rw [mem_sortA, mem_cand, h2 x]
  unfold mergeF
  rw [if_neg (by rw [ca]; decide), if_neg (by rw [cb]; decide), e]
theorem merge_fun {a b : List Sb} {M : List Ab} {e : Int} (h : MergeR a b M e) : mergeF (a.map Sb.a) (b.map Sb.a) = (M, e) := by
  by_cases ca : checkA (a.map Sb.a) = 0
  · by_cases cb : checkA (b.map Sb.a) = 0
    · obtain ⟨L, h1, h2, h3⟩ := merge_law h ca cb
      rw [mergeF_uniq ca cb h1 h2]
      split
      · rename_i hl
        rw [if_pos hl] at h3
        rw [h3.1, h3.2]
      · rename_i hl
        rw [if_neg hl] at h3
        rw [h3.1, h3.2]
    · unfold MergeR at h
      rw [if_neg (by rw [ca]; decide), if_pos cb] at h
      unfold mergeF
      rw [if_neg (by rw [ca]; decide), if_pos cb, h.1, h.2]
  · unfold MergeR at h
    rw [if_pos ca] at h
    unfold mergeF
    rw [if_pos ca, h.1, h.2]
theorem mergeF_mem {A B : List Ab} (h : (mergeF A B).2 = 0) : checkA A = 0 ∧ checkA B = 0 ∧ StrictA (mergeF A B).1 ∧ ∀ x, x ∈ (mergeF A B).1 ↔ InM A B x := by
  unfold mergeF at h ⊢
  by_cases ca : checkA A = 0
  · rw [if_neg (by rw [ca]; decide)] at h ⊢
    by_cases cb : checkA B = 0
    · rw [if_neg (by rw [cb]; decide)] at h ⊢
      split at h
      · exact absurd h (by decide)
      · rename_i hl
        rw [if_neg hl]
        exact ⟨ca, cb, strict_sortA (cand_dots (checkA_strict ca) (checkA_strict cb)), fun x => by show x ∈ sortA _ ↔ _; rw [mem_sortA, mem_cand]⟩
    · rw [if_pos cb] at h
      exact absurd h cb
  · rw [if_pos ca] at h
    exact absurd h ca
theorem mergeF_set {A B : List Ab} (h : (mergeF A B).2 = 0) : checkA (mergeF A B).1 = 0 := by
  obtain ⟨ca, cb, h1, h2⟩ := mergeF_mem h
  have hl : (mergeF A B).1.length ≤ 64 := by
    unfold mergeF at h ⊢
    rw [if_neg (by rw [ca]; decide), if_neg (by rw [cb]; decide)] at h ⊢
    split at h
    · exact absurd h (by decide)
    · rename_i hl
      rw [if_neg hl]
      show (sortA _).length ≤ 64
      omega
  refine checkA_mk hl (fun x hx => ?_) h1 fun x hx y hy => ?_
  · rcases ((h2 x).1 hx).1 with h | h
    · exact (checkA_ok ca).2.1 x h
    · exact (checkA_ok cb).2.1 x h.1
  · have hf := free_iff.1 ((h2 x).1 hx).2
    rcases ((h2 y).1 hy).1 with h | h
    · exact hf.1 y h
    · exact hf.2 y h.1
theorem mergeF_nil {B : List Ab} (cb : checkA B = 0) : mergeF [] B = (B, 0) := by
  obtain ⟨c1, c2, c3, c4⟩ := checkA_ok cb
  rw [mergeF_uniq (by kernel_rfl) cb (checkA_strict cb) (fun x => ?_), if_neg (by omega)]
  unfold InM
  rw [free_iff]
  exact ⟨fun h => ⟨.inr ⟨h, fun y hy => (by cases hy)⟩, fun y hy => (by cases hy), fun y hy => c4 x h y hy⟩, fun h => h.1.elim (fun h => by cases h) (·.1)⟩
theorem mergeF_self {A : List Ab} (ca : checkA A = 0) : mergeF A A = (A, 0) := by
  obtain ⟨c1, c2, c3, c4⟩ := checkA_ok ca
  rw [mergeF_uniq ca ca (checkA_strict ca) (fun x => ?_), if_neg (by omega)]
  unfold InM
  rw [free_iff]
  exact ⟨fun h => ⟨.inl h, fun y hy => c4 x h y hy, fun y hy => c4 x h y hy⟩, fun h => h.1.elim id (·.1)⟩
/-- what all come to -/
def wholeF : List Ab → List (List Ab) → List Ab × Int
  | o, [] => (o, 0)
  | o, B :: r => if (mergeF o B).2 = 0 then wholeF (mergeF o B).1 r else ([], (mergeF o B).2)
theorem wholeF_set : ∀ {r : List (List Ab)} {o : List Ab}, checkA o = 0 → (wholeF o r).2 = 0 → checkA (wholeF o r).1 = 0
  | [], o, h, _ => h
  | B :: r, o, h, he => by
    unfold wholeF at he ⊢
    split at he
    · rename_i hm
      rw [if_pos hm]
      exact wholeF_set (mergeF_set hm) he
    · rename_i hm
      exact absurd he hm
/-- all alike: that -/
theorem wholeF_like {W : List Ab} (cw : checkA W = 0) : ∀ {r : List (List Ab)}, (∀ B ∈ r, B = W) → wholeF W r = (W, 0)
  | [], _ => rfl
  | B :: r, h => by
    have hB := h B (List.mem_cons_self ..)
    subst hB
    unfold wholeF
    rw [mergeF_self cw]
    exact wholeF_like cw fun C hC => h C (List.mem_cons_of_mem _ hC)
theorem wholeF_all {W : List Ab} (cw : checkA W = 0) {r : List (List Ab)} (h : ∀ B ∈ r, B = W) (h0 : r = [] → W = []) : wholeF [] r = (W, 0) := by
  cases r with
  | nil => rw [h0 rfl]; rfl
  | cons B r =>
    have hB := h B (List.mem_cons_self ..)
    subst hB
    unfold wholeF
    rw [mergeF_nil cw]
    exact wholeF_like cw fun C hC => h C (List.mem_cons_of_mem _ hC)
theorem wholeF_err : ∀ {r : List (List Ab)} {o : List Ab}, (wholeF o r).2 ≠ 0 → (wholeF o r).1 = []
  | [], o, h => absurd rfl h
  | B :: r, o, h => by
    unfold wholeF at h ⊢
    split at h
    · rename_i hm
      rw [if_pos hm]
      exact wholeF_err h
    · rename_i hm
      rw [if_neg hm]

theorem smergeF_sp (va vb : Value) (a b : List Sb) (h : View) (ha : Ss h va a) (hb : Ss h vb b) (fa : Fits a) (fb : Fits b) (w : World) (s : St ⟨w, h, []⟩ h [] w) :
    Calls Try.prog 26 [va, vb].toArray w fun e w' => ∃ z : View × Value × List Sb, e = .returned (.tuple #[z.2.1, .int .i64 (mergeF (a.map Sb.a) (b.map Sb.a)).2]) ∧ St ⟨w, h, []⟩ z.1 [] w' ∧ Ss z.1 z.2.1 z.2.2 ∧ z.2.2.map Sb.a = (mergeF (a.map Sb.a) (b.map Sb.a)).1 :=
  (smerge_sp va vb a b h ha hb fa fb w s).mono fun e w' ⟨z, h1, h2, h3, h4⟩ => ⟨(z.1, z.2.1, z.2.2.1), by rw [merge_fun h4]; exact h1, h2, h3, by rw [merge_fun h4]⟩
end Go.Proofs.Ytkkjppeaaicgaaa
end

section
namespace Go.Proofs.Ytkkjppeaaicgaaa
open Go Go.Ck
set_option maxRecDepth 100000
set_option maxHeartbeats 2000000
set_option linter.unusedVariables false

theorem bstr_list (l : List Int) : (bstr l).toList = l.map fun n => UInt8.ofNat n.toNat := by
  rw [ByteArray.toList_eq]
  simp [bstr]
theorem bstr_eq {a b : List Int} (ha : Bytes a) (hb : Bytes b) : ((bstr a).toList == (bstr b).toList) = decide (a = b) := by
  rw [bstr_list, bstr_list]
  rw [Bool.eq_iff_iff, decide_eq_true_iff, beq_iff_eq]
  refine ⟨fun h => ?_, fun h => by rw [h]⟩
  have h1 := congrArg (List.map fun x : UInt8 => (x.toNat : Int)) h
  have h2 : ∀ l : List Int, Bytes l → List.map (fun x : UInt8 => (x.toNat : Int)) (l.map fun n => UInt8.ofNat n.toNat) = l := fun l hl => by
    rw [List.map_map]
    have : l.map ((fun x : UInt8 => (x.toNat : Int)) ∘ fun n : Int => UInt8.ofNat n.toNat) = l.map id := List.map_congr_left fun x hx => by
      have := hl x hx
      simp
      omega
    rw [this, List.map_id]
  rwa [h2 a ha, h2 b hb] at h1
theorem bytesEqual_sp (va vb : Value) (a b : List Int) (h : View) (ha : Bs8 h va a) (hb : Bs8 h vb b) (ya : Bytes a) (yb : Bytes b) (w : World) (s : St ⟨w, h, []⟩ h [] w) :
    Calls Try.prog 46 [va, vb].toArray w fun e w' => e = .returned (.bool (decide (a = b))) ∧ St ⟨w, h, []⟩ h [] w' := by
  have he := bstr_eq ya yb
  refine calls_enter Try.func46 rfl Try.ntmps46 rfl s ?_
  repeat' (first | (refine ycf ?_; apply ybk; (· first | (first | exact qv_str_bs rfl ha | exact qv_str_bs rfl hb | exact qv_eql_str rfl rfl he)); (· rfl); (· rfl)) | refine t1_ ?_ | (refine ta_ ?_; intro _) | ((fail_if_success (refine ybi rfl ?_)); refine ybj rfl ?_ ?_ <;> (intro ht; rw [ht]; first | replace ht := of_decide_eq_true ht | replace ht := of_decide_eq_false ht | skip)) | (refine ych ?_; first | (refine ybw rfl ?_ ?_ <;> intro ht) | (refine ybx rfl ?_ ?_ <;> intro ht)))
  exact nx_ret1 rfl (rv_tmp rfl) (fun w' s' => ⟨rfl, s'.nil⟩)

theorem same1_sp (x y : Sb) (h : View) (hx : Sv h x) (hy : Sv h y) (lx : x.l.length ≤ 4611686018427387904) (ly : y.l.length ≤ 4611686018427387904) (w : World) (s : St ⟨w, h, []⟩ h [] w) :
    Calls Try.prog 44 [sbv x, sbv y].toArray w fun e w' => e = .returned (.bool (decide (x.a = y.a))) ∧ St ⟨w, h, []⟩ h [] w' := by
  obtain ⟨_, ax, cx, hbx, _, _⟩ := id hx.bs
  obtain ⟨_, ay, cy, hby, _, _⟩ := id hy.bs
  have SM := Same_sp (cxv x.u x.mv) (cxv y.u y.mv) x.u y.u x.l y.l h ⟨x.hu, _, rfl, hx.ds⟩ ⟨y.hu, _, rfl, hy.ds⟩ lx ly
  have BE := bytesEqual_sp x.bv y.bv x.b y.b h hx.bs hy.bs hx.by8 hy.by8
  rw [hbx, hby] at BE
  have hxl := ycj (mv := x.mv) x.hu
  have hyl := ycj (mv := y.mv) y.hu
  have ea : decide (x.a = y.a) = (decide (x.d = y.d) && (sameC x.u x.l y.u y.l && decide (x.b = y.b))) := by
    unfold sameC Sb.a
    simp only [Prod.mk.injEq, Bool.decide_and, Bool.and_assoc]
  rw [ea]
  by_cases hd : x.d = y.d
  · have hD : decide (x.d = y.d) = true := decide_eq_true hd
    rw [hD]
    cases hS : sameC x.u x.l y.u y.l with
    | false =>
      rw [hS] at SM
      refine calls_enter Try.func44 rfl Try.ntmps44 rfl s ?_
      repeat' (first|(refine ycf ?_;apply ybk;(·first|(first|(refine qv_eql_agg (t := true) rfl rfl (fun w => by rw [← hD];exact dot_eq _ _ w))|(apply yad;(·rfl);(·first|exact sb_past (yaz 0 rfl)|exact sb_past (yaz 1 rfl));(·first|exact hxl|exact hyl))|(apply yad;(·rfl);(·first|exact sb_dot (yaz 0 rfl)|exact sb_dot (yaz 1 rfl));(·rfl)))|(apply yae;(·rfl);(·(first|exact sb_body' (yaz 0 rfl) hby|exact sb_body' (yaz 1 rfl) hbx))));(·rfl);(·rfl))|refine t1_ ?_|(refine ta_ ?_;intro _)|((fail_if_success (refine ybi rfl ?_));refine ybj rfl ?_ ?_<;>(intro ht;rw [ht];first|replace ht := of_decide_eq_true ht|replace ht := of_decide_eq_false ht|skip))|(refine ych ?_;first|(refine ybw rfl ?_ ?_<;>intro ht)|(refine ybx rfl ?_ ?_<;>intro ht)))
      repeat' (first|(refine ycf ?_;apply ybk;(·first|(first|(refine qv_eql_agg (t := true) rfl rfl (fun w => by rw [← hD];exact dot_eq _ _ w))|(apply yad;(·rfl);(·first|exact sb_past (yaz 0 rfl)|exact sb_past (yaz 1 rfl));(·first|exact hxl|exact hyl))|(apply yad;(·rfl);(·first|exact sb_dot (yaz 0 rfl)|exact sb_dot (yaz 1 rfl));(·rfl)))|(apply yae;(·rfl);(·(first|exact sb_body' (yaz 0 rfl) hby|exact sb_body' (yaz 1 rfl) hbx))));(·rfl);(·rfl))|refine t1_ ?_|(refine ta_ ?_;intro _)|((fail_if_success (refine ybi rfl ?_));refine ybj rfl ?_ ?_<;>(intro ht;rw [ht];first|replace ht := of_decide_eq_true ht|replace ht := of_decide_eq_false ht|skip))|(refine ych ?_;first|(refine ybw rfl ?_ ?_<;>intro ht)|(refine ybx rfl ?_ ?_<;>intro ht)))
      (refine ycn (ycp Try.func45 rfl (by kernel_rfl) rfl) (SM) rfl rfl rfl ?_ ?_; (· (exact to_)))
      repeat' (first|(refine ycf ?_;apply ybk;(·first|(first|(refine qv_eql_agg (t := true) rfl rfl (fun w => by rw [← hD];exact dot_eq _ _ w))|(apply yad;(·rfl);(·first|exact sb_past (yaz 0 rfl)|exact sb_past (yaz 1 rfl));(·first|exact hxl|exact hyl))|(apply yad;(·rfl);(·first|exact sb_dot (yaz 0 rfl)|exact sb_dot (yaz 1 rfl));(·rfl)))|(apply yae;(·rfl);(·(first|exact sb_body' (yaz 0 rfl) hby|exact sb_body' (yaz 1 rfl) hbx))));(·rfl);(·rfl))|refine t1_ ?_|(refine ta_ ?_;intro _)|((fail_if_success (refine ybi rfl ?_));refine ybj rfl ?_ ?_<;>(intro ht;rw [ht];first|replace ht := of_decide_eq_true ht|replace ht := of_decide_eq_false ht|skip))|(refine ych ?_;first|(refine ybw rfl ?_ ?_<;>intro ht)|(refine ybx rfl ?_ ?_<;>intro ht)))
      exact nx_ret1 rfl (rv_tmp rfl) (fun w' s' => ⟨rfl, s'.nil⟩)
    | true =>
      rw [hS] at SM
      refine calls_enter Try.func44 rfl Try.ntmps44 rfl s ?_
      repeat' (first|(refine ycf ?_;apply ybk;(·first|(first|(refine qv_eql_agg (t := true) rfl rfl (fun w => by rw [← hD];exact dot_eq _ _ w))|(apply yad;(·rfl);(·first|exact sb_past (yaz 0 rfl)|exact sb_past (yaz 1 rfl));(·first|exact hxl|exact hyl))|(apply yad;(·rfl);(·first|exact sb_dot (yaz 0 rfl)|exact sb_dot (yaz 1 rfl));(·rfl)))|(apply yae;(·rfl);(·(first|exact sb_body' (yaz 0 rfl) hby|exact sb_body' (yaz 1 rfl) hbx))));(·rfl);(·rfl))|refine t1_ ?_|(refine ta_ ?_;intro _)|((fail_if_success (refine ybi rfl ?_));refine ybj rfl ?_ ?_<;>(intro ht;rw [ht];first|replace ht := of_decide_eq_true ht|replace ht := of_decide_eq_false ht|skip))|(refine ych ?_;first|(refine ybw rfl ?_ ?_<;>intro ht)|(refine ybx rfl ?_ ?_<;>intro ht)))
      repeat' (first|(refine ycf ?_;apply ybk;(·first|(first|(refine qv_eql_agg (t := true) rfl rfl (fun w => by rw [← hD];exact dot_eq _ _ w))|(apply yad;(·rfl);(·first|exact sb_past (yaz 0 rfl)|exact sb_past (yaz 1 rfl));(·first|exact hxl|exact hyl))|(apply yad;(·rfl);(·first|exact sb_dot (yaz 0 rfl)|exact sb_dot (yaz 1 rfl));(·rfl)))|(apply yae;(·rfl);(·(first|exact sb_body' (yaz 0 rfl) hby|exact sb_body' (yaz 1 rfl) hbx))));(·rfl);(·rfl))|refine t1_ ?_|(refine ta_ ?_;intro _)|((fail_if_success (refine ybi rfl ?_));refine ybj rfl ?_ ?_<;>(intro ht;rw [ht];first|replace ht := of_decide_eq_true ht|replace ht := of_decide_eq_false ht|skip))|(refine ych ?_;first|(refine ybw rfl ?_ ?_<;>intro ht)|(refine ybx rfl ?_ ?_<;>intro ht)))
      (refine ycn (ycp Try.func45 rfl (by kernel_rfl) rfl) (SM) rfl rfl rfl ?_ ?_; (· (exact to_)))
      repeat' (first|(refine ycf ?_;apply ybk;(·first|(first|(refine qv_eql_agg (t := true) rfl rfl (fun w => by rw [← hD];exact dot_eq _ _ w))|(apply yad;(·rfl);(·first|exact sb_past (yaz 0 rfl)|exact sb_past (yaz 1 rfl));(·first|exact hxl|exact hyl))|(apply yad;(·rfl);(·first|exact sb_dot (yaz 0 rfl)|exact sb_dot (yaz 1 rfl));(·rfl)))|(apply yae;(·rfl);(·(first|exact sb_body' (yaz 0 rfl) hby|exact sb_body' (yaz 1 rfl) hbx))));(·rfl);(·rfl))|refine t1_ ?_|(refine ta_ ?_;intro _)|((fail_if_success (refine ybi rfl ?_));refine ybj rfl ?_ ?_<;>(intro ht;rw [ht];first|replace ht := of_decide_eq_true ht|replace ht := of_decide_eq_false ht|skip))|(refine ych ?_;first|(refine ybw rfl ?_ ?_<;>intro ht)|(refine ybx rfl ?_ ?_<;>intro ht)))
      (refine ycn (ycp Try.func46 rfl (by kernel_rfl) rfl) (BE) rfl rfl rfl ?_ ?_; (· (exact to_)))
      repeat' (first|(refine ycf ?_;apply ybk;(·first|(first|(refine qv_eql_agg (t := true) rfl rfl (fun w => by rw [← hD];exact dot_eq _ _ w))|(apply yad;(·rfl);(·first|exact sb_past (yaz 0 rfl)|exact sb_past (yaz 1 rfl));(·first|exact hxl|exact hyl))|(apply yad;(·rfl);(·first|exact sb_dot (yaz 0 rfl)|exact sb_dot (yaz 1 rfl));(·rfl)))|(apply yae;(·rfl);(·(first|exact sb_body' (yaz 0 rfl) hby|exact sb_body' (yaz 1 rfl) hbx))));(·rfl);(·rfl))|refine t1_ ?_|(refine ta_ ?_;intro _)|((fail_if_success (refine ybi rfl ?_));refine ybj rfl ?_ ?_<;>(intro ht;rw [ht];first|replace ht := of_decide_eq_true ht|replace ht := of_decide_eq_false ht|skip))|(refine ych ?_;first|(refine ybw rfl ?_ ?_<;>intro ht)|(refine ybx rfl ?_ ?_<;>intro ht)))
      exact nx_ret1 rfl (rv_tmp rfl) (fun w' s' => ⟨by simp, s'.nil⟩)
  · have hD : decide (x.d = y.d) = false := decide_eq_false hd
    rw [hD]
    refine calls_enter Try.func44 rfl Try.ntmps44 rfl s ?_
    repeat' (first | (refine ycf ?_; apply ybk; (· first | (first | (refine qv_eql_agg (t := false) rfl rfl (fun w => by rw [← hD]; exact dot_eq _ _ w)) | (apply yad; (· rfl); (· first | exact sb_dot (yaz 0 rfl) | exact sb_dot (yaz 1 rfl)); (· rfl))) | (apply yae; (· rfl); (· (first | exact sb_body' (yaz 0 rfl) hby | exact sb_body' (yaz 1 rfl) hbx)))); (· rfl); (· rfl)) | refine t1_ ?_ | (refine ta_ ?_; intro _) | ((fail_if_success (refine ybi rfl ?_)); refine ybj rfl ?_ ?_ <;> (intro ht; rw [ht]; first | replace ht := of_decide_eq_true ht | replace ht := of_decide_eq_false ht | skip)) | (refine ych ?_; first | (refine ybw rfl ?_ ?_ <;> intro ht) | (refine ybx rfl ?_ ?_ <;> intro ht)))
    exact nx_ret1 rfl (rv_tmp rfl) (fun w' s' => ⟨rfl, s'.nil⟩)

theorem map_ne_len {a b : List Sb} (h : a.length ≠ b.length) : a.map Sb.a ≠ b.map Sb.a := fun e => h (by simpa using congrArg List.length e)
theorem sSame_sp (va vb : Value) (a b : List Sb) (h : View) (ha : Ss h va a) (hb : Ss h vb b) (la : a.length ≤ 4611686018427387904) (lb : b.length ≤ 4611686018427387904)
    (lla : ∀ x ∈ a, x.l.length ≤ 4611686018427387904) (llb : ∀ x ∈ b, x.l.length ≤ 4611686018427387904) (w : World) (s : St ⟨w, h, []⟩ h [] w) :
    Calls Try.prog 25 [va, vb].toArray w fun e w' => e = .returned (.bool (decide (a.map Sb.a = b.map Sb.a))) ∧ St ⟨w, h, []⟩ h [] w' := by
  have EF : ∀ w, St ⟨w, h, []⟩ h [] w → Calls Try.prog 43 [va, vb, .func (.func 44) #[] #[]].toArray w fun e w' => e = .returned (.bool (decide (a.map Sb.a = b.map Sb.a))) ∧ St ⟨w, h, []⟩ h [] w' := by
    intro w s
    obtain ⟨_, ad, cap, e1, hcap, _⟩ := id ha.1
    obtain ⟨_, ad2, cap2, e2, hcap2, _⟩ := id hb.1
    subst e1 e2
    have hs1 := ha
    have hs2 := hb
    clear ha hb
    refine calls_enter Try.func43 rfl Try.ntmps43 rfl s ?_
    repeat' (first | (refine ycf ?_; apply ybk; (· first | (first | (refine qv_eql_agg (t := false) rfl rfl (fun w => by rw [← hD]; exact dot_eq _ _ w)) | (apply yad; (· rfl); (· first | exact sb_dot (yaz 0 rfl) | exact sb_dot (yaz 1 rfl)); (· rfl))) | (apply yae; (· rfl); (· (first | exact sb_body' (yaz 0 rfl) hby | exact sb_body' (yaz 1 rfl) hbx)))); (· rfl); (· rfl)) | refine t1_ ?_ | (refine ta_ ?_; intro _) | ((fail_if_success (refine ybi rfl ?_)); refine ybj rfl ?_ ?_ <;> (intro ht; rw [ht]; first | replace ht := of_decide_eq_true ht | replace ht := of_decide_eq_false ht | skip)) | (refine ych ?_; first | (refine ybw rfl ?_ ?_ <;> intro ht) | (refine ybx rfl ?_ ?_ <;> intro ht)))
    · refine nx_ret1 rfl (rv_tmp rfl) (fun w' s' => ⟨?_, s'.nil⟩)
      rw [decide_eq_false (map_ne_len (by omega))]
    have hlm : a.length = b.length := by omega
    refine cx_loop (X := Nat) (fun k => [(0, .slice ad a.length cap), (1, .slice ad2 b.length cap2), (2, .func (.func 44) #[] #[]), (15, .slice ad a.length cap), (16, .int .i64 a.length), (17, .int .i64 k)]) (fun _ => h) (fun _ => []) (fun k => k ≤ a.length ∧ (a.take k).map Sb.a = (b.take k).map Sb.a) (fun k => a.length - k) 0 ⟨by omega, by simp⟩ ts_ (fun _ s => s) ?_
    rintro k ⟨hk, hek⟩
    by_cases hkl : k < a.length
    · have hkm : k < b.length := by omega
      obtain ⟨bs, o, rfl⟩ := hs1.1.ad (by omega) (by omega)
      obtain ⟨bs2, o2, rfl⟩ := hs2.1.ad (by omega) (by omega)
      have hel : ∀ L, Cells h L ⟨bs, o + k * 20, none⟩ (sbc a[k]) := fun L => hs1.1.elem sbc_len k hkl
      have hel2 : ∀ L, Cells h L ⟨bs2, o2 + k * 20, none⟩ (sbc b[k]) := fun L => hs2.1.elem sbc_len k hkm
      have S1 := same1_sp a[k] b[k] h (hs1.2 _ (List.getElem_mem hkl)) (hs2.2 _ (List.getElem_mem hkm)) (lla _ (List.getElem_mem hkl)) (llb _ (List.getElem_mem hkm))
      have one1 := (hs1.2 _ (List.getElem_mem hkl)).one
      have one2 := (hs2.2 _ (List.getElem_mem hkm)).one
      have ta : a.take (k + 1) = a.take k ++ [a[k]] := List.take_succ_eq_append_getElem hkl
      have tb : b.take (k + 1) = b.take k ++ [b[k]] := List.take_succ_eq_append_getElem hkm
      have hne : a[k].a ≠ b[k].a → a.map Sb.a ≠ b.map Sb.a := fun hn e => hn (by
        have := congrArg (fun l : List Ab => l[k]?) e
        simpa [hkl, hkm] using this)
      generalize a[k] = x1 at hel S1 ta hne one1
      generalize b[k] = y1 at hel2 S1 tb hne one2
      have hx1 := sbc_len x1
      have hy1 := sbc_len y1
      cases hP : decide (x1.a = y1.a) with
      | true =>
        rw [hP] at S1
        repeat' (first|(refine ycf ?_;apply ybk;(·first|(first|(apply yad;(·rfl);(·exact hel _);(·exact hx1))|(apply yad;(·rfl);(·exact hel2 _);(·exact hy1))|(apply yad;(·rfl);(·exact yaz 1 rfl);(·exact hx1))|(apply yad;(·rfl);(·exact yaz 0 rfl);(·exact hy1)))|(apply yae;(·rfl);(·(first|exact sb_body' (yaz 0 rfl) hby|exact sb_body' (yaz 1 rfl) hbx))));(·rfl);(·rfl))|(first|(refine ybg 0 rfl rfl rfl (sbc_sz x1) (sbc_fit rfl) (sbc_one one1.1 one1.2) (ybh (sbc_all rfl)) rfl rfl ?_ ?_ ?_;(·(exact to_));(·(exact to_)))|(refine ybg 0 rfl rfl rfl (sbc_sz y1) (sbc_fit rfl) (sbc_one one2.1 one2.2) (ybh (sbc_all rfl)) rfl rfl ?_ ?_ ?_;(·(exact to_));(·(exact to_))))|refine t1_ ?_|(refine ta_ ?_;intro _)|((fail_if_success (refine ybi rfl ?_));refine ybj rfl ?_ ?_<;>(intro ht;rw [ht];first|replace ht := of_decide_eq_true ht|replace ht := of_decide_eq_false ht|skip))|(refine ych ?_;first|(refine ybw rfl ?_ ?_<;>intro ht)|(refine ybx rfl ?_ ?_<;>intro ht)))
        · (refine ycn (call_val rfl Try.func44 rfl (by kernel_rfl) rfl) S1 rfl rfl rfl ?_ ?_; (· (exact to_)))
          repeat' (first|(refine ycf ?_;apply ybk;(·first|(first|(apply yad;(·rfl);(·exact hel _);(·exact hx1))|(apply yad;(·rfl);(·exact hel2 _);(·exact hy1))|(apply yad;(·rfl);(·exact yaz 1 rfl);(·exact hx1))|(apply yad;(·rfl);(·exact yaz 0 rfl);(·exact hy1)))|(apply yae;(·rfl);(·(first|exact sb_body' (yaz 0 rfl) hby|exact sb_body' (yaz 1 rfl) hbx))));(·rfl);(·rfl))|(first|(refine ybg 0 rfl rfl rfl (sbc_sz x1) (sbc_fit rfl) (sbc_one one1.1 one1.2) (ybh (sbc_all rfl)) rfl rfl ?_ ?_ ?_;(·(exact to_));(·(exact to_)))|(refine ybg 0 rfl rfl rfl (sbc_sz y1) (sbc_fit rfl) (sbc_one one2.1 one2.2) (ybh (sbc_all rfl)) rfl rfl ?_ ?_ ?_;(·(exact to_));(·(exact to_))))|refine t1_ ?_|(refine ta_ ?_;intro _)|((fail_if_success (refine ybi rfl ?_));refine ybj rfl ?_ ?_<;>(intro ht;rw [ht];first|replace ht := of_decide_eq_true ht|replace ht := of_decide_eq_false ht|skip))|(refine ych ?_;first|(refine ybw rfl ?_ ?_<;>intro ht)|(refine ybx rfl ?_ ?_<;>intro ht)))
          refine nx_round (k + 1) ⟨by omega, ?_⟩ (by omega) ts_ (fun _ s => s.nil)
          rw [ta, tb, List.map_append, List.map_append, hek]
          congr 1
          simpa using of_decide_eq_true hP
        · omega
      | false =>
        rw [hP] at S1
        repeat' (first|(refine ycf ?_;apply ybk;(·first|(first|(apply yad;(·rfl);(·exact hel _);(·exact hx1))|(apply yad;(·rfl);(·exact hel2 _);(·exact hy1))|(apply yad;(·rfl);(·exact yaz 1 rfl);(·exact hx1))|(apply yad;(·rfl);(·exact yaz 0 rfl);(·exact hy1)))|(apply yae;(·rfl);(·(first|exact sb_body' (yaz 0 rfl) hby|exact sb_body' (yaz 1 rfl) hbx))));(·rfl);(·rfl))|(first|(refine ybg 0 rfl rfl rfl (sbc_sz x1) (sbc_fit rfl) (sbc_one one1.1 one1.2) (ybh (sbc_all rfl)) rfl rfl ?_ ?_ ?_;(·(exact to_));(·(exact to_)))|(refine ybg 0 rfl rfl rfl (sbc_sz y1) (sbc_fit rfl) (sbc_one one2.1 one2.2) (ybh (sbc_all rfl)) rfl rfl ?_ ?_ ?_;(·(exact to_));(·(exact to_))))|refine t1_ ?_|(refine ta_ ?_;intro _)|((fail_if_success (refine ybi rfl ?_));refine ybj rfl ?_ ?_<;>(intro ht;rw [ht];first|replace ht := of_decide_eq_true ht|replace ht := of_decide_eq_false ht|skip))|(refine ych ?_;first|(refine ybw rfl ?_ ?_<;>intro ht)|(refine ybx rfl ?_ ?_<;>intro ht)))
        · (refine ycn (call_val rfl Try.func44 rfl (by kernel_rfl) rfl) S1 rfl rfl rfl ?_ ?_; (· (exact to_)))
          repeat' (first|(refine ycf ?_;apply ybk;(·first|(first|(apply yad;(·rfl);(·exact hel _);(·exact hx1))|(apply yad;(·rfl);(·exact hel2 _);(·exact hy1))|(apply yad;(·rfl);(·exact yaz 1 rfl);(·exact hx1))|(apply yad;(·rfl);(·exact yaz 0 rfl);(·exact hy1)))|(apply yae;(·rfl);(·(first|exact sb_body' (yaz 0 rfl) hby|exact sb_body' (yaz 1 rfl) hbx))));(·rfl);(·rfl))|(first|(refine ybg 0 rfl rfl rfl (sbc_sz x1) (sbc_fit rfl) (sbc_one one1.1 one1.2) (ybh (sbc_all rfl)) rfl rfl ?_ ?_ ?_;(·(exact to_));(·(exact to_)))|(refine ybg 0 rfl rfl rfl (sbc_sz y1) (sbc_fit rfl) (sbc_one one2.1 one2.2) (ybh (sbc_all rfl)) rfl rfl ?_ ?_ ?_;(·(exact to_));(·(exact to_))))|refine t1_ ?_|(refine ta_ ?_;intro _)|((fail_if_success (refine ybi rfl ?_));refine ybj rfl ?_ ?_<;>(intro ht;rw [ht];first|replace ht := of_decide_eq_true ht|replace ht := of_decide_eq_false ht|skip))|(refine ych ?_;first|(refine ybw rfl ?_ ?_<;>intro ht)|(refine ybx rfl ?_ ?_<;>intro ht)))
          refine nx_ret1 rfl (rv_tmp rfl) (fun w' s' => ⟨?_, s'.nil⟩)
          rw [decide_eq_false (hne (of_decide_eq_false hP))]
        · omega
    · repeat' (first|(refine ycf ?_;apply ybk;(·first|(first|(apply yad;(·rfl);(·exact hel _);(·exact hx1))|(apply yad;(·rfl);(·exact hel2 _);(·exact hy1))|(apply yad;(·rfl);(·exact yaz 1 rfl);(·exact hx1))|(apply yad;(·rfl);(·exact yaz 0 rfl);(·exact hy1)))|(apply yae;(·rfl);(·(first|exact sb_body' (yaz 0 rfl) hby|exact sb_body' (yaz 1 rfl) hbx))));(·rfl);(·rfl))|(first|(refine ybg 0 rfl rfl rfl (sbc_sz x1) (sbc_fit rfl) (sbc_one one1.1 one1.2) (ybh (sbc_all rfl)) rfl rfl ?_ ?_ ?_;(·(exact to_));(·(exact to_)))|(refine ybg 0 rfl rfl rfl (sbc_sz y1) (sbc_fit rfl) (sbc_one one2.1 one2.2) (ybh (sbc_all rfl)) rfl rfl ?_ ?_ ?_;(·(exact to_));(·(exact to_))))|refine t1_ ?_|(refine ta_ ?_;intro _)|((fail_if_success (refine ybi rfl ?_));refine ybj rfl ?_ ?_<;>(intro ht;rw [ht];first|replace ht := of_decide_eq_true ht|replace ht := of_decide_eq_false ht|skip))|(refine ych ?_;first|(refine ybw rfl ?_ ?_<;>intro ht)|(refine ybx rfl ?_ ?_<;>intro ht)))
      · omega
      refine nx_ret1 rfl (rv_tmp rfl) (fun w' s' => ⟨?_, s'.nil⟩)
      rw [List.take_of_length_le (by omega), List.take_of_length_le (by omega)] at hek
      rw [decide_eq_true hek]
  refine calls_enter Try.func25 rfl Try.ntmps25 rfl s ?_
  repeat' (first|(refine ycf ?_;apply ybk;(·first|(first|(apply yad;(·rfl);(·exact hel _);(·exact hx1))|(apply yad;(·rfl);(·exact hel2 _);(·exact hy1))|(apply yad;(·rfl);(·exact yaz 1 rfl);(·exact hx1))|(apply yad;(·rfl);(·exact yaz 0 rfl);(·exact hy1)))|(apply yae;(·rfl);(·(first|exact sb_body' (yaz 0 rfl) hby|exact sb_body' (yaz 1 rfl) hbx))));(·rfl);(·rfl))|(first|(refine ybg 0 rfl rfl rfl (sbc_sz x1) (sbc_fit rfl) (sbc_one one1.1 one1.2) (ybh (sbc_all rfl)) rfl rfl ?_ ?_ ?_;(·(exact to_));(·(exact to_)))|(refine ybg 0 rfl rfl rfl (sbc_sz y1) (sbc_fit rfl) (sbc_one one2.1 one2.2) (ybh (sbc_all rfl)) rfl rfl ?_ ?_ ?_;(·(exact to_));(·(exact to_))))|refine t1_ ?_|(refine ta_ ?_;intro _)|((fail_if_success (refine ybi rfl ?_));refine ybj rfl ?_ ?_<;>(intro ht;rw [ht];first|replace ht := of_decide_eq_true ht|replace ht := of_decide_eq_false ht|skip))|(refine ych ?_;first|(refine ybw rfl ?_ ?_<;>intro ht)|(refine ybx rfl ?_ ?_<;>intro ht)))
  (refine ycn (ycp Try.func43 rfl (by kernel_rfl) rfl) EF rfl rfl rfl ?_ ?_; (· (exact to_)))
  repeat' (first|(refine ycf ?_;apply ybk;(·first|(first|(apply yad;(·rfl);(·exact hel _);(·exact hx1))|(apply yad;(·rfl);(·exact hel2 _);(·exact hy1))|(apply yad;(·rfl);(·exact yaz 1 rfl);(·exact hx1))|(apply yad;(·rfl);(·exact yaz 0 rfl);(·exact hy1)))|(apply yae;(·rfl);(·(first|exact sb_body' (yaz 0 rfl) hby|exact sb_body' (yaz 1 rfl) hbx))));(·rfl);(·rfl))|(first|(refine ybg 0 rfl rfl rfl (sbc_sz x1) (sbc_fit rfl) (sbc_one one1.1 one1.2) (ybh (sbc_all rfl)) rfl rfl ?_ ?_ ?_;(·(exact to_));(·(exact to_)))|(refine ybg 0 rfl rfl rfl (sbc_sz y1) (sbc_fit rfl) (sbc_one one2.1 one2.2) (ybh (sbc_all rfl)) rfl rfl ?_ ?_ ?_;(·(exact to_));(·(exact to_))))|refine t1_ ?_|(refine ta_ ?_;intro _)|((fail_if_success (refine ybi rfl ?_));refine ybj rfl ?_ ?_<;>(intro ht;rw [ht];first|replace ht := of_decide_eq_true ht|replace ht := of_decide_eq_false ht|skip))|(refine ych ?_;first|(refine ybw rfl ?_ ?_<;>intro ht)|(refine ybx rfl ?_ ?_<;>intro ht)))
  exact nx_ret1 rfl (rv_tmp rfl) (fun w' s' => ⟨rfl, s'.nil⟩)
end Go.Proofs.Ytkkjppeaaicgaaa
end

section
namespace Go.Ck
open Go
set_option linter.unusedVariables false
theorem St.persistA {K : Bs} {h : View} {b : Nat} {o : Obj} {L : List Res} {w : World} (s : St K h (Res.blk b o :: L) w) (hA : ∀ x ∈ K.A, x ∈ doms L) : St K (addV h b o) L w := by
  have hmem : b ∈ doms (Res.blk b o :: L) := by rw [doms_cons]; exact List.mem_append_left _ (List.mem_singleton.2 rfl)
  have nd := s.nd
  rw [doms_cons] at nd
  obtain ⟨_, n2, n3⟩ := List.nodup_append.1 nd
  have hnot : b ∉ doms L := fun hb => n3 b (List.mem_singleton.2 rfl) b hb rfl
  have hb0 : K.w0.heap.size ≤ b := by
    rcases s.src b hmem with h1 | h1
    · exact absurd (hA b h1) hnot
    · exact h1
  refine ⟨s.os, s.tape, s.output, s.drawn, s.size, s.keep, ⟨fun x o' hx => ?_, fun r hr => s.hd.own r (List.mem_cons_of_mem _ hr)⟩, n2, fun x hx => s.src x (by rw [doms_cons]; exact List.mem_append_right _ hx), fun x o' hx => ?_, fun x hx hx0 => ?_, fun x hx => ?_⟩
  · unfold addV at hx
    split at hx
    · rename_i e; subst e; cases hx
      exact s.hd.own _ (List.mem_cons_self ..)
    · exact s.hd.view x o' hx
  · unfold addV
    split
    · rename_i e; subst e
      have h1 := s.grow x o' hx
      rw [s.dis x hmem] at h1; cases h1
    · exact s.grow x o' hx
  · unfold addV
    rw [if_neg (by omega)]
    exact s.new x hx hx0
  · unfold addV
    rw [if_neg (fun e => hnot (by rw [← e]; exact hx))]
    exact s.dis x (by rw [doms_cons]; exact List.mem_append_right _ hx)

section
variable {P : Program} {n : Nat} {K : Bs} {F : List (Nat × Value)} {h : View} {L : List Res} {Q : Exit → Act → World → Prop}
theorem St.rowPersistA {e : TypeId} {k m : Nat} {v : Value} {xs : List Value} {w : World} (s : St K h (Res.row e k v m xs :: L) w) (hA : ∀ x ∈ K.A, x ∈ doms L) : ∃ h', Le h h' ∧ Sc h' k v m xs ∧ St K h' L w := by
  have ho : w.ownsRow 0 e k v m xs := s.hd.own _ (List.mem_cons_self ..)
  rcases ho.2 with ⟨rfl, rfl⟩ | ⟨g, cap, cur, rfl, _, hg, hn, _, hcs, htake⟩
  · have : xs = [] := List.eq_nil_of_length_eq_zero (by rw [ho.1]; simp)
    subst this
    exact ⟨h, Le.refl h, Sc.nil h k Option.none 0, s.tl⟩
  · have hd : doms (Res.row e k (.slice (some ⟨g, 0, Option.none⟩) m cap) m xs :: L) = doms (Res.blk g (.cells cur e (0, 0)) :: L) := by simp [doms_cons, Res.row, Res.blk, Value.ownBlock]
    have s2 : St K h (Res.blk g (.cells cur e (0, 0)) :: L) w := ⟨s.os, s.tape, s.output, s.drawn, s.size, s.keep, ⟨s.hd.view, fun r hr => by
      rcases List.mem_cons.1 hr with rfl | hr
      · exact hg
      · exact s.hd.own r (List.mem_cons_of_mem _ hr)⟩, by rw [← hd]; exact s.nd, fun b hb => s.src b (by rw [hd]; exact hb), s.grow, s.new, fun b hb => s.dis b (by rw [hd]; exact hb)⟩
    refine ⟨addV h g (.cells cur e (0, 0)), Le.addV (s2.dis g (by rw [doms_cons]; exact List.mem_append_left _ (List.mem_singleton.2 rfl))), ⟨ho.1, some ⟨g, 0, Option.none⟩, cap, rfl, hn, .inr ⟨g, 0, cur, e, (0, 0), rfl, addV_same, fun j u hj => ?_⟩⟩, s2.persistA hA⟩
    rw [← htake, List.getElem?_take] at hj
    split at hj
    · simpa using hj
    · cases hj
theorem rx_persistA {g : Rg} {prs : List (Nat × Oper)} {e : TypeId} {sz m : Nat} {v : Value} {xs : List Value} (hA : ∀ x ∈ K.A, x ∈ doms L) (hx : ∀ h', Le h h' → Sc h' sz v m xs → RX P n K g prs F h' L Q) : RX P n K g prs F h (Res.row e sz v m xs :: L) Q := by
  unfold RX at *
  intro a w f s
  obtain ⟨h', h1, h2, h3⟩ := s.rowPersistA hA
  exact hx h' h1 h2 a w f h3
end
end Go.Ck
end
