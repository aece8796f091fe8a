/-
  The statement SiblingAloneSaid: for every input the law SiblingAlone returns true, and its arguments read as they did.
  Conditions: none.
-/
import Derived.Deep.Slices
import Derived.Carry
import Derived.DataReads
import Derived.DataShut
import Derived.Test.YtkkjppeaaicgaaaRows
import Derived.WalkKit
import Derived.ProofKit
import Derived.OpenShut
import Derived.Test.YtkkjppeaaicgaaaSbUPM13
section
namespace Go.Proofs.Ytkkjppeaaicgaaa
open Go Go.Ck
set_option maxRecDepth 100000
set_option maxHeartbeats 4000000
set_option linter.unusedVariables false

theorem ddk_all {l : List Sb} (hd : (l.map Sb.d).Nodup) : ∀ k, k ≤ l.length → ddk l k = l.take k
  | 0, _ => rfl
  | k + 1, hk => by
    obtain ⟨x, hx⟩ : ∃ x, l[k]? = some x := ⟨_, List.getElem?_eq_getElem (by omega)⟩
    have htk : l.take (k + 1) = l.take k ++ [x] := by
      obtain ⟨h, rfl⟩ := List.getElem?_eq_some_iff.1 hx
      exact List.take_succ_eq_append_getElem h
    by_cases h0 : k = 0
    · subst h0
      rw [ddk_one hx, htk]; rfl
    · obtain ⟨y, hy⟩ : ∃ y, l[k - 1]? = some y := ⟨_, List.getElem?_eq_getElem (by omega)⟩
      have hne : x.d ≠ y.d := fun e => by
        have h1 : (l.map Sb.d)[k]? = some x.d := by rw [List.getElem?_map, hx]; rfl
        have h2 : (l.map Sb.d)[k - 1]? = some x.d := by rw [List.getElem?_map, hy, e]; rfl
        obtain ⟨q1, e1⟩ := List.getElem?_eq_some_iff.1 h1
        obtain ⟨q2, e2⟩ := List.getElem?_eq_some_iff.1 h2
        exact List.pairwise_iff_getElem.1 hd (k - 1) k q2 q1 (by omega) (by rw [e1, e2])
      rw [ddk_succ hx hy h0, if_neg hne, ddk_all hd k (by omega), htk]
theorem merge_distinct {a b : List Sb} {M : List Ab} {e : Int} (h : MergeR a b M e) (ca : checkA (a.map Sb.a) = 0) (cb : checkA (b.map Sb.a) = 0) (hd : ((a ++ b).map Sb.d).Nodup) :
    ∃ R, R.Perm ((a ++ b).filter fun x => freeS (a.map Sb.a) (b.map Sb.a) x.a) ∧ SortS R ∧ (if 64 < R.length then e = 5 ∧ M = [] else e = 0 ∧ M = R.map Sb.a) := by
  unfold MergeR at h
  rw [if_neg (by rw [ca]; decide), if_neg (by rw [cb]; decide)] at h
  obtain ⟨R, kR, sR, hR⟩ := h
  have hp := kR.perm
  have hdR : (R.map Sb.d).Nodup := (hp.map Sb.d).nodup_iff.1 hd
  rw [ddk_all hdR _ (Nat.le_refl _), List.take_length] at hR
  exact ⟨_, (hp.symm.filter _), sR.sublist (List.filter_sublist ..), hR⟩
theorem perm_one {α : Type} {l : List α} {x : α} (h : l.Perm [x]) : l = [x] := List.perm_singleton.1 h
theorem sort_two {x y : Sb} {l : List Sb} (h : l.Perm [x, y]) (hs : SortS l) (hxy : ordD x.d y.d < 0) : l = [x, y] := by
  match l, h.length_eq with
  | [p, q], _ =>
    have hm := h.mem_iff (a := p)
    have hp : p = x ∨ p = y := by
      have := (h.mem_iff (a := p)).1 (by simp)
      simpa using this
    have hs2 : ordD p.d q.d ≤ 0 := by
      have := List.pairwise_cons.1 hs
      exact this.1 q (by simp)
    rcases hp with rfl | rfl
    · have : [q].Perm [y] := by simpa using h
      rw [perm_one this]
    · have h2 : [p, q].Perm [p, x] := h.trans (List.Perm.swap _ _ _)
      have : [q].Perm [x] := by simpa using h2
      have hq := perm_one this
      simp only [List.cons.injEq, and_true] at hq
      subst hq
      rw [ord_le] at hs2
      exact absurd hxy hs2
/-- a sibling of a zero past and no body -/
def s0 (d : Dt) : Sb := ⟨d, zeroU, rfl, [], .slice none 0 0, [], .slice none 0 0⟩
theorem s0_ok (h : View) (d : Dt) : Sv h (s0 d) := ⟨Sc.nil h 2 none 0, Sc.nil h 1 none 0, fun b hb => by cases hb⟩

theorem map_one {M : List Sb} {x : Ab} (h : M.map Sb.a = [x]) : ∃ m, M = [m] ∧ m.a = x := by
  match M, h with
  | [m], h => exact ⟨m, rfl, by simpa using h⟩
theorem map_two {M : List Sb} {x y : Ab} (h : M.map Sb.a = [x, y]) : ∃ m n, M = [m, n] ∧ m.a = x ∧ n.a = y := by
  match M, h with
  | [m, n], h =>
    simp only [List.map_cons, List.map_nil, List.cons.injEq, and_true] at h
    exact ⟨m, n, rfl, h.1, h.2⟩
theorem fits_small {l : List Sb} (h1 : l.length ≤ 40000) (h : ∀ x ∈ l, x.l.length ≤ 1000000 ∧ x.b.length ≤ 1000000) : Fits l := ⟨h1, h⟩
/-- one that is right is a set alone -/
theorem check_single {a : Ab} (h : rightA a = true) : checkA [a] = 0 := by
  obtain ⟨_, _, h3, _⟩ := rightA_ok h
  unfold checkA
  rw [if_neg (show ¬ 64 < [a].length by simp), if_neg, if_neg]
  · simp [h3]
  · have : badAt [a] 0 = false := by
      unfold badAt
      simp [h]
    simp [this]

theorem sets1 (v : Value) (a : List Sb) (y : Sb) (M : List Sb) (e : Int) (hm : MergeR a [y] (M.map Sb.a) e) (ca : checkA (a.map Sb.a) = 0) (cy : checkA [y.a] = 0) (hd : ((a ++ [y]).map Sb.d).Nodup) (G : List Sb) (hG : ((a ++ [y]).filter fun x => freeS (a.map Sb.a) [y.a] x.a) = G) (hl : G.length ≤ 64) :
    ∃ R, R.Perm G ∧ SortS R ∧ e = 0 ∧ M.map Sb.a = R.map Sb.a := by
  obtain ⟨R, h1, h2, h3⟩ := merge_distinct hm ca (by simpa using cy) hd
  have hG' : ((a ++ [y]).filter fun x => freeS (a.map Sb.a) ([y].map Sb.a) x.a) = G := hG
  rw [hG'] at h1
  rw [if_neg (by rw [h1.length_eq]; omega)] at h3
  exact ⟨R, h1, h2, h3⟩

theorem fill3b {d : Dt} {u : List Int} {mv : Value} (hu : u.length = 16) : fillL (fun i : Nat => ([(0, 2), (2, 17), (19, 1)] : List (Nat × Nat))[i]?) ([.int .i64 0, .int .i64 0] ++ (up zeroU ++ [.slice none 0 0, .slice none 0 0])) [(0, .agg (dcs d).toArray), (1, .agg (cxc u mv).toArray)] = some (dcs d ++ (cxc u mv ++ [.slice none 0 0])) := by
  obtain ⟨a0, a1, a2, a3, a4, a5, a6, a7, a8, a9, a10, a11, a12, a13, a14, a15, rfl⟩ := list16 u hu
  rfl
theorem sets_sp (h : View) (w : World) (s : St ⟨w, h, []⟩ h [] w) :
    Calls Try.prog 11 [].toArray w fun e w' => e = .returned (.bool true) ∧ St ⟨w, h, []⟩ h [] w' := by
  refine calls_enter Try.func11 rfl Try.ntmps11 rfl s ?_
  repeat' (first | refine tw_ ?_ | (refine ta_ ?_; intro _) | ((fail_if_success (refine ybi rfl ?_)); refine ybj rfl ?_ ?_ <;> (intro ht; rw [ht]; first | replace ht := of_decide_eq_true ht | replace ht := of_decide_eq_false ht | skip)) | (refine ych ?_; first | (refine ybw rfl ?_ ?_ <;> intro ht) | (refine ybx rfl ?_ ?_ <;> intro ht)))
  have n0 : Ss h (.slice none 0 0) [] := ⟨Sc.nil h 20 none 0, fun x hx => by cases hx⟩
  (refine yco (ycp Try.func15 rfl (by kernel_rfl) rfl) (put_sp (.slice none 0 0) [] (s0 (1, 1)) h n0 (s0_ok h _) ⟨by simp, fun x hx => by cases hx⟩ (by decide)) rfl rfl rfl ?_ ?_ ?_; (· (exact to_)); (· intro _ _ hle; (exact to_)); intro x px hle)
  obtain ⟨h1, v1, M1, e1⟩ := x
  obtain ⟨S1, R1⟩ := px
  dsimp only at S1 R1
  obtain ⟨T1, q1, q2, q3, q4⟩ := sets1 v1 [] (s0 (1, 1)) M1 e1 R1 (by kernel_rfl) (by kernel_rfl) (by decide) [s0 (1, 1)] (by kernel_rfl) (by decide)
  rw [perm_one q1] at q4
  subst q3
  obtain ⟨m1, rfl, hm1⟩ := map_one q4
  clear q1 q2 q4 R1 hle
  repeat' (first | refine tw_ ?_ | (refine ta_ ?_; intro _) | ((fail_if_success (refine ybi rfl ?_)); refine ybj rfl ?_ ?_ <;> (intro ht; rw [ht]; first | replace ht := of_decide_eq_true ht | replace ht := of_decide_eq_false ht | skip)) | (refine ych ?_; first | (refine ybw rfl ?_ ?_ <;> intro ht) | (refine ybx rfl ?_ ?_ <;> intro ht)))
  have d1 : m1.d = (1, 1) := congrArg (·.1) hm1
  (refine yco (ycp Try.func15 rfl (by kernel_rfl) rfl) (put_sp v1 [m1] (s0 (2, 1)) h1 S1 (s0_ok h1 _) ⟨by simp, fun x hx => by rw [List.mem_singleton.1 hx]; exact ⟨by rw [show m1.l = [] from congrArg (·.2.2.1) hm1]; decide, by rw [show m1.b = [] from congrArg (·.2.2.2) hm1]; decide⟩⟩ (by decide)) rfl rfl rfl ?_ ?_ ?_; (· (exact to_)); (· intro _ _ hle; (exact to_)); intro x px hle)
  obtain ⟨h2, v2, M2, e2⟩ := x
  obtain ⟨S2, R2⟩ := px
  dsimp only at S2 R2
  have c1 : checkA ([m1].map Sb.a) = 0 := by show checkA [m1.a] = 0; rw [hm1]; kernel_rfl
  have nd1 : (([m1] ++ [s0 (2, 1)]).map Sb.d).Nodup := by show [m1.d, (2, 1)].Nodup; rw [d1]; decide
  have g1 : (([m1] ++ [s0 (2, 1)]).filter fun x => freeS ([m1].map Sb.a) [(s0 (2, 1)).a] x.a) = [m1, s0 (2, 1)] := by
    show List.filter (fun x => freeS [m1.a] [(s0 (2, 1)).a] x.a) [m1, s0 (2, 1)] = _
    rw [List.filter_cons_of_pos (by show freeS [m1.a] [(s0 (2, 1)).a] m1.a = true; rw [hm1]; kernel_rfl), List.filter_cons_of_pos (by show freeS [m1.a] [(s0 (2, 1)).a] (s0 (2, 1)).a = true; rw [hm1]; kernel_rfl)]
    rfl
  obtain ⟨T2, q1, q2, q3, q4⟩ := sets1 v1 [m1] (s0 (2, 1)) M2 e2 R2 c1 (by kernel_rfl) nd1 _ g1 (by show 2 ≤ 64; decide)
  rw [sort_two q1 q2 (by show ordD m1.d (2, 1) < 0; rw [d1]; decide)] at q4
  subst q3
  obtain ⟨m2, n2, rfl, hm2, hn2⟩ := map_two q4
  rw [hm1] at hm2
  clear q1 q2 q4 R2 hle g1 nd1 c1
  obtain ⟨_, ad2, cap2, hv2, _, _⟩ := id S2.1
  subst hv2
  have c2 : checkA ([m2, n2].map Sb.a) = 0 := by show checkA [m2.a, n2.a] = 0; rw [hm2, hn2]; kernel_rfl
  have f2 : Fits [m2, n2] := ⟨by simp, fun x hx => by
    rcases List.mem_cons.1 hx with rfl | hx
    · exact ⟨by rw [show x.l = [] from congrArg (·.2.2.1) hm2]; decide, by rw [show x.b = [] from congrArg (·.2.2.2) hm2]; decide⟩
    · rw [List.mem_singleton.1 hx]; exact ⟨by rw [show n2.l = [] from congrArg (·.2.2.1) hn2]; decide, by rw [show n2.b = [] from congrArg (·.2.2.2) hn2]; decide⟩⟩
  repeat' (first | refine tw_ ?_ | (refine ta_ ?_; intro _) | ((fail_if_success (refine ybi rfl ?_)); refine ybj rfl ?_ ?_ <;> (intro ht; rw [ht]; first | replace ht := of_decide_eq_true ht | replace ht := of_decide_eq_false ht | skip)) | (refine ych ?_; first | (refine ybw rfl ?_ ?_ <;> intro ht) | (refine ybx rfl ?_ ?_ <;> intro ht)))
  (refine yco (ycp Try.func13 rfl (by kernel_rfl) rfl) (sseen_sp _ [m2, n2] h2 S2 f2) rfl rfl rfl ?_ ?_ ?_; (· (exact to_)); (· intro _ _ hle; (exact to_)); intro x px hle)
  obtain ⟨h3, v3, u, m, e3⟩ := x
  obtain ⟨C3, R3⟩ := px
  dsimp only at C3 R3
  unfold SeenR at R3
  rw [if_neg (by rw [c2]; decide)] at R3
  rcases R3 with ⟨_, _, _, r4⟩ | ⟨r1, r2, r3, r4⟩
  · exfalso
    have : ([m2, n2].map Sb.a).flatMap (fun s => s.1 :: s.2.2.1) = [(1, 1), (2, 1)] := by
      show [m2.a, n2.a].flatMap _ = _
      rw [hm2, hn2]; rfl
    rw [this] at r4
    exact absurd r4 (by decide)
  subst r1
  obtain ⟨hu, mv, hv3, s3⟩ := id C3
  subst hv3
  obtain ⟨_, ad3, cap3, hmv, _, _⟩ := id s3
  subst hmv
  have hle3 : Le h2 h3 := hle
  clear hle
  obtain ⟨y, hy⟩ : ∃ y : Sb, y = ⟨(1, 2), u, hu, m, .slice ad3 m.length cap3, [], .slice none 0 0⟩ := ⟨_, rfl⟩
  have hfy : fillL (fun i : Nat => ([(0, 2), (2, 17), (19, 1)] : List (Nat × Nat))[i]?) ([.int .i64 0, .int .i64 0] ++ (up zeroU ++ [.slice none 0 0, .slice none 0 0])) [(0, .agg (dcs (1, 2)).toArray), (1, .agg (cxc u (.slice ad3 m.length cap3)).toArray)] = some (sbc y) := by
    rw [hy]; exact fill3b hu
  have hyv : Sv h3 y := by rw [hy]; exact ⟨s3, Sc.nil h3 1 none 0, fun b hb => by cases hb⟩
  repeat' (first | (refine ycf ?_; apply ybk; (· first | (first | (apply yad; (· rfl); (· exact yaz 0 rfl); (· exact ycj hu)) | (apply yax (cs := sbc y); (· rfl); (· exact hfy)))); (· rfl); (· rfl)) | (refine ybg 0 rfl rfl rfl (cxc_sz hu) (cxc_fit hu) (cxc_one rfl) (ybh (cxc_all hu)) rfl rfl ?_ ?_ ?_; (· (exact to_)); (· (exact to_))) | refine t1_ ?_ | (refine ta_ ?_; intro _) | ((fail_if_success (refine ybi rfl ?_)); refine ybj rfl ?_ ?_ <;> (intro ht; rw [ht]; first | replace ht := of_decide_eq_true ht | replace ht := of_decide_eq_false ht | skip)) | (refine ych ?_; first | (refine ybw rfl ?_ ?_ <;> intro ht) | (refine ybx rfl ?_ ?_ <;> intro ht)))
  have ey : y.a = ((1, 2), u, m, []) := by rw [hy]; rfl
  have ck : checkC u m = 0 := check_inv r2 r3
  have sn : ∀ d, rightB d = true → hasC u m d = seenA [((1, 1), zeroU, [], []), ((2, 1), zeroU, [], [])] d := fun d hd => by
    rw [r4 d hd]
    show seenA [m2.a, n2.a] d = _
    rw [hm2, hn2]
    rfl
  have hA : ∀ d, rightB d = true → hasA y.a d = seenA [((1, 1), zeroU, [], []), ((2, 1), zeroU, [], [])] d := fun d hd => by
    rw [ey]
    show (decide (checkC u m = 0) && rightB d && hasC u m d) = _
    rw [ck, hd, sn d hd]
    rfl
  have ry : rightA y.a = true := by
    unfold rightA
    have e1 : hasA y.a y.a.1 = false := by
      rw [show y.a.1 = (1, 2) by rw [ey], hA (1, 2) (by decide)]
      kernel_rfl
    rw [e1, ey]
    show (rightB (1, 2) && (decide (checkC u m = 0) && (!false && decide ((([] : List Int).length : Int) ≤ 16384)))) = true
    rw [ck]
    rfl
  have dm2 : m2.d = (1, 1) := congrArg (·.1) hm2
  have dn2 : n2.d = (2, 1) := congrArg (·.1) hn2
  have dy : y.d = (1, 2) := by rw [hy]
  have nd2 : (([m2, n2] ++ [y]).map Sb.d).Nodup := by show [m2.d, n2.d, y.d].Nodup; rw [dm2, dn2, dy]; decide
  have fr : ∀ x : Ab, freeS [m2.a, n2.a] [y.a] x = (!(hasA m2.a x.1 || hasA n2.a x.1) && !(hasA y.a x.1)) := fun x => by
    unfold freeS
    simp
  have g2 : (([m2, n2] ++ [y]).filter fun x => freeS ([m2, n2].map Sb.a) [y.a] x.a) = [y] := by
    show List.filter (fun x => freeS [m2.a, n2.a] [y.a] x.a) [m2, n2, y] = _
    rw [List.filter_cons_of_neg (by show ¬ freeS [m2.a, n2.a] [y.a] m2.a = true; rw [fr, show m2.a.1 = (1, 1) from dm2, hA (1, 1) (by decide), show seenA [((1, 1), zeroU, [], []), ((2, 1), zeroU, [], [])] (1, 1) = true by kernel_rfl]; simp),
      List.filter_cons_of_neg (by show ¬ freeS [m2.a, n2.a] [y.a] n2.a = true; rw [fr, show n2.a.1 = (2, 1) from dn2, hA (2, 1) (by decide), show seenA [((1, 1), zeroU, [], []), ((2, 1), zeroU, [], [])] (2, 1) = true by kernel_rfl]; simp),
      List.filter_cons_of_pos (by show freeS [m2.a, n2.a] [y.a] y.a = true; rw [fr, show y.a.1 = (1, 2) from dy, hA (1, 2) (by decide), hm2, hn2]; kernel_rfl)]
    rfl
  have ly : y.l.length ≤ 1000000 ∧ y.b.length ≤ 1000000 := by rw [hy]; exact ⟨by show m.length ≤ _; omega, Nat.zero_le _⟩
  have S3 : Ss h3 (.slice ad2 [m2, n2].length cap2) [m2, n2] := S2.mono hle3
  (refine yco (ycp Try.func15 rfl (by kernel_rfl) rfl) (put_sp _ [m2, n2] y h3 S3 hyv f2 ly) rfl rfl rfl ?_ ?_ ?_; (· (exact to_)); (· intro _ _ hle; (exact to_)); intro x px hle)
  obtain ⟨h4, v4, M4, e4⟩ := x
  obtain ⟨S4, R4⟩ := px
  dsimp only at S4 R4
  obtain ⟨T4, q1, q2, q3, q4⟩ := sets1 v4 [m2, n2] y M4 e4 R4 c2 (check_single ry) nd2 _ g2 (by show 1 ≤ 64; decide)
  rw [perm_one q1] at q4
  subst q3
  obtain ⟨m4, rfl, hm4⟩ := map_one q4
  have dm4 : m4.d = (1, 2) := by rw [show m4.d = y.d from congrArg (·.1) hm4, dy]
  obtain ⟨_, ad4, cap4, hv4, _, _⟩ := id S4.1
  subst hv4
  obtain ⟨b4, o4, hb4⟩ := S4.1.ad (by show 0 < 1; decide) (by decide)
  subst hb4
  have hel : ∀ L, Cells h4 L ⟨b4, o4 + 0 * 20, none⟩ (sbc m4) := fun L => S4.1.elem sbc_len 0 (by show 0 < 1; decide)
  have e42 : m4.d.2 = 2 := by rw [dm4]
  have l4 : [m4].length = 1 := rfl
  have l2 : [m2, n2].length = 2 := rfl
  repeat' (first | (refine ycf ?_; apply ybk; (· first | (exact tk_) | (apply yae; (· rfl); (· (exact sb_nu (hel _))))); (· rfl); (· rfl)) | (refine ybg 0 rfl rfl rfl (cxc_sz hu) (cxc_fit hu) (cxc_one rfl) (ybh (cxc_all hu)) rfl rfl ?_ ?_ ?_; (· (exact to_)); (· (exact to_))) | refine t1_ ?_ | (refine ta_ ?_; intro _) | ((fail_if_success (refine ybi rfl ?_)); refine ybj rfl ?_ ?_ <;> (intro ht; rw [ht]; first | replace ht := of_decide_eq_true ht | replace ht := of_decide_eq_false ht | skip)) | (refine ych ?_; first | (refine ybw rfl ?_ ?_ <;> intro ht) | (refine ybx rfl ?_ ?_ <;> intro ht)))
  exact nx_ret1 rfl (rv_tmp rfl) (fun w' s' => ⟨rfl, s'.nil.base⟩)
end Go.Proofs.Ytkkjppeaaicgaaa
end

section
namespace Go.Ck
open Go
/-- the operations of 'lou' alone are taken for loud ones -/
theorem cx_region_drawX {P : Program} {n : Nat} {K : Bs} {F : List (Nat × Value)} {h : View} {L : List Res} {Q : Exit → Act → World → Prop} {id : Nat} {ops : Array Oper} (LS : List Res) (lou : List Nat) (hm : P.follows .mixedOrders = true) (hB : lexOkAt ops (masks ops) (fun i => lou.contains i) (barOf ops) = true)
    (hx : RX P n K ⟨ops, Hd h LS, fun i => lou.contains i, barOf ops⟩ (enumFrom 0 ops.toList) F h L Q) : CX P n K (.region id ops true) F h L Q := by
  unfold CX
  unfold RX at hx
  exact fun a w f s => wp_region_lexL hm hB (hx a w.drew ⟨f.size, f.dfs, f.get⟩ s.drew)
end Go.Ck
namespace Go.Proofs.Ytkkjppeaaicgaaa
open Go Go.Ck
set_option maxRecDepth 100000
set_option maxHeartbeats 4000000
set_option linter.unusedVariables false

theorem spl_past_s {x : Sb} {u : List Int} {mv : Value} {l : List Dt} (hu : u.length = 16) : spl (sbc x) (0 + 2) (cxc u mv) = sbc ⟨x.d, u, hu, l, mv, x.b, x.bv⟩ := by
  obtain ⟨a0, a1, a2, a3, a4, a5, a6, a7, a8, a9, a10, a11, a12, a13, a14, a15, e⟩ := list16 x.u x.hu
  obtain ⟨b0, b1, b2, b3, b4, b5, b6, b7, b8, b9, b10, b11, b12, b13, b14, b15, e2⟩ := list16 u hu
  unfold sbc spl
  simp only [e, e2, cxc, up]
  rfl
theorem past_fit {x : Sb} : 0 + 2 + 17 ≤ (sbc x).toArray.size := by
  have := sbc_len x
  simp
  omega
theorem zero_no {d : Dt} (hd : rightB d = true) : hasC zeroU [] d = false := by
  obtain ⟨_, _, h3, _⟩ := right_of hd
  have hz : uD zeroU d = 0 := by
    unfold uD zeroU
    rw [List.getD_eq_getElem?_getD, List.getElem?_replicate]
    split <;> rfl
  unfold hasC
  rw [hz]
  simp
  omega
theorem nodup_of_sorted {l : List Sb} (h : ∀ i x y, l[i]? = some x → l[i + 1]? = some y → ordD x.d y.d < 0) : (l.map Sb.d).Nodup := by
  have hp : l.Pairwise fun x y => ordD x.d y.d < 0 := by
    induction l with
    | nil => exact List.Pairwise.nil
    | cons x l ih =>
      have ih := ih (fun i a b ha hb => h (i + 1) a b (by simpa using ha) (by simpa using hb))
      refine List.pairwise_cons.2 ⟨fun y hy => ?_, ih⟩
      cases l with
      | nil => cases hy
      | cons z l =>
        have h1 := h 0 x z (by simp) (by simp)
        rcases List.mem_cons.1 hy with rfl | hy
        · exact h1
        · exact ord_le_ltx h1 (ord_le_lt ((List.pairwise_cons.1 ih).1 y hy))
  show List.Pairwise _ _
  rw [List.pairwise_map]
  exact hp.imp (fun {a b} hab => by intro e; rw [← e] at hab; exact ord_self _ hab)
theorem SiblingAlone_sp (lv bv : Value) (l : List Sb) (body : List Int) (h : View) (hs : Rs h lv l) (hb : Bs8 h bv body) (hby : Bytes body) (hl : l.length ≤ 9223372036854775807) (hll : ∀ x ∈ l, x.l.length ≤ 9223372036854775807 ∧ x.b.length ≤ 9223372036854775807) (hbl : body.length ≤ 9223372036854775807) (w : World) (s : St ⟨w, h, []⟩ h [] w) :
    Calls Try.prog 3 [lv, bv].toArray w fun e w' => ∃ h', e = .returned (.bool true) ∧ St ⟨w, h, []⟩ h' [] w' := by
  refine calls_enter Try.func3 rfl Try.ntmps3 rfl s ?_
  repeat' (first | refine tw_ ?_ | (refine ta_ ?_; intro _) | ((fail_if_success (refine ybi rfl ?_)); refine ybj rfl ?_ ?_ <;> (intro ht; rw [ht]; first | replace ht := of_decide_eq_true ht | replace ht := of_decide_eq_false ht | skip)) | (refine ych ?_; first | (refine ybw rfl ?_ ?_ <;> intro ht) | (refine ybx rfl ?_ ?_ <;> intro ht)))
  (refine yco (ycp Try.func9 rfl (by kernel_rfl) rfl) (stame_sp lv l h hs hl hll) rfl rfl rfl ?_ ?_ ?_; (· (exact to_)); (· intro _ _ hle; (exact to_)); intro x px hle)
  obtain ⟨h1, v1, T⟩ := x
  obtain ⟨hT, eT⟩ := px
  dsimp only at hT eT
  have hle1 : Le h h1 := hle
  clear hle
  have lT : T.length ≤ 20 := by
    have := congrArg List.length eT
    simp at this
    omega
  have fT : ∀ x ∈ T, x.l.length ≤ 40 ∧ x.b.length ≤ 100 := fun x hx => by
    have h2 : x.a ∈ (l.take 20).map fun x => cutA 40 100 x.a := by rw [← eT]; exact List.mem_map_of_mem hx
    obtain ⟨y, _, e⟩ := List.mem_map.1 h2
    have e1 : x.l = y.l.take 40 := (congrArg (·.2.2.1) e).symm
    have e2 : x.b = y.b.take 100 := (congrArg (·.2.2.2) e).symm
    rw [e1, e2]
    simp
    omega
  repeat' (first | refine tw_ ?_ | (refine ta_ ?_; intro _) | ((fail_if_success (refine ybi rfl ?_)); refine ybj rfl ?_ ?_ <;> (intro ht; rw [ht]; first | replace ht := of_decide_eq_true ht | replace ht := of_decide_eq_false ht | skip)) | (refine ych ?_; first | (refine ybw rfl ?_ ?_ <;> intro ht) | (refine ybx rfl ?_ ?_ <;> intro ht)))
  (refine yco (ycp Try.func10 rfl (by kernel_rfl) rfl) (sto_sp v1 T h1 hT ⟨by omega, fun x hx => by have := fT x hx; omega⟩) rfl rfl rfl ?_ ?_ ?_; (· (exact to_)); (· intro _ _ hle; (exact to_)); intro x px hle)
  obtain ⟨h2, v2, I⟩ := x
  obtain ⟨hI, eI⟩ := px
  dsimp only at hI eI
  have hle2 : Le h1 h2 := hle
  clear hle
  have lI : I.length = T.length := by simpa using congrArg List.length eI
  have fI : ∀ x ∈ I, x.l.length ≤ 40 ∧ x.b.length ≤ 100 := fun x hx => by
    have h2 : x.a ∈ T.map Sb.a := by rw [← eI]; exact List.mem_map_of_mem hx
    obtain ⟨y, hy, e⟩ := List.mem_map.1 h2
    have e1 : x.l = y.l := (congrArg (·.2.2.1) e).symm
    have e2 : x.b = y.b := (congrArg (·.2.2.2) e).symm
    rw [e1, e2]
    exact fT y hy
  have FI : Fits I := ⟨by omega, fun x hx => by have := fI x hx; omega⟩
  repeat' (first | refine tw_ ?_ | (refine ta_ ?_; intro _) | ((fail_if_success (refine ybi rfl ?_)); refine ybj rfl ?_ ?_ <;> (intro ht; rw [ht]; first | replace ht := of_decide_eq_true ht | replace ht := of_decide_eq_false ht | skip)) | (refine ych ?_; first | (refine ybw rfl ?_ ?_ <;> intro ht) | (refine ybx rfl ?_ ?_ <;> intro ht)))
  have CI := scheck_sp v2 I h2 hI (by omega) (fun x hx => by have := fI x hx; omega)
  by_cases hz : checkA (I.map Sb.a) = 0
  · --
    (refine ycn (ycp Try.func11 rfl (by kernel_rfl) rfl) (sets_sp h2) rfl rfl rfl ?_ ?_; (· (exact to_)))
    repeat' (first | (refine ycf ?_; apply ybk; (· first | (exact tk_)); (· rfl); (· rfl)) | refine t1_ ?_ | (refine ta_ ?_; intro _) | ((fail_if_success (refine ybi rfl ?_)); refine ybj rfl ?_ ?_ <;> (intro ht; rw [ht]; first | replace ht := of_decide_eq_true ht | replace ht := of_decide_eq_false ht | skip)) | (refine ych ?_; first | (refine ybw rfl ?_ ?_ <;> intro ht) | (refine ybx rfl ?_ ?_ <;> intro ht)))
    (refine ycn (ycp Try.func12 rfl (by kernel_rfl) rfl) (CI) rfl rfl rfl ?_ ?_; (· (exact to_)))
    repeat' (first | (refine ycf ?_; apply ybk; (· first | (exact tk_)); (· rfl); (· rfl)) | refine t1_ ?_ | (refine ta_ ?_; intro _) | ((fail_if_success (refine ybi rfl ?_)); refine ybj rfl ?_ ?_ <;> (intro ht; rw [ht]; first | replace ht := of_decide_eq_true ht | replace ht := of_decide_eq_false ht | skip)) | (refine ych ?_; first | (refine ybw rfl ?_ ?_ <;> intro ht) | (refine ybx rfl ?_ ?_ <;> intro ht)))
    (refine yco (ycp Try.func13 rfl (by kernel_rfl) rfl) (sseen_sp v2 I h2 hI FI) rfl rfl rfl ?_ ?_ ?_; (· (exact to_)); (· intro _ _ hle; (exact to_)); intro x px hle)
    obtain ⟨h3, v3, u, m, e3⟩ := x
    obtain ⟨C3, R3⟩ := px
    dsimp only at C3 R3
    unfold SeenR at R3
    rw [if_neg (by rw [hz]; decide)] at R3
    have hle3 : Le h2 h3 := hle
    clear hle
    obtain ⟨hu, mv, hv3, s3⟩ := id C3
    subst hv3
    obtain ⟨_, ad3, cap3, hmv, _, _⟩ := id s3
    subst hmv
    rcases R3 with ⟨r1, _, _, _⟩ | ⟨r1, r2, r3, r4⟩
    · subst r1
      repeat' (first | (refine ycf ?_; apply ybk; (· first | (exact tk_)); (· rfl); (· rfl)) | (refine ybg 0 rfl rfl rfl (cxc_sz hu) (cxc_fit hu) (cxc_one rfl) (ybh (cxc_all hu)) rfl rfl ?_ ?_ ?_; (· (exact to_)); (· (exact to_))) | refine t1_ ?_ | (refine ta_ ?_; intro _) | ((fail_if_success (refine ybi rfl ?_)); refine ybj rfl ?_ ?_ <;> (intro ht; rw [ht]; first | replace ht := of_decide_eq_true ht | replace ht := of_decide_eq_false ht | skip)) | (refine ych ?_; first | (refine ybw rfl ?_ ?_ <;> intro ht) | (refine ybx rfl ?_ ?_ <;> intro ht)))
      exact nx_ret1 rfl (rv_tmp rfl) (fun w' s' => ⟨h, rfl, s'.nil.base⟩)
    subst r1
    have ck : checkC u m = 0 := check_inv r2 r3
    have NX1 := Next_sp _ u m 16 h3 C3 (by omega)
    by_cases hf : (nextC u m 16).2 = 0
    · obtain ⟨n, f⟩ : ∃ n, n = (nextC u m 16).1 := ⟨_, rfl⟩
      have hN : nextC u m 16 = (n, 0) := by rw [f, ← hf]
      rw [hN] at NX1
      repeat' (first | (refine ycf ?_; apply ybk; (· first | (first | exact tk_ | (apply yad; (· rfl); (· exact yaz 0 rfl); (· exact ycj hu)))); (· rfl); (· rfl)) | (refine ybg 0 rfl rfl rfl (cxc_sz hu) (cxc_fit hu) (cxc_one rfl) (ybh (cxc_all hu)) rfl rfl ?_ ?_ ?_; (· (exact to_)); (· (exact to_))) | refine t1_ ?_ | (refine ta_ ?_; intro _) | ((fail_if_success (refine ybi rfl ?_)); refine ybj rfl ?_ ?_ <;> (intro ht; rw [ht]; first | replace ht := of_decide_eq_true ht | replace ht := of_decide_eq_false ht | skip)) | (refine ych ?_; first | (refine ybw rfl ?_ ?_ <;> intro ht) | (refine ybx rfl ?_ ?_ <;> intro ht)))
      (refine ycn (ycp Try.func14 rfl (by kernel_rfl) rfl) (NX1) rfl rfl rfl ?_ ?_; (· (exact to_)))
      repeat' (first | (refine ycf ?_; apply ybk; (· first | (first | exact tk_ | (apply yad; (· rfl); (· exact yaz 0 rfl); (· exact ycj hu)))); (· rfl); (· rfl)) | (refine ybg 0 rfl rfl rfl (cxc_sz hu) (cxc_fit hu) (cxc_one rfl) (ybh (cxc_all hu)) rfl rfl ?_ ?_ ?_; (· (exact to_)); (· (exact to_))) | refine t1_ ?_ | (refine ta_ ?_; intro _) | ((fail_if_success (refine ybi rfl ?_)); refine ybj rfl ?_ ?_ <;> (intro ht; rw [ht]; first | replace ht := of_decide_eq_true ht | replace ht := of_decide_eq_false ht | skip)) | (refine ych ?_; first | (refine ybw rfl ?_ ?_ <;> intro ht) | (refine ybx rfl ?_ ?_ <;> intro ht)))
      rename_i b6
      obtain ⟨_, adb, capb, hbv, hcapb, _⟩ := id hb
      subst hbv
      obtain ⟨jb, hjb⟩ : ∃ j, j = min body.length 100 := ⟨_, rfl⟩
      have hjb1 := min_lim 100 hjb
      have hjbt : body.take jb = body.take 100 := by rw [hjb]; exact take_min
      have hle03 : Le h h3 := hle1.trans (hle2.trans hle3)
      have hb3 : Bs8 h3 (.slice adb jb capb) (body.take 100) := by
        have hx := sc_take (j := jb) (hb.mono hle03) (by omega)
        have hl : (body.take 100).length = jb := by rw [← hjbt]; simp; omega
        unfold Bs8
        rw [hl, ← hjbt]
        simpa [bcs, List.map_take] using hx
      obtain ⟨y, hy⟩ : ∃ y : Sb, y = ⟨(16, n), u, hu, m, .slice ad3 m.length cap3, body.take 100, .slice adb jb capb⟩ := ⟨_, rfl⟩
      have hfy : fillL (fun i : Nat => ([(0, 2), (2, 17), (19, 1)] : List (Nat × Nat))[i]?) ([.int .i64 0, .int .i64 0] ++ (up zeroU ++ [.slice none 0 0, .slice none 0 0])) [(0, .agg (dcs (16, n)).toArray), (1, .agg (cxc u (.slice ad3 m.length cap3)).toArray), (2, .slice adb jb capb)] = some (sbc y) := by
        rw [hy]; exact fill3 hu rfl
      have hyv : Sv h3 y := by rw [hy]; exact ⟨s3, hb3, fun b hb => hby b (List.mem_of_mem_take hb)⟩
      have hyo := hyv.one
      refine cx_region_drawX [Res.blk b6 (.cells (cxc u (.slice ad3 m.length cap3)).toArray 33 (0, 0))] [9, 10] rfl (by kernel_rfl) ?_
      repeat' (refine ycf ?_;(first|(first|(apply ybm;(·(first|(first|(apply yad;(·rfl);(·exact yaz 0 rfl);(·exact ycj hu))|(refine qv_min' rfl rfl hjb1)|(apply qv_slice_to;(·rfl);(·rfl);(·omega);(·omega))|(apply yax (cs := sbc y);(·rfl);(·exact hfy)))|exact tq_));(·rfl);(·rfl);(·(exact fun _ s => Hd.sub s (Le.refl _) (fun r hr => by rw [List.mem_singleton.1 hr];exact tm_))))|refine ybl rfl rfl ?_|((fail_if_success (refine ybi rfl ?_));refine ybj rfl ?_ ?_<;>(intro ht;rw [ht];first|replace ht := of_decide_eq_true ht|replace ht := of_decide_eq_false ht|skip))|(refine tb_ ?_ ?_ ?_;(·(first|exact ybf|(refine .inl ?_;(exact fun _ s => Hd.sub s (Le.refl _) (fun r hr => by rw [List.mem_singleton.1 hr];exact tm_)))|exact to_));(·intro _;(first|exact ybf|(refine .inl ?_;(exact fun _ s => Hd.sub s (Le.refl _) (fun r hr => by rw [List.mem_singleton.1 hr];exact tm_)))|exact to_));intro _)|(first|(refine ybg 0 rfl rfl rfl (sbc_sz y) (sbc_fit rfl) (sbc_one hyo.1 hyo.2) (ybh (sbc_all rfl)) rfl rfl ?_ ?_ ?_;(·(first|exact ybf|(refine .inl ?_;(exact fun _ s => Hd.sub s (Le.refl _) (fun r hr => by rw [List.mem_singleton.1 hr];exact tm_)))|exact to_));(·(first|exact ybf|(refine .inl ?_;(exact fun _ s => Hd.sub s (Le.refl _) (fun r hr => by rw [List.mem_singleton.1 hr];exact tm_)))|exact to_)))|(refine tqs_ ?_ ?_ ?_;(·(first|exact ybf|(refine .inl ?_;(exact fun _ s => Hd.sub s (Le.refl _) (fun r hr => by rw [List.mem_singleton.1 hr];exact tm_)))|exact to_));(·(first|exact ybf|(refine .inl ?_;(exact fun _ s => Hd.sub s (Le.refl _) (fun r hr => by rw [List.mem_singleton.1 hr];exact tm_)))|exact to_))))|(apply ybn;(·(first|(first|(apply yad;(·rfl);(·exact yaz 0 rfl);(·exact ycj hu))|(refine qv_min' rfl rfl hjb1)|(apply qv_slice_to;(·rfl);(·rfl);(·omega);(·omega))|(apply yax (cs := sbc y);(·rfl);(·exact hfy)))|exact tq_));(·rfl);(·rfl);(·rfl);(·(first|exact ybf|(refine .inl ?_;(exact fun _ s => Hd.sub s (Le.refl _) (fun r hr => by rw [List.mem_singleton.1 hr];exact tm_)))|exact to_))))|refine ycg ?_))
      rename_i b10
      have hyl := sbc_len y
      repeat' (first | (refine ycf ?_; apply ybk; (· first | (first | exact tk_ | (apply yad; (· rfl); (· exact yaz 0 rfl); (· exact hyl)))); (· rfl); (· rfl)) | (refine ybg 0 rfl rfl rfl (sbc_sz y) (sbc_fit rfl) (sbc_one hyo.1 hyo.2) (ybh (sbc_all rfl)) rfl rfl ?_ ?_ ?_; (· (exact to_)); (· (exact to_))) | refine t1_ ?_ | (refine ta_ ?_; intro _) | ((fail_if_success (refine ybi rfl ?_)); refine ybj rfl ?_ ?_ <;> (intro ht; rw [ht]; first | replace ht := of_decide_eq_true ht | replace ht := of_decide_eq_false ht | skip)) | (refine ych ?_; first | (refine ybw rfl ?_ ?_ <;> intro ht) | (refine ybx rfl ?_ ?_ <;> intro ht)))
      have ey : y.a = ((16, n), u, m, body.take 100) := by rw [hy]; rfl
      have dy : y.d = (16, n) := by rw [hy]
      obtain ⟨hub, _, hmr⟩ := check_right ck
      have hbd := lastN_bd (c := 16) hub m hmr
      have hmax := lastN_max ck 16
      have hn : lastN u m 16 ≠ 1099511627776 ∧ n = lastN u m 16 + 1 := by
        unfold nextC at hN
        rw [if_neg (by rw [ck]; decide)] at hN
        split at hN
        · cases hN
        · rename_i hne
          cases hN
          exact ⟨hne, rfl⟩
      have hrn : rightB (16, n) = true := by
        unfold rightB
        simp only [Bool.and_eq_true, decide_eq_true_eq]
        omega
      have hno : hasC u m (16, n) = false := by
        unfold hasC uD
        rw [Bool.or_eq_false_iff]
        refine ⟨decide_eq_false ?_, decide_eq_false fun hm => ?_⟩
        · have := hmax.1
          show ¬ n ≤ u.getD ((16 : Int) - 1).toNat 0
          omega
        · have := hmax.2.1 (16, n) hm rfl
          have h2 : n ≤ lastN u m 16 := this
          omega
      obtain ⟨cI1, cI2, cI3, cI4⟩ := checkA_ok hz
      have hrI : ∀ x ∈ I, rightB x.d = true := fun x hx => (rightA_ok (cI2 x.a (List.mem_map_of_mem hx))).1
      have hseen : ∀ x ∈ I, hasC u m x.d = true := fun x hx => by
        rw [r4 _ (hrI x hx)]
        exact List.any_eq_true.2 ⟨x.a, List.mem_map_of_mem hx, by show (decide (x.d = x.d) || _) = true; simp⟩
      have hyA : ∀ d, rightB d = true → hasA y.a d = hasC u m d := fun d hd => by
        rw [ey]
        show (decide (checkC u m = 0) && rightB d && hasC u m d) = _
        rw [ck, hd]
        rfl
      have hIno : ∀ x ∈ I, hasA x.a (16, n) = false := fun x hx => by
        cases hc : hasA x.a (16, n) with
        | false => rfl
        | true =>
          exfalso
          have h1 : hasC x.u x.l (16, n) = true := by
            have : (decide (checkC x.u x.l = 0) && rightB (16, n) && hasC x.u x.l (16, n)) = true := hc
            simp only [Bool.and_eq_true] at this
            exact this.2
          have h2 : seenA (I.map Sb.a) (16, n) = true := List.any_eq_true.2 ⟨x.a, List.mem_map_of_mem hx, by show (decide ((16, n) = x.d) || hasC x.u x.l (16, n)) = true; rw [h1]; simp⟩
          rw [← r4 _ hrn, hno] at h2
          cases h2
      have hyself : hasA y.a (16, n) = false := by rw [hyA _ hrn, hno]
      have ry : rightA y.a = true := by
        unfold rightA
        rw [show y.a.1 = (16, n) by rw [ey], hyself, hrn, ey]
        show (true && (decide (checkC u m = 0) && (!false && decide (((body.take 100).length : Int) ≤ 16384)))) = true
        rw [ck]
        simp
        omega
      have hdd : ∀ x ∈ I, x.d ≠ (16, n) := fun x hx e => by
        have := hseen x hx
        rw [e, hno] at this
        cases this
      have ndI : (I.map Sb.d).Nodup := nodup_of_sorted (fun i x y hx hy => cI3 i x.a y.a (by rw [List.getElem?_map, hx]; rfl) (by rw [List.getElem?_map, hy]; rfl))
      have nd : ((I ++ [y]).map Sb.d).Nodup := by
        rw [List.map_append, List.nodup_append]
        refine ⟨ndI, by simp, fun a ha b hb e => ?_⟩
        obtain ⟨x, hx, rfl⟩ := List.mem_map.1 ha
        have : b = y.d := by simpa using hb
        exact hdd x hx (by rw [e, this, dy])
      have g1 : ((I ++ [y]).filter fun x => freeS (I.map Sb.a) [y.a] x.a) = [y] := by
        rw [List.filter_append]
        have e1 : (I.filter fun x => freeS (I.map Sb.a) [y.a] x.a) = [] := List.filter_eq_nil_iff.2 fun x hx => by
          unfold freeS
          rw [show ([y.a].any fun z => hasA z x.a.1) = true by simp [show x.a.1 = x.d from rfl, hyA _ (hrI x hx), hseen x hx]]
          simp
        have e2 : freeS (I.map Sb.a) [y.a] y.a = true := by
          unfold freeS
          have q1 : ((I.map Sb.a).any fun z => hasA z y.a.1) = false := by
            rw [List.any_eq_false]
            intro z hz'
            obtain ⟨x, hx, rfl⟩ := List.mem_map.1 hz'
            rw [show y.a.1 = (16, n) by rw [ey], hIno x hx]
            decide
          rw [q1]
          simp [show y.a.1 = (16, n) by rw [ey], hyself]
        rw [e1, List.nil_append, List.filter_cons_of_pos (p := fun x : Sb => freeS (I.map Sb.a) [y.a] x.a) e2]
        rfl
      have hly : y.l.length ≤ 1000000 ∧ y.b.length ≤ 1000000 := by rw [hy]; exact ⟨by show m.length ≤ _; omega, by show (body.take 100).length ≤ _; simp; omega⟩
      have hI3 := hI.mono hle3
      (refine yco (ycp Try.func15 rfl (by kernel_rfl) rfl) (put_sp v2 I y h3 hI3 hyv FI hly) rfl rfl rfl ?_ ?_ ?_; (· (exact to_)); (· intro _ _ hle; (exact to_)); intro x px hle)
      obtain ⟨h4, v4, M4, e4⟩ := x
      obtain ⟨S4, R4⟩ := px
      dsimp only at S4 R4
      have hle4 : Le h3 h4 := hle
      clear hle
      obtain ⟨T4, q1, q2, q3, q4⟩ := sets1 v4 I y M4 e4 R4 hz (check_single ry) nd _ g1 (by show 1 ≤ 64; decide)
      rw [perm_one q1] at q4
      subst q3
      obtain ⟨m4, rfl, hm4⟩ := map_one q4
      clear q1 q2 q4 R4
      obtain ⟨y2, hy2⟩ : ∃ y2 : Sb, y2 = ⟨y.d, zeroU, rfl, [], .slice none 0 0, y.b, y.bv⟩ := ⟨_, rfl⟩
      have es : spl (sbc y) (0 + 2) (cxc zeroU (.slice none 0 0)) = sbc y2 := by rw [hy2]; exact spl_past_s rfl
      have hl2 := sbc_len y2
      repeat' (first | (refine ycf ?_; apply ybk; (· first | (first | exact tk_ | (apply yad; (· rfl); (· exact yaz 0 rfl); (· exact hl2)))); (· rfl); (· rfl)) | (refine ybg 0 rfl rfl rfl rfl past_fit rfl es rfl rfl ?_ ?_ ?_; (· (exact to_)); (· (exact to_))) | refine t1_ ?_ | (refine ta_ ?_; intro _) | ((fail_if_success (refine ybi rfl ?_)); refine ybj rfl ?_ ?_ <;> (intro ht; rw [ht]; first | replace ht := of_decide_eq_true ht | replace ht := of_decide_eq_false ht | skip)) | (refine ych ?_; first | (refine ybw rfl ?_ ?_ <;> intro ht) | (refine ybx rfl ?_ ?_ <;> intro ht)))
      have ey2 : y2.a = ((16, n), zeroU, [], body.take 100) := by rw [hy2, hy]; rfl
      have hy2A : ∀ d, rightB d = true → hasA y2.a d = false := fun d hd => by
        rw [ey2]
        show (decide (checkC zeroU [] = 0) && rightB d && hasC zeroU [] d) = _
        rw [zero_no hd, Bool.and_false]
      have ry2 : rightA y2.a = true := by
        unfold rightA
        rw [show y2.a.1 = (16, n) by rw [ey2], hy2A _ hrn, hrn, ey2]
        show (true && (decide (checkC zeroU [] = 0) && (!false && decide (((body.take 100).length : Int) ≤ 16384)))) = true
        rw [show checkC zeroU [] = 0 by kernel_rfl]
        simp
        omega
      have nd2 : ((I ++ [y2]).map Sb.d).Nodup := by
        rw [List.map_append, List.nodup_append]
        refine ⟨ndI, by simp, fun a ha b hb e => ?_⟩
        obtain ⟨x, hx, rfl⟩ := List.mem_map.1 ha
        have : b = y2.d := by simpa using hb
        exact hdd x hx (by rw [e, this, show y2.d = (16, n) from congrArg (·.1) ey2])
      have g2 : ((I ++ [y2]).filter fun x => freeS (I.map Sb.a) [y2.a] x.a) = I ++ [y2] := List.filter_eq_self.2 fun x hx => by
        have hxr : rightB x.a.1 = true ∧ ∀ z ∈ I, hasA z.a x.a.1 = false := by
          rcases List.mem_append.1 hx with hx | hx
          · exact ⟨hrI x hx, fun z hz' => cI4 x.a (List.mem_map_of_mem hx) z.a (List.mem_map_of_mem hz')⟩
          · rw [List.mem_singleton.1 hx, show y2.a.1 = (16, n) by rw [ey2]]
            exact ⟨hrn, fun z hz' => hIno z hz'⟩
        unfold freeS
        have q1 : ((I.map Sb.a).any fun z => hasA z x.a.1) = false := by
          rw [List.any_eq_false]
          intro z hz'
          obtain ⟨zz, hzz, rfl⟩ := List.mem_map.1 hz'
          rw [hxr.2 zz hzz]
          decide
        rw [q1]
        simp [hy2A _ hxr.1]
      have hy2v : Sv h4 y2 := by rw [hy2]; exact ⟨Sc.nil h4 2 none 0, hyv.bs.mono hle4, hyv.by8⟩
      have hly2 : y2.l.length ≤ 1000000 ∧ y2.b.length ≤ 1000000 := by rw [hy2]; exact ⟨Nat.zero_le _, hly.2⟩
      (refine yco (ycp Try.func15 rfl (by kernel_rfl) rfl) (put_sp v2 I y2 h4 (hI3.mono hle4) hy2v FI hly2) rfl rfl rfl ?_ ?_ ?_; (· (exact to_)); (· intro _ _ hle; (exact to_)); intro x px hle)
      obtain ⟨h5, v5, M5, e5⟩ := x
      obtain ⟨S5, R5⟩ := px
      dsimp only at S5 R5
      have hle5 : Le h4 h5 := hle
      clear hle
      obtain ⟨T5, q1, q2, q3, q4⟩ := sets1 v5 I y2 M5 e5 R5 hz (check_single ry2) nd2 _ g2 (by rw [List.length_append]; simp; omega)
      have l5 : M5.length = I.length + 1 := by
        have h1 := congrArg List.length q4
        have h2 := q1.length_eq
        rw [List.length_map, List.length_map] at h1
        rw [List.length_append, List.length_singleton] at h2
        omega
      subst q3
      clear q1 q2 q4 R5
      obtain ⟨_, ad4, cap4, hv4, _, _⟩ := id S4.1
      subst hv4
      obtain ⟨b4, o4, hb4⟩ := S4.1.ad (by show 0 < 1; decide) (by decide)
      subst hb4
      obtain ⟨_, ad5, cap5, hv5, _, _⟩ := id S5.1
      subst hv5
      obtain ⟨_, ad1, cap1, hv1, _, _⟩ := id hT.1
      subst hv1
      have S45 := S4.mono hle5
      have hel : ∀ L, Cells h5 L ⟨b4, o4 + 0 * 20, none⟩ (sbc m4) := fun L => S45.1.elem sbc_len 0 (by show 0 < 1; decide)
      have hmv4 := S45.2 m4 (List.mem_singleton.2 rfl)
      have l4 : [m4].length = 1 := rfl
      have dm4 : m4.d = y2.d := by rw [show m4.d = y.d from congrArg (·.1) hm4, hy2]
      have bm4 : m4.b = y2.b := by rw [show m4.b = y.b from congrArg (·.2.2.2) hm4, hy2]
      have hde : decide (m4.d = y2.d) = true := decide_eq_true dm4
      have hbs2 := (hy2v.mono hle5).bs
      repeat' (first|(refine ycf ?_;apply ybk;(·first|(first|exact tk_|(refine qv_eql_agg (t := true) rfl rfl (fun w => by rw [← hde];exact dot_eq _ _ w))|(apply yad;(·rfl);(·exact sb_dot (hel _));(·rfl))|(apply yad;(·rfl);(·exact sb_dot (yaz 0 rfl));(·rfl))|exact qv_str_bs rfl hmv4.bs|exact qv_str_bs rfl hbs2|(apply qv_eql_str (t := true);(·rfl);(·rfl);(·rw [bm4];simp)))|(apply yae;(·rfl);(·(first|exact sb_body (hel _)|exact sb_body0 (yaz 0 rfl) rfl))));(·rfl);(·rfl))|(refine ybg 0 rfl rfl rfl rfl past_fit rfl es rfl rfl ?_ ?_ ?_;(·(exact to_));(·(exact to_)))|refine t1_ ?_|(refine ta_ ?_;intro _)|((fail_if_success (refine ybi rfl ?_));refine ybj rfl ?_ ?_<;>(intro ht;rw [ht];first|replace ht := of_decide_eq_true ht|replace ht := of_decide_eq_false ht|skip))|(refine ych ?_;first|(refine ybw rfl ?_ ?_<;>intro ht)|(refine ybx rfl ?_ ?_<;>intro ht)))
      refine cx_region_draw' rfl (by kernel_rfl) ?_
      repeat' (refine ycf ?_;(first|(first|(apply ybm;(·(first|(first|exact tk_|(refine qv_eql_agg (t := true) rfl rfl (fun w => by rw [← hde];exact dot_eq _ _ w))|(apply yad;(·rfl);(·exact sb_dot (hel _));(·rfl))|(apply yad;(·rfl);(·exact sb_dot (yaz 0 rfl));(·rfl))|exact qv_str_bs rfl hmv4.bs|exact qv_str_bs rfl hbs2|(apply qv_eql_str (t := true);(·rfl);(·rfl);(·rw [bm4];simp)))|(apply yae;(·rfl);(·(first|exact sb_body (hel _)|exact sb_body0 (yaz 0 rfl) rfl)))|exact tq_));(·rfl);(·rfl);(·(exact th_)))|refine ybl rfl rfl ?_|((fail_if_success (refine ybi rfl ?_));refine ybj rfl ?_ ?_<;>(intro ht;rw [ht];first|replace ht := of_decide_eq_true ht|replace ht := of_decide_eq_false ht|skip))|(refine tb_ ?_ ?_ ?_;(·(exact to_));(·intro _;(exact to_));intro _)|(first|(refine ybg 0 rfl rfl rfl rfl past_fit rfl es rfl rfl ?_ ?_ ?_;(·(exact to_));(·(exact to_)))|(refine tqs_ ?_ ?_ ?_;(·(exact to_));(·(exact to_))))|(apply ybn;(·(first|(first|exact tk_|(refine qv_eql_agg (t := true) rfl rfl (fun w => by rw [← hde];exact dot_eq _ _ w))|(apply yad;(·rfl);(·exact sb_dot (hel _));(·rfl))|(apply yad;(·rfl);(·exact sb_dot (yaz 0 rfl));(·rfl))|exact qv_str_bs rfl hmv4.bs|exact qv_str_bs rfl hbs2|(apply qv_eql_str (t := true);(·rfl);(·rfl);(·rw [bm4];simp)))|(apply yae;(·rfl);(·(first|exact sb_body (hel _)|exact sb_body0 (yaz 0 rfl) rfl)))|exact tq_));(·rfl);(·rfl);(·rfl);(·(exact to_))))|refine ycg ?_))
      repeat' (first|(refine ycf ?_;apply ybk;(·first|(first|exact tk_|(refine qv_eql_agg (t := true) rfl rfl (fun w => by rw [← hde];exact dot_eq _ _ w))|(apply yad;(·rfl);(·exact sb_dot (hel _));(·rfl))|(apply yad;(·rfl);(·exact sb_dot (yaz 0 rfl));(·rfl))|exact qv_str_bs rfl hmv4.bs|exact qv_str_bs rfl hbs2|(apply qv_eql_str (t := true);(·rfl);(·rfl);(·rw [bm4];simp)))|(apply yae;(·rfl);(·(first|exact sb_body (hel _)|exact sb_body0 (yaz 0 rfl) rfl))));(·rfl);(·rfl))|(refine ybg 0 rfl rfl rfl rfl past_fit rfl es rfl rfl ?_ ?_ ?_;(·(exact to_));(·(exact to_)))|refine t1_ ?_|(refine ta_ ?_;intro _)|((fail_if_success (refine ybi rfl ?_));refine ybj rfl ?_ ?_<;>(intro ht;rw [ht];first|replace ht := of_decide_eq_true ht|replace ht := of_decide_eq_false ht|skip))|(refine ych ?_;first|(refine ybw rfl ?_ ?_<;>intro ht)|(refine ybx rfl ?_ ?_<;>intro ht)))
      exact nx_ret1 rfl (rv_tmp rfl) (fun w' s' => ⟨h, rfl, s'.nil.base⟩)
    · repeat' (first|(refine ycf ?_;apply ybk;(·first|(first|exact tk_|(apply yad;(·rfl);(·exact yaz 0 rfl);(·exact ycj hu)))|(apply yae;(·rfl);(·(first|exact sb_body (hel _)|exact sb_body0 (yaz 0 rfl) rfl))));(·rfl);(·rfl))|(refine ybg 0 rfl rfl rfl (cxc_sz hu) (cxc_fit hu) (cxc_one rfl) (ybh (cxc_all hu)) rfl rfl ?_ ?_ ?_;(·(exact to_));(·(exact to_)))|refine t1_ ?_|(refine ta_ ?_;intro _)|((fail_if_success (refine ybi rfl ?_));refine ybj rfl ?_ ?_<;>(intro ht;rw [ht];first|replace ht := of_decide_eq_true ht|replace ht := of_decide_eq_false ht|skip))|(refine ych ?_;first|(refine ybw rfl ?_ ?_<;>intro ht)|(refine ybx rfl ?_ ?_<;>intro ht)))
      (refine ycn (ycp Try.func14 rfl (by kernel_rfl) rfl) (NX1) rfl rfl rfl ?_ ?_; (· (exact to_)))
      repeat' (first|(refine ycf ?_;apply ybk;(·first|(first|exact tk_|(apply yad;(·rfl);(·exact yaz 0 rfl);(·exact ycj hu)))|(apply yae;(·rfl);(·(first|exact sb_body (hel _)|exact sb_body0 (yaz 0 rfl) rfl))));(·rfl);(·rfl))|(refine ybg 0 rfl rfl rfl (cxc_sz hu) (cxc_fit hu) (cxc_one rfl) (ybh (cxc_all hu)) rfl rfl ?_ ?_ ?_;(·(exact to_));(·(exact to_)))|refine t1_ ?_|(refine ta_ ?_;intro _)|((fail_if_success (refine ybi rfl ?_));refine ybj rfl ?_ ?_<;>(intro ht;rw [ht];first|replace ht := of_decide_eq_true ht|replace ht := of_decide_eq_false ht|skip))|(refine ych ?_;first|(refine ybw rfl ?_ ?_<;>intro ht)|(refine ybx rfl ?_ ?_<;>intro ht)))
      exact nx_ret1 rfl (rv_tmp rfl) (fun w' s' => ⟨h, rfl, s'.nil.base⟩)
  · --
    (refine ycn (ycp Try.func11 rfl (by kernel_rfl) rfl) (sets_sp h2) rfl rfl rfl ?_ ?_; (· (exact to_)))
    repeat' (first | (refine ycf ?_; apply ybk; (· first | (exact tk_) | (apply yae; (· rfl); (· (first | exact sb_body (hel _) | exact sb_body0 (yaz 0 rfl) rfl)))); (· rfl); (· rfl)) | (refine ybg 0 rfl rfl rfl (cxc_sz hu) (cxc_fit hu) (cxc_one rfl) (ybh (cxc_all hu)) rfl rfl ?_ ?_ ?_; (· (exact to_)); (· (exact to_))) | refine t1_ ?_ | (refine ta_ ?_; intro _) | ((fail_if_success (refine ybi rfl ?_)); refine ybj rfl ?_ ?_ <;> (intro ht; rw [ht]; first | replace ht := of_decide_eq_true ht | replace ht := of_decide_eq_false ht | skip)) | (refine ych ?_; first | (refine ybw rfl ?_ ?_ <;> intro ht) | (refine ybx rfl ?_ ?_ <;> intro ht)))
    (refine ycn (ycp Try.func12 rfl (by kernel_rfl) rfl) (CI) rfl rfl rfl ?_ ?_; (· (exact to_)))
    repeat' (first | (refine ycf ?_; apply ybk; (· first | (exact tk_) | (apply yae; (· rfl); (· (first | exact sb_body (hel _) | exact sb_body0 (yaz 0 rfl) rfl)))); (· rfl); (· rfl)) | (refine ybg 0 rfl rfl rfl (cxc_sz hu) (cxc_fit hu) (cxc_one rfl) (ybh (cxc_all hu)) rfl rfl ?_ ?_ ?_; (· (exact to_)); (· (exact to_))) | refine t1_ ?_ | (refine ta_ ?_; intro _) | ((fail_if_success (refine ybi rfl ?_)); refine ybj rfl ?_ ?_ <;> (intro ht; rw [ht]; first | replace ht := of_decide_eq_true ht | replace ht := of_decide_eq_false ht | skip)) | (refine ych ?_; first | (refine ybw rfl ?_ ?_ <;> intro ht) | (refine ybx rfl ?_ ?_ <;> intro ht)))
    (refine ycn (ycp Try.func11 rfl (by kernel_rfl) rfl) (sets_sp h2) rfl rfl rfl ?_ ?_; (· (exact to_)))
    repeat' (first | (refine ycf ?_; apply ybk; (· first | (exact tk_) | (apply yae; (· rfl); (· (first | exact sb_body (hel _) | exact sb_body0 (yaz 0 rfl) rfl)))); (· rfl); (· rfl)) | (refine ybg 0 rfl rfl rfl (cxc_sz hu) (cxc_fit hu) (cxc_one rfl) (ybh (cxc_all hu)) rfl rfl ?_ ?_ ?_; (· (exact to_)); (· (exact to_))) | refine t1_ ?_ | (refine ta_ ?_; intro _) | ((fail_if_success (refine ybi rfl ?_)); refine ybj rfl ?_ ?_ <;> (intro ht; rw [ht]; first | replace ht := of_decide_eq_true ht | replace ht := of_decide_eq_false ht | skip)) | (refine ych ?_; first | (refine ybw rfl ?_ ?_ <;> intro ht) | (refine ybx rfl ?_ ?_ <;> intro ht)))
    exact nx_ret1 rfl (rv_tmp rfl) (fun w' s' => ⟨h, rfl, s'.nil.base⟩)
end Go.Proofs.Ytkkjppeaaicgaaa
end

section
namespace Go.Ck
open Go Go.ChangeShapes
set_option linter.unusedVariables false
section
variable {H : Type} {enc : TypeId × Value → H} {P : Program} {w : World} {base : Nat} {spare : Nat → Bool} {held : Bool}

theorem trod_fields {t : TypeId} {fs : Array Field} {fuel : Nat} {cs : List Value} {x : DataW H × List MemPlace} (ht : P.underlying t = some (.struct fs)) (h : DataW.trod enc P w base spare held fuel t cs = some x) :
    cs.length = P.cellsOf t ∧ ∀ f ∈ fs.toList, ∃ m y, DataW.trod enc P w base spare held m f.type ((cs.drop f.offset).take (P.cellsOf f.type)) = some y := by
  cases fuel with
  | zero => simp [DataW.trod] at h
  | succ n =>
    unfold DataW.trod at h
    simp only [ht] at h
    split at h
    · rename_i hl
      obtain ⟨xs, hxs, _⟩ := Option.map_eq_some_iff.1 h
      refine ⟨hl, fun f hf => ?_⟩
      obtain ⟨i, hi, rfl⟩ := List.getElem_of_mem hf
      have := mapM_some_get hxs i _ (List.getElem?_eq_getElem hi)
      have hlen := mapM_some_length hxs
      rw [List.getElem?_eq_getElem (by omega)] at this
      exact ⟨n, _, this⟩
    · cases h

theorem trod_elems {t e : TypeId} {k fuel : Nat} {cs : List Value} {x : DataW H × List MemPlace} (ht : P.underlying t = some (.array k e)) (h : DataW.trod enc P w base spare held fuel t cs = some x) :
    cs.length = P.cellsOf t ∧ ∀ i, i < k → ∃ m y, DataW.trod enc P w base spare held m e ((cs.drop (i * P.cellsOf e)).take (P.cellsOf e)) = some y := by
  cases fuel with
  | zero => simp [DataW.trod] at h
  | succ n =>
    unfold DataW.trod at h
    simp only [ht] at h
    split at h
    · rename_i hl
      obtain ⟨xs, hxs, _⟩ := Option.map_eq_some_iff.1 h
      refine ⟨hl, fun i hi => ?_⟩
      have := mapM_some_get hxs i i (by simp [hi])
      have hlen := mapM_some_length hxs
      rw [List.getElem?_eq_getElem (by simp at hlen; omega)] at this
      exact ⟨n, _, this⟩
    · cases h
end
end Go.Ck
end

section
namespace Go.Ck
open Go Go.ChangeShapes
set_option linter.unusedVariables false
set_option maxHeartbeats 1000000
section
variable {H : Type} {enc : TypeId × Value → H} {P : Program} {w : World} {base : Nat} {spare : Nat → Bool} {held : Bool}

theorem cells_get' {a : Addr} {n : Nat} {cs : List Value} (h : w.cells? base a n = some cs) {j : Nat} {u : Value} (hj : cs[j]? = some u) : w.cell? (a.add j) = some u := by
  unfold World.cells? at h
  split at h
  · have hl := mapM_some_length h
    have hjl : j < cs.length := (List.getElem?_eq_some_iff.1 hj).1
    have := mapM_some_get h j j (by rw [List.length_range] at hl; exact List.getElem?_range (by omega))
    rw [this, hj]
  · cases h

theorem trod_slice_of {T e k : Nat} {α : Type} {en : α → List Value} {R : α → Prop} (tu : P.underlying T = some (.slice e)) (hc : P.cellsOf e = k) (hk0 : 0 < k) (hlen : ∀ x, (en x).length = k)
    (hel : ∀ (m : Nat) (cs : List Value) (y : DataW H × List MemPlace), DataW.trod enc P w base spare held m e cs = some y → ∃ x : α, R x ∧ cs = en x)
    {m : Nat} {cs : List Value} {y : DataW H × List MemPlace} (h : DataW.trod enc P w base spare held m T cs = some y) :
    ∃ (v : Value) (l : List α), cs = [v] ∧ Sc (fun b => w.heap[b]?) k v l.length (l.flatMap en) ∧ l.length ≤ maxLen ∧ ∀ x ∈ l, R x := by
  subst hc
  rcases Go.Deep.open_slice tu h with ⟨rfl, _⟩ | ⟨a, len, cap, q, n, D, Pl, rfl, _, h1, h2, hk, _, hall⟩
  · exact ⟨_, [], rfl, Sc.nil _ _ none 0, Nat.zero_le _, fun x hx => by cases hx⟩
  · have hkl : len ≤ q := by rw [hk]; split <;> omega
    have hex : ∀ i, i < len → ∃ d : α, R d ∧ w.cells? base (a.add (i * P.cellsOf e)) (P.cellsOf e) = some (en d) := fun i hi => by
      obtain ⟨cs', e1, e2⟩ := hall i (by omega)
      obtain ⟨d, hr, rfl⟩ := hel _ _ _ e2
      exact ⟨d, hr, e1⟩
    generalize P.cellsOf e = k at hex hk0 hlen ⊢
    by_cases h0 : len = 0
    · subst h0
      exact ⟨_, [], rfl, ⟨by simp, some a, cap, rfl, Nat.zero_le _, .inl rfl⟩, Nat.zero_le _, fun x hx => by cases hx⟩
    obtain ⟨d0, _⟩ := hex 0 (by omega)
    obtain ⟨f, hf'⟩ : ∃ f : Nat → α, ∀ i, i < len → R (f i) ∧ w.cells? base (a.add (i * k)) k = some (en (f i)) := by
      classical
      exact ⟨fun i => if hi : i < len then (hex i hi).choose else d0, fun i hi => by
        dsimp only
        rw [dif_pos hi]
        exact (hex i hi).choose_spec⟩
    have hf := fun i hi => (hf' i hi).2
    refine ⟨_, (List.range len).map f, rfl, ⟨?_, some a, cap, by simp, by simpa using h1, ?_⟩, by simp; omega, fun x hx => ?_⟩
    · rw [flat_len hlen]
    · refine .inr ?_
      have hc00 : 0 < (en (f 0)).length := by rw [hlen]; exact hk0
      have hc0 := cells_get' (hf 0 (by omega)) (j := 0) (List.getElem?_eq_getElem hc00)
      obtain ⟨b, o, sp⟩ := a
      have hadd : ∀ i j, ((⟨b, o, sp⟩ : Addr).add i).add j = (⟨b, o, sp⟩ : Addr).add (i + j) := fun i j => Go.Deep.add_add _ i j
      rw [hadd] at hc0
      have hblk : ((⟨b, o, sp⟩ : Addr).add (0 * k + 0)) = ⟨b, o, sp⟩ := by simp [Addr.add]
      rw [hblk] at hc0
      unfold World.cell? at hc0
      split at hc0
      · rename_i c e fz hb
        split at hc0
        · cases hc0
        · rename_i hsp
          have hsp' : sp = none := by simpa using hsp
          subst hsp'
          refine ⟨b, o, c, e, fz, rfl, hb, fun j u hj => ?_⟩
          have hjl : j < len * k := by
            have := (List.getElem?_eq_some_iff.1 hj).1
            rw [flat_len hlen] at this
            simpa using this
          have hjk : j / k < len := Nat.div_lt_of_lt_mul (by rw [Nat.mul_comm]; exact hjl)
          have hd : j / k < ((List.range len).map f).length := by simpa using hjk
          have e1 : (((List.range len).map f).flatMap en)[j]? = (en (f (j / k)))[j % k]? := by
            have := flat_at hlen ((List.range len).map f) (j / k) hd
            have e3 : ((List.range len).map f)[j / k] = f (j / k) := by simp
            rw [e3] at this
            rw [← this, List.getElem?_take_of_lt (Nat.mod_lt _ hk0), List.getElem?_drop]
            congr 1
            rw [Nat.mul_comm]
            exact (Nat.div_add_mod j k).symm
          rw [e1] at hj
          have := cells_get' (hf (j / k) hjk) hj
          rw [hadd, Addr.add_off] at this
          unfold World.cell? at this
          simp only [hb] at this
          simp only [Option.isSome_none, Bool.false_eq_true, if_false] at this
          have ej : j / k * k + j % k = j := by rw [Nat.mul_comm]; exact Nat.div_add_mod j k
          rw [ej] at this
          exact this
      · cases hc0
    · obtain ⟨i, hi, rfl⟩ := List.mem_map.1 hx
      exact (hf' i (by simpa using hi)).1
end
end Go.Ck
end

section
namespace Go.Proofs.Ytkkjppeaaicgaaa
open Go Go.Ck Go.ChangeShapes
set_option maxRecDepth 100000
set_option maxHeartbeats 1000000
set_option linter.unusedVariables false

theorem cellsDot : Try.prog.cellsOf 39 = 2 := by kernel_rfl
theorem cellsInt : Try.prog.cellsOf 3 = 1 := by kernel_rfl
theorem cellsArr : Try.prog.cellsOf 30 = 16 := by kernel_rfl
theorem cellsSl : Try.prog.cellsOf 31 = 1 := by kernel_rfl
theorem cellsCx : Try.prog.cellsOf 69 = 17 := by kernel_rfl
section
variable {H : Type} {enc : TypeId × Value → H} {w : World} {base : Nat} {spare : Nat → Bool} {held : Bool}

theorem trod_dot {m : Nat} {cs : List Value} {y : DataW H × List MemPlace} (h : DataW.trod enc Try.prog w base spare held m 39 cs = some y) : ∃ d : Dt, cs = dcs d := by
  obtain ⟨hl, hf⟩ := trod_fields Try.underlying39 h
  rw [cellsDot] at hl
  match cs, hl with
  | [a, b], _ =>
    obtain ⟨m1, y1, h1⟩ := hf _ (List.mem_cons_self ..)
    obtain ⟨m2, y2, h2⟩ := hf _ (List.mem_cons_of_mem _ (List.mem_cons_self ..))
    rw [cellsInt] at h1 h2
    obtain ⟨n1, e1, _⟩ := DataW.trod_int Try.underlying3 h1
    obtain ⟨n2, e2, _⟩ := DataW.trod_int Try.underlying3 h2
    simp at e1 e2
    exact ⟨(n1, n2), by rw [e1, e2]; rfl⟩

theorem trod_up {m : Nat} {cs : List Value} {y : DataW H × List MemPlace} (h : DataW.trod enc Try.prog w base spare held m 30 cs = some y) : ∃ u : List Int, u.length = 16 ∧ cs = up u := by
  obtain ⟨hl, hf⟩ := trod_elems Try.underlying30 h
  rw [cellsArr] at hl
  have hc : ∀ i (hi : i < cs.length), ∃ n, cs[i] = .int .i64 n := fun i hi => by
    obtain ⟨m1, y1, h1⟩ := hf i (by omega)
    rw [cellsInt, Nat.mul_one] at h1
    obtain ⟨n1, e1, _⟩ := DataW.trod_int Try.underlying3 h1
    have e2 : (List.drop i cs).take 1 = [cs[i]] := by
      rw [List.drop_eq_getElem_cons hi]; rfl
    rw [e2] at e1
    exact ⟨n1, by simpa using e1⟩
  clear hf h
  have key : ∀ cs : List Value, (∀ i (hi : i < cs.length), ∃ n, cs[i] = .int .i64 n) → ∃ u : List Int, u.length = cs.length ∧ cs = up u := by
    intro cs
    induction cs with
    | nil => intro _; exact ⟨[], rfl, rfl⟩
    | cons c cs ih =>
      intro hc
      obtain ⟨n, hn⟩ := hc 0 (by simp)
      obtain ⟨u, h1, h2⟩ := ih fun i hi => by
        have := hc (i + 1) (by simpa using hi)
        simpa using this
      simp only [List.getElem_cons_zero] at hn
      exact ⟨n :: u, by simp [h1], by rw [hn, h2]; rfl⟩
  obtain ⟨u, h1, h2⟩ := key cs hc
  exact ⟨u, by omega, h2⟩

theorem cells_get {a : Addr} {n : Nat} {cs : List Value} (h : w.cells? base a n = some cs) {j : Nat} {u : Value} (hj : cs[j]? = some u) : w.cell? (a.add j) = some u := by
  unfold World.cells? at h
  split at h
  · have hl := mapM_some_length h
    have hjl : j < cs.length := (List.getElem?_eq_some_iff.1 hj).1
    have := mapM_some_get h j j (by rw [List.length_range] at hl; exact List.getElem?_range (by omega))
    rw [this, hj]
  · cases h

theorem trod_ds {m : Nat} {cs : List Value} {y : DataW H × List MemPlace} (h : DataW.trod enc Try.prog w base spare held m 31 cs = some y) : ∃ (v : Value) (l : List Dt), cs = [v] ∧ Ds (fun b => w.heap[b]?) v l ∧ l.length ≤ maxLen := by
  rcases Go.Deep.open_slice Try.underlying31 h with ⟨rfl, _⟩ | ⟨a, len, cap, k, n, D, Pl, rfl, _, h1, h2, hk, _, hall⟩
  · exact ⟨_, [], rfl, Sc.nil _ 2 none 0, Nat.zero_le _⟩
  · have hkl : len ≤ k := by rw [hk]; split <;> omega
    have hex : ∀ i, i < len → ∃ d : Dt, w.cells? base (a.add (i * 2)) 2 = some (dcs d) := fun i hi => by
      obtain ⟨cs', e1, e2⟩ := hall i (by omega)
      rw [cellsDot] at e1
      obtain ⟨d, rfl⟩ := trod_dot e2
      exact ⟨d, e1⟩
    obtain ⟨f, hf⟩ := Go.Deep.choose_lt hex
    refine ⟨_, (List.range len).map f, rfl, ⟨?_, some a, cap, by simp, by simpa using h1, ?_⟩, by simp; omega⟩
    · rw [flat_len dcs_len]
    · by_cases h0 : len = 0
      · subst h0; exact .inl rfl
      · refine .inr ?_
        have hc0 := cells_get (hf 0 (by omega)) (j := 0) (u := .int .i64 (f 0).1) rfl
        obtain ⟨b, o, sp⟩ := a
        have hadd : ∀ i j, ((⟨b, o, sp⟩ : Addr).add i).add j = (⟨b, o, sp⟩ : Addr).add (i + j) := fun i j => Go.Deep.add_add _ i j
        rw [hadd] at hc0
        have hblk : ((⟨b, o, sp⟩ : Addr).add (0 * 2 + 0)) = ⟨b, o, sp⟩ := by simp [Addr.add]
        rw [hblk] at hc0
        unfold World.cell? at hc0
        split at hc0
        · rename_i c e fz hb
          split at hc0
          · cases hc0
          · rename_i hsp
            have hsp' : sp = none := by simpa using hsp
            subst hsp'
            refine ⟨b, o, c, e, fz, rfl, hb, fun j u hj => ?_⟩
            have hjl : j < len * 2 := by
              have := (List.getElem?_eq_some_iff.1 hj).1
              rw [flat_len dcs_len] at this
              simpa using this
            have hd : j / 2 < ((List.range len).map f).length := by simp; omega
            have e1 : (((List.range len).map f).flatMap dcs)[j]? = (dcs (f (j / 2)))[j % 2]? := by
              have := flat_at dcs_len ((List.range len).map f) (j / 2) hd
              have e3 : ((List.range len).map f)[j / 2] = f (j / 2) := by simp
              rw [e3] at this
              rw [← this, List.getElem?_take_of_lt (by omega), List.getElem?_drop]
              congr 1; omega
            rw [e1] at hj
            have := cells_get (hf (j / 2) (by omega)) hj
            rw [hadd, Addr.add_off] at this
            unfold World.cell? at this
            simp only [hb] at this
            simp only [Option.isSome_none, Bool.false_eq_true, if_false] at this
            have ej : j / 2 * 2 + j % 2 = j := by omega
            rw [ej] at this
            exact this
        · cases hc0

theorem trod_cx {v : Value} {d : DataW H} {ps : List MemPlace} (hv : ∃ cs, v = .agg cs) (h : DataW.Trod enc Try.prog w base spare held 69 v d ps) : ∃ (u : List Int) (l : List Dt), Cx (fun b => w.heap[b]?) v u l ∧ l.length ≤ maxLen := by
  obtain ⟨cs, rfl⟩ := hv
  obtain ⟨fuel, h⟩ := h
  obtain ⟨hl, hf⟩ := trod_fields Try.underlying69 h
  rw [cellsCx] at hl
  obtain ⟨m1, y1, h1⟩ := hf _ (List.mem_cons_self ..)
  obtain ⟨m2, y2, h2⟩ := hf _ (List.mem_cons_of_mem _ (List.mem_cons_self ..))
  rw [cellsArr] at h1
  rw [cellsSl] at h2
  obtain ⟨u, hu, e1⟩ := trod_up h1
  obtain ⟨mv, l, e2, hs, hlm⟩ := trod_ds h2
  refine ⟨u, l, ⟨hu, mv, ?_, hs⟩, hlm⟩
  have hc : (Value.agg cs).cells.toList = cxc u mv := by
    have e3 : (Value.agg cs).cells.toList = ((Value.agg cs).cells.toList.drop 0).take 16 ++ ((Value.agg cs).cells.toList.drop 16).take 1 := by
      rw [List.drop_zero]
      have e4 : ((Value.agg cs).cells.toList.drop 16).take 1 = (Value.agg cs).cells.toList.drop 16 := List.take_of_length_le (by simp at hl ⊢; omega)
      rw [e4, List.take_append_drop]
    rw [e3, e1, e2]
    rfl
  have hc2 : cs.toList = cxc u mv := hc
  unfold cxv
  rw [← hc2]
end
end Go.Proofs.Ytkkjppeaaicgaaa
end

section
namespace Go.Proofs.Ytkkjppeaaicgaaa
open Go Go.Ck Go.ChangeShapes
set_option maxRecDepth 100000
set_option maxHeartbeats 1000000
set_option linter.unusedVariables false

theorem cellsByte : Try.prog.cellsOf 5 = 1 := by kernel_rfl
theorem bcs_flat (l : List Int) : l.flatMap (fun n => [Value.int .u8 n]) = bcs l := by
  induction l with
  | nil => rfl
  | cons x l ih => rw [List.flatMap_cons, ih]; rfl
theorem trod_bs {H : Type} {enc : TypeId × Value → H} {w : World} {base : Nat} {spare : Nat → Bool} {held : Bool} {m : Nat} {cs : List Value} {y : DataW H × List MemPlace} (h : DataW.trod enc Try.prog w base spare held m 23 cs = some y) :
    ∃ (v : Value) (l : List Int), cs = [v] ∧ Bs8 (fun b => w.heap[b]?) v l ∧ Bytes l ∧ l.length ≤ maxLen := by
  obtain ⟨v, l, h1, h2, h3, h4⟩ := trod_slice_of (en := fun n : Int => [Value.int .u8 n]) (R := fun n => 0 ≤ n ∧ n < 256) Try.underlying23 cellsByte (by decide) (fun _ => rfl) (fun m cs y hy => by
    obtain ⟨n, e1, _, e3⟩ := DataW.trod_int Try.underlying5 hy
    obtain ⟨q1, q2⟩ := (Lit.wf_int_iff .u8 n).1 e3
    have m1 : IntKind.u8.min = 0 := by decide
    have m2 : IntKind.u8.max = 255 := by decide
    exact ⟨n, ⟨by omega, by omega⟩, e1⟩) h
  rw [bcs_flat] at h2
  exact ⟨v, l, h1, h2, h4, h3⟩
end Go.Proofs.Ytkkjppeaaicgaaa
end

section
namespace Go.Proofs.Ytkkjppeaaicgaaa
open Go Go.Ck Go.ChangeShapes
set_option maxRecDepth 100000
set_option maxHeartbeats 1000000
set_option linter.unusedVariables false

theorem cellsStr : Try.prog.cellsOf 9 = 1 := by kernel_rfl
theorem cellsRs : Try.prog.cellsOf 71 = 20 := by kernel_rfl
section
variable {H : Type} {enc : TypeId × Value → H} {w : World} {base : Nat} {spare : Nat → Bool} {held : Bool}
theorem trod_cxc {m : Nat} {cs : List Value} {y : DataW H × List MemPlace} (h : DataW.trod enc Try.prog w base spare held m 69 cs = some y) : ∃ (u : List Int) (l : List Dt) (mv : Value), u.length = 16 ∧ cs = cxc u mv ∧ Ds (fun b => w.heap[b]?) mv l ∧ l.length ≤ maxLen := by
  obtain ⟨hl, hf⟩ := trod_fields Try.underlying69 h
  rw [cellsCx] at hl
  obtain ⟨m1, y1, h1⟩ := hf _ (List.mem_cons_self ..)
  obtain ⟨m2, y2, h2⟩ := hf _ (List.mem_cons_of_mem _ (List.mem_cons_self ..))
  rw [cellsArr] at h1
  rw [cellsSl] at h2
  obtain ⟨u, hu, e1⟩ := trod_up h1
  obtain ⟨mv, l, e2, hs, hlm⟩ := trod_ds h2
  refine ⟨u, l, mv, hu, ?_, hs, hlm⟩
  have e3 : cs = (cs.drop 0).take 16 ++ (cs.drop 16).take 1 := by
    rw [List.drop_zero]
    have e4 : (cs.drop 16).take 1 = cs.drop 16 := List.take_of_length_le (by simp; omega)
    rw [e4, List.take_append_drop]
  rw [e3, e1, e2]
  rfl
theorem bytes_of_string (s : ByteArray) : ∃ b : List Int, Bytes b ∧ bstr b = s ∧ b.length = s.size := by
  refine ⟨s.data.toList.map fun x => (x.toNat : Int), fun b hb => ?_, ?_, by simp⟩
  · obtain ⟨x, _, rfl⟩ := List.mem_map.1 hb
    have := x.toNat_lt
    constructor <;> omega
  · unfold bstr
    rw [List.map_map]
    have : ((fun n : Int => UInt8.ofNat n.toNat) ∘ fun x : UInt8 => (x.toNat : Int)) = id := by
      funext x
      simp
    rw [this, List.map_id]
theorem trod_rs1 {m : Nat} {cs : List Value} {y : DataW H × List MemPlace} (h : DataW.trod enc Try.prog w base spare held m 71 cs = some y) : ∃ x : Sb, (Rv (fun b => w.heap[b]?) x ∧ x.l.length ≤ maxLen ∧ x.b.length ≤ maxLen) ∧ cs = sbc x := by
  obtain ⟨hl, hf⟩ := trod_fields Try.underlying71 h
  rw [cellsRs] at hl
  obtain ⟨m1, y1, h1⟩ := hf _ (List.mem_cons_self ..)
  obtain ⟨m2, y2, h2⟩ := hf _ (List.mem_cons_of_mem _ (List.mem_cons_self ..))
  obtain ⟨m3, y3, h3⟩ := hf _ (List.mem_cons_of_mem _ (List.mem_cons_of_mem _ (List.mem_cons_self ..)))
  rw [cellsDot] at h1
  rw [cellsCx] at h2
  rw [cellsStr] at h3
  obtain ⟨d, e1⟩ := trod_dot h1
  obtain ⟨u, l, mv, hu, e2, hds, hll⟩ := trod_cxc h2
  obtain ⟨s, e3, _, hs⟩ := DataW.trod_string Try.underlying9 h3
  obtain ⟨b, hb, hbs, hbl⟩ := bytes_of_string s
  refine ⟨⟨d, u, hu, l, mv, b, .string s⟩, ⟨⟨hds, by rw [hbs], hb⟩, hll, by show b.length ≤ maxLen; rw [hbl]; exact hs⟩, ?_⟩
  have q : cs = (cs.drop 0).take 2 ++ ((cs.drop 2).take 17 ++ (cs.drop 19).take 1) := by
    rw [List.drop_zero]
    have e4 : (cs.drop 19).take 1 = cs.drop 19 := List.take_of_length_le (by simp; omega)
    have e5 : (cs.drop 2).take 17 ++ cs.drop 19 = cs.drop 2 := by
      have : cs.drop 19 = (cs.drop 2).drop 17 := by rw [List.drop_drop]
      rw [this, List.take_append_drop]
    rw [e4, e5, List.take_append_drop]
  rw [q]
  show _ = dcs d ++ (cxc u mv ++ [.string s])
  rw [← e3, ← e2, ← e1]
theorem trod_rs {m : Nat} {cs : List Value} {y : DataW H × List MemPlace} (h : DataW.trod enc Try.prog w base spare held m 22 cs = some y) :
    ∃ (v : Value) (l : List Sb), cs = [v] ∧ Rs (fun b => w.heap[b]?) v l ∧ l.length ≤ maxLen ∧ ∀ x ∈ l, x.l.length ≤ maxLen ∧ x.b.length ≤ maxLen := by
  obtain ⟨v, l, h1, h2, h3, h4⟩ := trod_slice_of (en := sbc) (R := fun x => Rv (fun b => w.heap[b]?) x ∧ x.l.length ≤ maxLen ∧ x.b.length ≤ maxLen) Try.underlying22 cellsRs (by decide) sbc_len (fun m cs y hy => trod_rs1 hy) h
  exact ⟨v, l, h1, ⟨h2, fun x hx => (h4 x hx).1⟩, h3, fun x hx => (h4 x hx).2⟩
end
end Go.Proofs.Ytkkjppeaaicgaaa
end

section
namespace Go.Proofs.Ytkkjppeaaicgaaa.siblingAlone
open Go Go.Ck Go.ChangeShapes Go.WideShapes Go.ChangeAt Go.RowKit
set_option maxRecDepth 100000
set_option maxHeartbeats 1000000
set_option linter.unusedVariables false

theorem laidOut : laidOutB Try.prog = true := by kernel_rfl
theorem own : ownKnob Try.prog.godebug = none := by kernel_rfl

theorem contract (H : Type) (enc : TypeId × Value → H) (W : World) (base : Nat) (args : Array Value) (ds gs : List (DataW H)) (before : List MemPlace)
    (hval : ∀ (j : Nat) t v, Try.f3.params[j]? = some t → args[j]? = some v → Value.okWide Try.prog W .any base t v)
    (hW : DataW.Whole enc Try.prog Try.f3.params.toList Rows.siblingAloneSpec.vars false W args.toList ds gs before) :
    Calls Try.prog 3 args W fun e W' => ∃ v, e = .returned v ∧ Rows.siblingAloneSpec.post enc Try.prog Try.f3 false true false false W args v W' := by
  have hW' := hW
  obtain ⟨p, q, hA0, hV, rfl, hfz, hnd⟩ := hW
  have hA : DataW.TrodAll enc Try.prog W 0 (fun _ => true) true Try.f3.params.toList args.toList ds p := hA0
  rw [Try.params3] at hA hval
  obtain ⟨v0, vs0, d0, ds0, p0, q0, hargs0, rfl, rfl, h0, r0⟩ := trodAll_cons hA
  obtain ⟨v1, vs1, d1, ds1, p1, q1, hargs1, rfl, rfl, h1, r1⟩ := trodAll_cons r0
  obtain ⟨rfl, rfl, rfl⟩ := trodAll_nil r1
  obtain rfl : args = #[v0, v1] := by cases args; simp_all
  obtain ⟨rfl, rfl⟩ := trodVars_none hV
  obtain ⟨a0, len0, cap0, rfl⟩ := okWide_slice Try.underlying22 (hval 0 22 v0 rfl rfl)
  obtain ⟨fu0, g0⟩ := id h0
  obtain ⟨sv0, l0, hsv0, hd0, hl0, hll0⟩ := trod_rs g0
  obtain rfl : Value.slice a0 len0 cap0 = sv0 := by
    have e : (Value.slice a0 len0 cap0).cells.toList = [Value.slice a0 len0 cap0] := rfl
    rw [e] at hsv0
    exact (List.cons.inj hsv0).1
  have hl0 : l0.length ≤ 9223372036854775807 := by unfold maxLen at hl0; omega
  have hll0 : ∀ x ∈ l0, x.l.length ≤ 9223372036854775807 ∧ x.b.length ≤ 9223372036854775807 := fun x hx => by have := hll0 x hx; unfold maxLen at this; omega
  obtain ⟨a1, len1, cap1, rfl⟩ := okWide_slice Try.underlying23 (hval 1 23 v1 rfl rfl)
  obtain ⟨fu1, g1⟩ := id h1
  obtain ⟨sv1, l1, hsv1, hd1, hb1, hl1⟩ := trod_bs g1
  obtain rfl : Value.slice a1 len1 cap1 = sv1 := by
    have e : (Value.slice a1 len1 cap1).cells.toList = [Value.slice a1 len1 cap1] := rfl
    rw [e] at hsv1
    exact (List.cons.inj hsv1).1
  have hl1 : l1.length ≤ 9223372036854775807 := by unfold maxLen at hl1; omega
  have hst : St ⟨W, fun b => W.heap[b]?, []⟩ (fun b => W.heap[b]?) [] W := St.start (L := []) ⟨fun b o hb => hb, fun r hr => (by cases hr)⟩ (by simp [doms]) (fun b hb => (by simp [doms] at hb))
  refine (SiblingAlone_sp _ _ l0 l1 _ hd0 hd1 hb1 hl0 hll0 hl1 W hst).mono fun e W' ⟨h', he, s'⟩ => ?_
  subst he
  have hb : Below W.heap.size W W' := ⟨s'.os, s'.tape, s'.output, s'.size, fun k hk => s'.keep k hk (by simp)⟩
  simp only [List.append_nil] at hW'
  have hlt0 : ∀ x ∈ p0, x.block < W.heap.size := fun x hx => by simpa using hW'.lt x (by simp [hx])
  have hlt1 : ∀ x ∈ p1, x.block < W.heap.size := fun x hx => by simpa using hW'.lt x (by simp [hx])
  exact ⟨_, rfl, _, _, _, [], p0 ++ p1, [], hW', trodAll_cons_mk (shut_bool Try.underlying4 _) trodAll_mk0,
    by
      have h := (trodAll_cons_mk (Below.trod laidOut (by kernel_rfl) (of_decide_eq_true (by kernel_rfl)) h0 hb hlt0) (trodAll_cons_mk (Below.trod laidOut (by kernel_rfl) (of_decide_eq_true (by kernel_rfl)) h1 hb hlt1) trodAll_mk0))
      simp only [List.append_nil] at h
      exact h,
    rfl, hb.frame _, fun h => by cases h⟩

set_option maxRecDepth 100000 in
theorem lifted (os : Os) (started : os.Started) (H : Type) (enc : TypeId × Value → H) :
    ReturnsInHanded {} Try.checked os 3 .any (Rows.siblingAloneSpec.pre6 enc Try.prog Try.f3 Rows.siblingAloneRow.domain false) (Rows.siblingAloneSpec.post enc Try.prog Try.f3 false true false false) := by
  refine returnsInHanded_of_change (C := Try.checked) own started (by kernel_rfl) Try.func3
    (ChangeSpec.witness6 (enc := enc) (C := Try.checked) false ⟨#[], #[.slice none 0 0, .slice none 0 0], []⟩ 8 (by kernel_rfl) (by kernel_rfl) (by kernel_rfl) (by kernel_rfl)) ?_
  intro W base args ds gs before hval hW _ _
  exact contract H enc W base args ds gs before hval hW

theorem over : Rows.siblingAloneRow.holds Try.pinned (OpenSpec.ofChange Rows.siblingAloneSpec) :=
  OpenClaim.holds_of_wide 3 Try.f3 rfl rfl rfl rfl rfl rfl rfl ⟨rfl, rfl, rfl, rfl, rfl⟩ rfl rfl rfl rfl rfl (by kernel_rfl) Try.func3 (by kernel_rfl)
    (of_decide_eq_true (by kernel_rfl)) (by unfold Func.isWrapper; first | (rw [if_pos (by decide +kernel)]; kernel_rfl) | (rw [if_neg (by decide +kernel)]; exact ⟨rfl, rfl⟩))
    (fun os started H enc _ => lifted os started H enc)

theorem proved : Rows.SiblingAloneSaid :=
  over
end Go.Proofs.Ytkkjppeaaicgaaa.siblingAlone
end
