/-
  Part 16 of a proof: SbT SbW SrA SrB SrD.
  Conditions: each theorem states its own.
-/
import Derived.Test.YtkkjppeaaicgaaaGreatDoorSrGPM15
section
namespace Go.Proofs.YtkkjppeaaicgaaaGreatDoor
open Go Go.Ck
set_option maxRecDepth 100000
set_option maxHeartbeats 4000000
set_option linter.unusedVariables false
theorem ddk_all {l : List Sb} (hd : (l.map Sb.d).Nodup) : ∀ k, k ≤ l.length → ddk l k = l.take k
  | 0, _ => rfl
  | k + 1, hk => by
    obtain ⟨x, hx⟩ : ∃ x, l[k]? = some x := ⟨_, List.getElem?_eq_getElem (by omega)⟩
    have htk : l.take (k + 1) = l.take k ++ [x] := by
      obtain ⟨h, rfl⟩ := List.getElem?_eq_some_iff.1 hx
      exact List.take_succ_eq_append_getElem h
    by_cases h0 : k = 0
    · subst h0
      rw [ddk_one hx, htk]; rfl
    · obtain ⟨y, hy⟩ : ∃ y, l[k - 1]? = some y := ⟨_, List.getElem?_eq_getElem (by omega)⟩
      have hne : x.d ≠ y.d := fun e => by
        have h1 : (l.map Sb.d)[k]? = some x.d := by rw [List.getElem?_map, hx]; rfl
        have h2 : (l.map Sb.d)[k - 1]? = some x.d := by rw [List.getElem?_map, hy, e]; rfl
        obtain ⟨q1, e1⟩ := List.getElem?_eq_some_iff.1 h1
        obtain ⟨q2, e2⟩ := List.getElem?_eq_some_iff.1 h2
        exact List.pairwise_iff_getElem.1 hd (k - 1) k q2 q1 (by omega) (by rw [e1, e2])
      rw [ddk_succ hx hy h0, if_neg hne, ddk_all hd k (by omega), htk]
theorem merge_distinct {a b : List Sb} {M : List Ab} {e : Int} (h : MergeR a b M e) (ca : checkA (a.map Sb.a) = 0) (cb : checkA (b.map Sb.a) = 0) (hd : ((a ++ b).map Sb.d).Nodup) :
    ∃ R, R.Perm ((a ++ b).filter fun x => freeS (a.map Sb.a) (b.map Sb.a) x.a) ∧ SortS R ∧ (if 64 < R.length then e = 5 ∧ M = [] else e = 0 ∧ M = R.map Sb.a) := by
  unfold MergeR at h
  rw [if_neg (by rw [ca]; decide), if_neg (by rw [cb]; decide)] at h
  obtain ⟨R, kR, sR, hR⟩ := h
  have hp := kR.perm
  have hdR : (R.map Sb.d).Nodup := (hp.map Sb.d).nodup_iff.1 hd
  rw [ddk_all hdR _ (Nat.le_refl _), List.take_length] at hR
  exact ⟨_, (hp.symm.filter _), sR.sublist (List.filter_sublist ..), hR⟩
theorem perm_one {α : Type} {l : List α} {x : α} (h : l.Perm [x]) : l = [x] := List.perm_singleton.1 h
theorem sort_two {x y : Sb} {l : List Sb} (h : l.Perm [x, y]) (hs : SortS l) (hxy : ordD x.d y.d < 0) : l = [x, y] := by
  match l, h.length_eq with
  | [p, q], _ =>
    have hm := h.mem_iff (a := p)
    have hp : p = x ∨ p = y := by
      have := (h.mem_iff (a := p)).1 (by simp)
      simpa using this
    have hs2 : ordD p.d q.d ≤ 0 := by
      have := List.pairwise_cons.1 hs
      exact this.1 q (by simp)
    rcases hp with rfl | rfl
    · have : [q].Perm [y] := by simpa using h
      rw [perm_one this]
    · have h2 : [p, q].Perm [p, x] := h.trans (List.Perm.swap _ _ _)
      have : [q].Perm [x] := by simpa using h2
      have hq := perm_one this
      simp only [List.cons.injEq, and_true] at hq
      subst hq
      rw [ord_le] at hs2
      exact absurd hxy hs2
def s0 (d : Dt) : Sb := ⟨d, zeroU, rfl, [], .slice none 0 0, [], .slice none 0 0⟩
theorem s0_ok (h : View) (d : Dt) : Sv h (s0 d) := ⟨Sc.nil h 2 none 0, Sc.nil h 1 none 0, fun b hb => by cases hb⟩
theorem map_one {M : List Sb} {x : Ab} (h : M.map Sb.a = [x]) : ∃ m, M = [m] ∧ m.a = x := by
  match M, h with
  | [m], h => exact ⟨m, rfl, by simpa using h⟩
theorem map_two {M : List Sb} {x y : Ab} (h : M.map Sb.a = [x, y]) : ∃ m n, M = [m, n] ∧ m.a = x ∧ n.a = y := by
  match M, h with
  | [m, n], h =>
    simp only [List.map_cons, List.map_nil, List.cons.injEq, and_true] at h
    exact ⟨m, n, rfl, h.1, h.2⟩
theorem check_single {a : Ab} (h : rightA a = true) : checkA [a] = 0 := by
  obtain ⟨_, _, h3, _⟩ := rightA_ok h
  unfold checkA
  rw [if_neg (show ¬ 64 < [a].length by simp), if_neg, if_neg]
  · simp [h3]
  · have : badAt [a] 0 = false := by
      unfold badAt
      simp [h]
    simp [this]
theorem sets1 (v : Value) (a : List Sb) (y : Sb) (M : List Sb) (e : Int) (hm : MergeR a [y] (M.map Sb.a) e) (ca : checkA (a.map Sb.a) = 0) (cy : checkA [y.a] = 0) (hd : ((a ++ [y]).map Sb.d).Nodup) (G : List Sb) (hG : ((a ++ [y]).filter fun x => freeS (a.map Sb.a) [y.a] x.a) = G) (hl : G.length ≤ 64) :
    ∃ R, R.Perm G ∧ SortS R ∧ e = 0 ∧ M.map Sb.a = R.map Sb.a := by
  obtain ⟨R, h1, h2, h3⟩ := merge_distinct hm ca (by simpa using cy) hd
  have hG' : ((a ++ [y]).filter fun x => freeS (a.map Sb.a) ([y].map Sb.a) x.a) = G := hG
  rw [hG'] at h1
  rw [if_neg (by rw [h1.length_eq]; omega)] at h3
  exact ⟨R, h1, h2, h3⟩
theorem fill3b {d : Dt} {u : List Int} {mv : Value} (hu : u.length = 16) : fillL (fun i : Nat => ([(0, 2), (2, 17), (19, 1)] : List (Nat × Nat))[i]?) ([.int .i64 0, .int .i64 0] ++ (up zeroU ++ [.slice none 0 0, .slice none 0 0])) [(0, .agg (dcs d).toArray), (1, .agg (cxc u mv).toArray)] = some (dcs d ++ (cxc u mv ++ [.slice none 0 0])) := by
  obtain ⟨a0, a1, a2, a3, a4, a5, a6, a7, a8, a9, a10, a11, a12, a13, a14, a15, rfl⟩ := list16 u hu
  rfl
theorem sets_sp (h : View) (w : World) (s : St ⟨w, h, []⟩ h [] w) :
    Calls Tryz.prog 11 [].toArray w fun e w' => e = .returned (.bool true) ∧ St ⟨w, h, []⟩ h [] w' := by
  refine calls_enter Tryz.func11 rfl Tryz.ntmps11 rfl s ?_
  repeat' (first|refine tw_ ?_|(refine ta_ ?_;intro _)|((fail_if_success (refine ybi rfl ?_));refine ybj rfl ?_ ?_<;>(intro ht;rw [ht];first|replace ht := oet_ ht|replace ht := oef_ ht|skip))|(refine ych ?_;first|(refine ybw rfl ?_ ?_<;>intro ht)|(refine ybx rfl ?_ ?_<;>intro ht)))
  have n0 : Ss h (.slice none 0 0) [] := ⟨Sc.nil h 20 none 0, fun x hx => by cases hx⟩
  (refine yco (ycp Tryz.func34 rfl (by kernel_rfl) rfl) (sput_sp (.slice none 0 0) [] (s0 (1, 1)) h n0 (s0_ok h _) ⟨by simp, fun x hx => by cases hx⟩ (by decide)) rfl rfl rfl ?_ ?_ ?_; (· (exact to_)); (· intro _ _ hle; (exact to_)); intro x px hle)
  obtain ⟨h1, v1, M1, e1⟩ := x
  obtain ⟨S1, R1⟩ := px
  dsimp only at S1 R1
  obtain ⟨T1, q1, q2, q3, q4⟩ := sets1 v1 [] (s0 (1, 1)) M1 e1 R1 (by kernel_rfl) (by kernel_rfl) (by decide) [s0 (1, 1)] (by kernel_rfl) (by decide)
  rw [perm_one q1] at q4
  subst q3
  obtain ⟨m1, rfl, hm1⟩ := map_one q4
  clear q1 q2 q4 R1 hle
  repeat' (first|refine tw_ ?_|(refine ta_ ?_;intro _)|((fail_if_success (refine ybi rfl ?_));refine ybj rfl ?_ ?_<;>(intro ht;rw [ht];first|replace ht := oet_ ht|replace ht := oef_ ht|skip))|(refine ych ?_;first|(refine ybw rfl ?_ ?_<;>intro ht)|(refine ybx rfl ?_ ?_<;>intro ht)))
  have d1 : m1.d = (1, 1) := congrArg (·.1) hm1
  (refine yco (ycp Tryz.func34 rfl (by kernel_rfl) rfl) (sput_sp v1 [m1] (s0 (2, 1)) h1 S1 (s0_ok h1 _) ⟨by simp, fun x hx => by rw [List.mem_singleton.1 hx]; exact ⟨by rw [show m1.l = [] from congrArg (·.2.2.1) hm1]; decide, by rw [show m1.b = [] from congrArg (·.2.2.2) hm1]; decide⟩⟩ (by decide)) rfl rfl rfl ?_ ?_ ?_; (· (exact to_)); (· intro _ _ hle; (exact to_)); intro x px hle)
  obtain ⟨h2, v2, M2, e2⟩ := x
  obtain ⟨S2, R2⟩ := px
  dsimp only at S2 R2
  have c1 : checkA ([m1].map Sb.a) = 0 := by show checkA [m1.a] = 0; rw [hm1]; kernel_rfl
  have nd1 : (([m1] ++ [s0 (2, 1)]).map Sb.d).Nodup := by show [m1.d, (2, 1)].Nodup; rw [d1]; decide
  have g1 : (([m1] ++ [s0 (2, 1)]).filter fun x => freeS ([m1].map Sb.a) [(s0 (2, 1)).a] x.a) = [m1, s0 (2, 1)] := by
    show List.filter (fun x => freeS [m1.a] [(s0 (2, 1)).a] x.a) [m1, s0 (2, 1)] = _
    rw [List.filter_cons_of_pos (by show freeS [m1.a] [(s0 (2, 1)).a] m1.a = true; rw [hm1]; kernel_rfl), List.filter_cons_of_pos (by show freeS [m1.a] [(s0 (2, 1)).a] (s0 (2, 1)).a = true; rw [hm1]; kernel_rfl)]
    rfl
  obtain ⟨T2, q1, q2, q3, q4⟩ := sets1 v1 [m1] (s0 (2, 1)) M2 e2 R2 c1 (by kernel_rfl) nd1 _ g1 (by show 2 ≤ 64; decide)
  rw [sort_two q1 q2 (by show ordD m1.d (2, 1) < 0; rw [d1]; decide)] at q4
  subst q3
  obtain ⟨m2, n2, rfl, hm2, hn2⟩ := map_two q4
  rw [hm1] at hm2
  clear q1 q2 q4 R2 hle g1 nd1 c1
  obtain ⟨_, ad2, cap2, hv2, _, _⟩ := id S2.1
  subst hv2
  have c2 : checkA ([m2, n2].map Sb.a) = 0 := by show checkA [m2.a, n2.a] = 0; rw [hm2, hn2]; kernel_rfl
  have f2 : Fits [m2, n2] := ⟨by simp, fun x hx => by
    rcases List.mem_cons.1 hx with rfl | hx
    · exact ⟨by rw [show x.l = [] from congrArg (·.2.2.1) hm2]; decide, by rw [show x.b = [] from congrArg (·.2.2.2) hm2]; decide⟩
    · rw [List.mem_singleton.1 hx]; exact ⟨by rw [show n2.l = [] from congrArg (·.2.2.1) hn2]; decide, by rw [show n2.b = [] from congrArg (·.2.2.2) hn2]; decide⟩⟩
  repeat' (first|refine tw_ ?_|(refine ta_ ?_;intro _)|((fail_if_success (refine ybi rfl ?_));refine ybj rfl ?_ ?_<;>(intro ht;rw [ht];first|replace ht := oet_ ht|replace ht := oef_ ht|skip))|(refine ych ?_;first|(refine ybw rfl ?_ ?_<;>intro ht)|(refine ybx rfl ?_ ?_<;>intro ht)))
  (refine yco (ycp Tryz.func9 rfl (by kernel_rfl) rfl) (sseen_sp _ [m2, n2] h2 S2 f2) rfl rfl rfl ?_ ?_ ?_; (· (exact to_)); (· intro _ _ hle; (exact to_)); intro x px hle)
  obtain ⟨h3, v3, u, m, e3⟩ := x
  obtain ⟨C3, R3⟩ := px
  dsimp only at C3 R3
  unfold SeenR at R3
  rw [if_neg (by rw [c2]; decide)] at R3
  rcases R3 with ⟨_, _, _, r4, _⟩ | ⟨r1, r2, r3, r4⟩
  · exfalso
    have : ([m2, n2].map Sb.a).flatMap (fun s => s.1 :: s.2.2.1) = [(1, 1), (2, 1)] := by
      show [m2.a, n2.a].flatMap _ = _
      rw [hm2, hn2]; rfl
    rw [this] at r4
    exact absurd r4 (by decide)
  subst r1
  obtain ⟨hu, mv, hv3, s3⟩ := id C3
  subst hv3
  obtain ⟨_, ad3, cap3, hmv, _, _⟩ := id s3
  subst hmv
  have hle3 : Le h2 h3 := hle
  clear hle
  obtain ⟨y, hy⟩ : ∃ y : Sb, y = ⟨(1, 2), u, hu, m, .slice ad3 m.length cap3, [], .slice none 0 0⟩ := ⟨_, rfl⟩
  have hfy : fillL (fun i : Nat => ([(0, 2), (2, 17), (19, 1)] : List (Nat × Nat))[i]?) ([.int .i64 0, .int .i64 0] ++ (up zeroU ++ [.slice none 0 0, .slice none 0 0])) [(0, .agg (dcs (1, 2)).toArray), (1, .agg (cxc u (.slice ad3 m.length cap3)).toArray)] = some (sbc y) := by
    rw [hy]; exact fill3b hu
  have hyv : Sv h3 y := by rw [hy]; exact ⟨s3, Sc.nil h3 1 none 0, fun b hb => by cases hb⟩
  repeat' (first|(refine ycf ?_;apply ybk;(·first|(first|(apply yad;(·rfl);(·exact yaz 0 rfl);(·exact ycj hu))|(apply yax (cs := sbc y);(·rfl);(·exact hfy))));(·rfl);(·rfl))|(refine ybg 0 rfl rfl rfl (cxc_sz hu) (cxc_fit hu) (cxc_one rfl) (ybh (cxc_all hu)) rfl rfl ?_ ?_ ?_;(·(exact to_));(·(exact to_)))|refine t1_ ?_|(refine ta_ ?_;intro _)|((fail_if_success (refine ybi rfl ?_));refine ybj rfl ?_ ?_<;>(intro ht;rw [ht];first|replace ht := oet_ ht|replace ht := oef_ ht|skip))|(refine ych ?_;first|(refine ybw rfl ?_ ?_<;>intro ht)|(refine ybx rfl ?_ ?_<;>intro ht)))
  have ey : y.a = ((1, 2), u, m, []) := by rw [hy]; rfl
  have ck : checkC u m = 0 := check_inv r2 r3
  have sn : ∀ d, rightB d = true → hasC u m d = seenA [((1, 1), zeroU, [], []), ((2, 1), zeroU, [], [])] d := fun d hd => by
    rw [r4 d hd]
    show seenA [m2.a, n2.a] d = _
    rw [hm2, hn2]
    rfl
  have hA : ∀ d, rightB d = true → hasA y.a d = seenA [((1, 1), zeroU, [], []), ((2, 1), zeroU, [], [])] d := fun d hd => by
    rw [ey]
    show (decide (checkC u m = 0) && rightB d && hasC u m d) = _
    rw [ck, hd, sn d hd]
    rfl
  have ry : rightA y.a = true := by
    unfold rightA
    have e1 : hasA y.a y.a.1 = false := by
      rw [show y.a.1 = (1, 2) by rw [ey], hA (1, 2) (by decide)]
      kernel_rfl
    rw [e1, ey]
    show (rightB (1, 2) && (decide (checkC u m = 0) && (!false && decide ((([] : List Int).length : Int) ≤ 16384)))) = true
    rw [ck]
    rfl
  have dm2 : m2.d = (1, 1) := congrArg (·.1) hm2
  have dn2 : n2.d = (2, 1) := congrArg (·.1) hn2
  have dy : y.d = (1, 2) := by rw [hy]
  have nd2 : (([m2, n2] ++ [y]).map Sb.d).Nodup := by show [m2.d, n2.d, y.d].Nodup; rw [dm2, dn2, dy]; decide
  have fr : ∀ x : Ab, freeS [m2.a, n2.a] [y.a] x = (!(hasA m2.a x.1 || hasA n2.a x.1) && !(hasA y.a x.1)) := fun x => by
    unfold freeS
    simp
  have g2 : (([m2, n2] ++ [y]).filter fun x => freeS ([m2, n2].map Sb.a) [y.a] x.a) = [y] := by
    show List.filter (fun x => freeS [m2.a, n2.a] [y.a] x.a) [m2, n2, y] = _
    rw [List.filter_cons_of_neg (by show ¬ freeS [m2.a, n2.a] [y.a] m2.a = true; rw [fr, show m2.a.1 = (1, 1) from dm2, hA (1, 1) (by decide), show seenA [((1, 1), zeroU, [], []), ((2, 1), zeroU, [], [])] (1, 1) = true by kernel_rfl]; simp),
      List.filter_cons_of_neg (by show ¬ freeS [m2.a, n2.a] [y.a] n2.a = true; rw [fr, show n2.a.1 = (2, 1) from dn2, hA (2, 1) (by decide), show seenA [((1, 1), zeroU, [], []), ((2, 1), zeroU, [], [])] (2, 1) = true by kernel_rfl]; simp),
      List.filter_cons_of_pos (by show freeS [m2.a, n2.a] [y.a] y.a = true; rw [fr, show y.a.1 = (1, 2) from dy, hA (1, 2) (by decide), hm2, hn2]; kernel_rfl)]
    rfl
  have ly : y.l.length ≤ 1000000 ∧ y.b.length ≤ 1000000 := by rw [hy]; exact ⟨by show m.length ≤ _; omega, Nat.zero_le _⟩
  have S3 : Ss h3 (.slice ad2 [m2, n2].length cap2) [m2, n2] := S2.mono hle3
  (refine yco (ycp Tryz.func34 rfl (by kernel_rfl) rfl) (sput_sp _ [m2, n2] y h3 S3 hyv f2 ly) rfl rfl rfl ?_ ?_ ?_; (· (exact to_)); (· intro _ _ hle; (exact to_)); intro x px hle)
  obtain ⟨h4, v4, M4, e4⟩ := x
  obtain ⟨S4, R4⟩ := px
  dsimp only at S4 R4
  obtain ⟨T4, q1, q2, q3, q4⟩ := sets1 v4 [m2, n2] y M4 e4 R4 c2 (check_single ry) nd2 _ g2 (by show 1 ≤ 64; decide)
  rw [perm_one q1] at q4
  subst q3
  obtain ⟨m4, rfl, hm4⟩ := map_one q4
  have dm4 : m4.d = (1, 2) := by rw [show m4.d = y.d from congrArg (·.1) hm4, dy]
  obtain ⟨_, ad4, cap4, hv4, _, _⟩ := id S4.1
  subst hv4
  obtain ⟨b4, o4, hb4⟩ := S4.1.ad (by show 0 < 1; decide) (by decide)
  subst hb4
  have hel : ∀ L, Cells h4 L ⟨b4, o4 + 0 * 20, none⟩ (sbc m4) := fun L => S4.1.elem sbc_len 0 (by show 0 < 1; decide)
  have e42 : m4.d.2 = 2 := by rw [dm4]
  have l4 : [m4].length = 1 := rfl
  have l2 : [m2, n2].length = 2 := rfl
  repeat' (first|(refine ycf ?_;apply ybk;(·first|(exact tk_)|(apply yae;(·rfl);(·(exact sb_nu (hel _)))));(·rfl);(·rfl))|(refine ybg 0 rfl rfl rfl (cxc_sz hu) (cxc_fit hu) (cxc_one rfl) (ybh (cxc_all hu)) rfl rfl ?_ ?_ ?_;(·(exact to_));(·(exact to_)))|refine t1_ ?_|(refine ta_ ?_;intro _)|((fail_if_success (refine ybi rfl ?_));refine ybj rfl ?_ ?_<;>(intro ht;rw [ht];first|replace ht := oet_ ht|replace ht := oef_ ht|skip))|(refine ych ?_;first|(refine ybw rfl ?_ ?_<;>intro ht)|(refine ybx rfl ?_ ?_<;>intro ht)))
  exact nx_ret1 rfl (rv_tmp rfl) (fun w' s' => ⟨rfl, s'.nil.base⟩)
end Go.Proofs.YtkkjppeaaicgaaaGreatDoor
end

section
namespace Go.Proofs.YtkkjppeaaicgaaaGreatDoor
open Go Go.Ck
set_option maxRecDepth 100000
set_option maxHeartbeats 1000000
set_option linter.unusedVariables false
def StrictA (l : List Ab) : Prop := l.Pairwise fun x y => ordD x.1 y.1 < 0
end Go.Proofs.YtkkjppeaaicgaaaGreatDoor
end

section
namespace Go.Proofs.YtkkjppeaaicgaaaGreatDoor
open Go Go.Ck
set_option maxRecDepth 100000
set_option maxHeartbeats 2000000
set_option linter.unusedVariables false
def encA (a : Ab) : List Int := num8 a.1.1 ++ num8 a.1.2 ++ (num4 (encW a.2.1 a.2.2.1).length ++ encW a.2.1 a.2.2.1) ++ (num4 a.2.2.2.length ++ a.2.2.2)
def encS (l : List Ab) : List Int := num1 l.length ++ l.flatMap encA
def sb1 (s : RS) : Int × RS := numC s 8 1099511627776
def sb2 (s : RS) : Int × RS := numC (sb1 s).2 8 1099511627776
def sb3 (s : RS) : List Int × RS := byC (sb2 s).2 16384
def sb4 (s : RS) : Bool × List Int × List Dt := rdS (sb3 s).1
def sb5 (s : RS) : List Int × RS := byC (sb3 s).2 16384
def sbA (s : RS) : Ab := (((sb1 s).1, (sb2 s).1), (sb4 s).2.1, (sb4 s).2.2, (sb5 s).1)
def sbsC : Nat → RS → (List Ab × Bool) × RS
  | 0, s => (([], true), s)
  | k + 1, s => (((sbsC k s).1.1 ++ [sbA (sbsC k s).2], (sbsC k s).1.2 && (sb4 (sbsC k s).2).1), (sb5 (sbsC k s).2).2)
def smS (l : List Int) : Int × RS := numC (l, 0) 1 64
def srC (l : List Int) : (List Ab × Bool) × RS := sbsC (smS l).1.toNat (smS l).2
def srS (l : List Int) : Bool × List Ab := if (srC l).1.2 = true ∧ endC (srC l).2 = 0 ∧ checkA (srC l).1.1 = 0 then (true, (srC l).1.1) else (false, [])
theorem sb1_ok {s : RS} (h : RsOk s) : RsOk (sb1 s).2 := h.num _ _
theorem sb2_ok {s : RS} (h : RsOk s) : RsOk (sb2 s).2 := (sb1_ok h).num _ _
theorem sb3_ok {s : RS} (h : RsOk s) : RsOk (sb3 s).2 ∧ Bytes (sb3 s).1 ∧ ((sb3 s).1.length : Int) ≤ 16384 := (sb2_ok h).by (by omega)
theorem sb5_ok {s : RS} (h : RsOk s) : RsOk (sb5 s).2 ∧ Bytes (sb5 s).1 ∧ ((sb5 s).1.length : Int) ≤ 16384 := (sb3_ok h).1.by (by omega)
theorem sb4_len {s : RS} (h : RsOk s) : (sb4 s).2.2.length ≤ 32 := (rdS_ok (sb3_ok h).2.1 (by have := (sb3_ok h).2.2; omega)).2
theorem sbsC_ok {s : RS} (h : RsOk s) : ∀ k, RsOk (sbsC k s).2 ∧ (sbsC k s).1.1.length = k
  | 0 => ⟨h, rfl⟩
  | k + 1 => ⟨(sb5_ok (sbsC_ok h k).1).1, by show ((sbsC k s).1.1 ++ [_]).length = k + 1; rw [List.length_append, (sbsC_ok h k).2]; rfl⟩
theorem smS_bd {l : List Int} (hb : Bytes l) (hl : l.length ≤ 1000000) : 0 ≤ (smS l).1 ∧ (smS l).1 ≤ 64 := numC_bd (s := (l, 0)) ⟨hb, hl⟩ (by omega)
theorem smS_ok {l : List Int} (hb : Bytes l) (hl : l.length ≤ 1000000) : RsOk (smS l).2 := RsOk.num (s := (l, 0)) ⟨hb, hl⟩ _ _
end Go.Proofs.YtkkjppeaaicgaaaGreatDoor
end

section
namespace Go.Proofs.YtkkjppeaaicgaaaGreatDoor
open Go Go.Ck
set_option maxRecDepth 100000
set_option maxHeartbeats 4000000
set_option linter.unusedVariables false
theorem spl_past_r {x : Sb} {u : List Int} {mv : Value} {l : List Dt} (hu : u.length = 16) : spl (sbc x) (0 + 2) (cxc u mv) = sbc ⟨x.d, u, hu, l, mv, x.b, x.bv⟩ := by
  obtain ⟨a0, a1, a2, a3, a4, a5, a6, a7, a8, a9, a10, a11, a12, a13, a14, a15, e⟩ := list16 x.u x.hu
  obtain ⟨b0, b1, b2, b3, b4, b5, b6, b7, b8, b9, b10, b11, b12, b13, b14, b15, e2⟩ := list16 u hu
  unfold sbc spl
  simp only [e, e2, cxc, up]
  rfl
theorem past_fit_r {x : Sb} {u : List Int} {mv : Value} (hu : u.length = 16) : 0 + 2 + (Value.agg (cxc u mv).toArray).cells.size ≤ (sbc x).toArray.size := by
  rw [cxc_sz hu]
  have := sbc_len x
  simp
  omega
theorem sbsC_fit {s : RS} (h : RsOk s) : ∀ k, ∀ a ∈ (sbsC k s).1.1, a.2.2.1.length ≤ 32 ∧ (a.2.2.2.length : Int) ≤ 16384
  | 0, a, ha => by cases ha
  | k + 1, a, ha => by
    have ha : a ∈ (sbsC k s).1.1 ++ [sbA (sbsC k s).2] := ha
    rcases List.mem_append.1 ha with ha | ha
    · exact sbsC_fit h k a ha
    · rw [List.mem_singleton.1 ha]
      exact ⟨sb4_len (sbsC_ok h k).1, (sb5_ok (sbsC_ok h k).1).2.2⟩
theorem fits_sbs {s : RS} (h : RsOk s) {k : Nat} {zs : List Sb} (hz : zs.map Sb.a = (sbsC k s).1.1) (hk : k ≤ 64) : Fits zs := by
  refine ⟨?_, fun x hx => ?_⟩
  · have := (sbsC_ok h k).2
    rw [← hz, List.length_map] at this
    omega
  · have hx2 : x.a ∈ (sbsC k s).1.1 := by rw [← hz]; exact List.mem_map_of_mem hx
    obtain ⟨h1, h2⟩ := sbsC_fit h k _ hx2
    have h1 : x.l.length ≤ 32 := h1
    have h2 : (x.b.length : Int) ≤ 16384 := h2
    exact ⟨by omega, by omega⟩
theorem sRead_sp (sv : Value) (l : List Int) (hb : Bytes l) (hl : l.length ≤ 1000000) (h : View) (hs : Bs8 h sv l) (w : World) (s : St ⟨w, h, []⟩ h [] w) :
    Calls Tryz.prog 16 [sv].toArray w fun en w' => ∃ x : View × Value × List Sb, en = .returned (.tuple #[x.2.1, .int .i64 (if (srS l).1 = true then 0 else 2)]) ∧ St ⟨w, h, []⟩ x.1 [] w' ∧ (Ss x.1 x.2.1 x.2.2 ∧ x.2.2.map Sb.a = (srS l).2) := by
  have hok0 : RsOk (smS l).2 := smS_ok hb hl
  have hbd := smS_bd hb hl
  refine calls_enter Tryz.func16 rfl Tryz.ntmps16 rfl s ?_
  repeat' (first|refine tw_ ?_|(refine ta_ ?_;intro _)|((fail_if_success (refine ybi rfl ?_));refine ybj rfl ?_ ?_<;>(intro ht;rw [ht];first|replace ht := oet_ ht|replace ht := oef_ ht|skip))|(refine ych ?_;first|(refine ybw rfl ?_ ?_<;>intro ht)|(refine ybx rfl ?_ ?_<;>intro ht)))
  (refine yco (ycp Tryz.func40 rfl (by kernel_rfl) rfl) (Of_sp sv l hl h hs) rfl rfl rfl ?_ ?_ ?_; (· (exact to_)); (· intro _ _ hle; (exact to_)); intro x px hle)
  obtain ⟨h1, bi, v⟩ := x
  replace hle : Le h h1 := hle
  have hv1 : Bs8 h1 v l := px
  have hs1 := hle
  clear px hle
  repeat' (first|refine tw_ ?_|(refine ta_ ?_;intro _)|((fail_if_success (refine ybi rfl ?_));refine ybj rfl ?_ ?_<;>(intro ht;rw [ht];first|replace ht := oet_ ht|replace ht := oef_ ht|skip))|(refine ych ?_;first|(refine ybw rfl ?_ ?_<;>intro ht)|(refine ybx rfl ?_ ?_<;>intro ht)))
  (refine rx_call_m (ycp Tryz.func41 rfl (by kernel_rfl) rfl) (perm_at (k := 0) rfl) (InSmall_sp bi v l 0 64 hb (by omega) hl h1 hv1) rfl rfl rfl ?_ ?_ ?_; (· (exact to_)); (· intro _ _ hle; (exact to_)); intro x px hle)
  have px : Bs8 h1 x (smS l).2.1 := px
  have eM : numC (l, 0) 1 64 = smS l := rfl
  rw [eM]
  have eS : srS l = if (sbsC (smS l).1.toNat (smS l).2).1.2 = true ∧ endC (sbsC (smS l).1.toNat (smS l).2).2 = 0 ∧ checkA (sbsC (smS l).1.toNat (smS l).2).1.1 = 0 then (true, (sbsC (smS l).1.toNat (smS l).2).1.1) else (false, []) := rfl
  rw [eS]
  clear eS eM
  generalize smS l = M at hok0 hbd px ⊢
  obtain ⟨nv, st⟩ := M
  dsimp only at hok0 hbd px ⊢
  obtain ⟨n, rfl⟩ : ∃ n : Nat, nv = n := ⟨nv.toNat, by omega⟩
  rw [Int.toNat_natCast]
  repeat' (first|refine tw_ ?_|(refine ta_ ?_;intro _)|((fail_if_success (refine ybi rfl ?_));refine ybj rfl ?_ ?_<;>(intro ht;rw [ht];first|replace ht := oet_ ht|replace ht := oef_ ht|skip))|(refine ych ?_;first|(refine ybw rfl ?_ ?_<;>intro ht)|(refine ybx rfl ?_ ?_<;>intro ht)))
  refine cx_row 57 20 ?_
  refine cx_loop (X := Nat × View × Value × Value × List Sb)
    (fun y => [(2, .slice none 0 0), (3, .int .i64 0), (4, .pointer (some ⟨bi, 0, none⟩)), (5, y.2.2.2.1), (6, .bool (sbsC y.1 st).1.2), (13, .int .i64 (n : Nat)), (14, .int .i64 (y.1 : Nat))])
    (fun y => y.2.1) (fun y => [Res.row 57 20 y.2.2.2.1 y.1 (y.2.2.2.2.flatMap sbc), inR bi y.2.2.1 (sbsC y.1 st).2.2])
    (fun y => y.1 ≤ n ∧ Le h1 y.2.1 ∧ Bs8 y.2.1 y.2.2.1 (sbsC y.1 st).2.1 ∧ (∀ z ∈ y.2.2.2.2, Sv y.2.1 z) ∧ y.2.2.2.2.map Sb.a = (sbsC y.1 st).1.1)
    (fun y => n - y.1) (0, h1, x, .slice none 0 0, []) ⟨Nat.zero_le _, Le.refl _, px, (fun z hz => by cases hz), rfl⟩ ts_ (fun _ s => s) ?_
  rintro ⟨k, hk, v, mv, zs⟩ ⟨q1, q2, q3, q4, q5⟩
  dsimp only at q1 q2 q3 q4 q5 ⊢
  obtain ⟨hok, hlen⟩ := sbsC_ok hok0 k
  by_cases hkn : k < n
  · have eD : sbsC (k + 1) st = (((sbsC k st).1.1 ++ [sbA (sbsC k st).2], (sbsC k st).1.2 && (sb4 (sbsC k st).2).1), (sb5 (sbsC k st).2).2) := rfl
    generalize sbsC k st = D at hok hlen q3 q5 eD ⊢
    obtain ⟨⟨A, rb⟩, ls, e⟩ := D
    dsimp only at hok hlen q3 q5 eD ⊢
    repeat' (first|(refine ycf ?_;apply ybk;(·first|(exact tk_));(·rfl);(·rfl))|refine t1_ ?_|(refine ta_ ?_;intro _)|((fail_if_success (refine ybi rfl ?_));refine ybj rfl ?_ ?_<;>(intro ht;rw [ht];first|replace ht := oet_ ht|replace ht := oef_ ht|skip))|(refine ych ?_;first|(refine ybw rfl ?_ ?_<;>intro ht)|(refine ybx rfl ?_ ?_<;>intro ht)))
    rename_i b7
    (refine rx_call_m (ycp Tryz.func42 rfl (by kernel_rfl) rfl) (perm_at (k := 2) rfl) (InNum_sp bi v ls e 1099511627776 hok.b (by omega) hok.l hk q3) rfl rfl rfl ?_ ?_ ?_; (· (exact to_)); (· intro _ _ hle; (exact to_)); intro x px hle)
    have hok1 := sb1_ok hok
    rw [show numC (ls, e) 8 1099511627776 = sb1 (ls, e) from rfl] at px ⊢
    generalize hS1 : sb1 (ls, e) = S1 at px hok1 ⊢
    obtain ⟨n1, ls1, e1⟩ := S1
    dsimp only at px hok1 ⊢
    have px1 := px
    repeat' (first|(refine ycf ?_;apply ybk;(·first|(exact tk_));(·rfl);(·rfl))|refine t1_ ?_|(refine ta_ ?_;intro _)|((fail_if_success (refine ybi rfl ?_));refine ybj rfl ?_ ?_<;>(intro ht;rw [ht];first|replace ht := oet_ ht|replace ht := oef_ ht|skip))|(refine ych ?_;first|(refine ybw rfl ?_ ?_<;>intro ht)|(refine ybx rfl ?_ ?_<;>intro ht)))
    (refine rx_call_m (ycp Tryz.func42 rfl (by kernel_rfl) rfl) (perm_at (k := 0) rfl) (InNum_sp bi x ls1 e1 1099511627776 hok1.b (by omega) hok1.l hk px1) rfl rfl rfl ?_ ?_ ?_; (· (exact to_)); (· intro _ _ hle; (exact to_)); intro x px hle)
    have hok2 := sb2_ok hok
    have hok3 := sb3_ok hok
    have hok5 := sb5_ok hok
    have hl4 := sb4_len hok
    have e2 : numC (ls1, e1) 8 1099511627776 = sb2 (ls, e) := by unfold sb2; rw [hS1]
    rw [e2] at px ⊢
    have e3 : byC (sb2 (ls, e)).2 16384 = sb3 (ls, e) := rfl
    have e4 : rdS (sb3 (ls, e)).1 = sb4 (ls, e) := rfl
    have e5 : byC (sb3 (ls, e)).2 16384 = sb5 (ls, e) := rfl
    have eA : sbA (ls, e) = ((n1, (sb2 (ls, e)).1), (sb4 (ls, e)).2.1, (sb4 (ls, e)).2.2, (sb5 (ls, e)).1) := by unfold sbA; rw [hS1]
    rw [eA] at eD
    clear eA e2
    generalize sb2 (ls, e) = S2 at px hok2 e3 eD ⊢
    obtain ⟨n2, ls2, er2⟩ := S2
    dsimp only at px hok2 e3 eD ⊢
    have px2 := px
    repeat' (first|(refine ycf ?_;apply ybk;(·first|(exact tk_));(·rfl);(·rfl))|refine t1_ ?_|(refine ta_ ?_;intro _)|((fail_if_success (refine ybi rfl ?_));refine ybj rfl ?_ ?_<;>(intro ht;rw [ht];first|replace ht := oet_ ht|replace ht := oef_ ht|skip))|(refine ych ?_;first|(refine ybw rfl ?_ ?_<;>intro ht)|(refine ybx rfl ?_ ?_<;>intro ht)))
    (refine rx_call_m (ycp Tryz.func44 rfl (by kernel_rfl) rfl) (perm_at (k := 0) rfl) (InBytes_sp bi x ls2 er2 16384 hok2.b (by omega) hok2.l hk px2) rfl rfl rfl ?_ ?_ ?_; (· (exact to_)); (· intro _ _ hle; (exact to_)); intro x px hle)
    rw [e3] at px ⊢
    generalize sb3 (ls, e) = S3 at px hok3 e4 e5 eD ⊢
    obtain ⟨bs3, ls3, er3⟩ := S3
    obtain ⟨h3, w3, v3⟩ := x
    dsimp only at px hok3 e4 e5 eD ⊢
    obtain ⟨pw, pv⟩ := px
    have hle3 : Le hk h3 := hle
    clear hle
    repeat' (first|(refine ycf ?_;apply ybk;(·first|(exact tk_));(·rfl);(·rfl))|refine t1_ ?_|(refine ta_ ?_;intro _)|((fail_if_success (refine ybi rfl ?_));refine ybj rfl ?_ ?_<;>(intro ht;rw [ht];first|replace ht := oet_ ht|replace ht := oef_ ht|skip))|(refine ych ?_;first|(refine ybw rfl ?_ ?_<;>intro ht)|(refine ybx rfl ?_ ?_<;>intro ht)))
    (refine yco (ycp Tryz.func43 rfl (by kernel_rfl) rfl) (Read_s w3 bs3 hok3.2.1 (by omega) h3 pw) rfl rfl rfl ?_ ?_ ?_; (· (exact to_)); (· intro _ _ hle; (exact to_)); intro x px hle)
    rw [e4] at px ⊢
    generalize sb4 (ls, e) = S4 at px hl4 eD ⊢
    obtain ⟨t4, U, M⟩ := S4
    obtain ⟨h4, v4⟩ := x
    dsimp only at px hl4 eD ⊢
    have hle4 : Le h3 h4 := hle
    clear hle
    obtain ⟨hu, mv4, rfl, hD4⟩ := px
    obtain ⟨_, ad4, cap4, rfl, _, _⟩ := id hD4
    obtain ⟨y1, hy1⟩ : ∃ y1 : Sb, y1 = ⟨(n1, n2), U, hu, M, .slice ad4 M.length cap4, [], .slice none 0 0⟩ := ⟨_, rfl⟩
    have g1 : spl (sbc (s0 (n1, n2))) (0 + 2) (cxc U (.slice ad4 M.length cap4)) = sbc y1 := by rw [hy1]; exact spl_past_r hu
    repeat' (first|(refine ycf ?_;apply ybk;(·first|(first|exact tk_|(apply yad;(·rfl);(·exact yaz 0 rfl);(·exact ycj hu))));(·rfl);(·rfl))|(first|(refine ybg 0 rfl rfl rfl (cxc_sz hu) (cxc_fit hu) (cxc_one rfl) (ybh (cxc_all hu)) rfl rfl ?_ ?_ ?_;(·(exact to_));(·(exact to_)))|(refine ybg 2 rfl rfl rfl (cxc_sz hu) (past_fit_r (x := s0 (n1, n2)) hu) (cxc_one rfl) g1 rfl rfl ?_ ?_ ?_;(·(exact to_));(·(exact to_))))|refine t1_ ?_|(refine ta_ ?_;intro _)|((fail_if_success (refine ybi rfl ?_));refine ybj rfl ?_ ?_<;>(intro ht;rw [ht];first|replace ht := oet_ ht|replace ht := oef_ ht|skip))|(refine ych ?_;first|(refine ybw rfl ?_ ?_<;>intro ht)|(refine ybx rfl ?_ ?_<;>intro ht)))
    (refine rx_call_m (ycp Tryz.func44 rfl (by kernel_rfl) rfl) (perm_at (k := 1) rfl) (InBytes_sp bi v3 ls3 er3 16384 hok3.1.b (by omega) hok3.1.l h4 (pv.mono hle4)) rfl rfl rfl ?_ ?_ ?_; (· (exact to_)); (· intro _ _ hle; (exact to_)); intro x px hle)
    rw [e5] at px ⊢
    generalize sb5 (ls, e) = S5 at px hok5 eD ⊢
    obtain ⟨bs5, ls5, er5⟩ := S5
    obtain ⟨h5, w5, v5⟩ := x
    dsimp only at px hok5 eD ⊢
    obtain ⟨pw5, pv5⟩ := px
    have hle5 : Le h4 h5 := hle
    clear hle
    obtain ⟨_, ad5, cap5, rfl, _, _⟩ := id pw5
    obtain ⟨y2, hy2⟩ : ∃ y2 : Sb, y2 = ⟨(n1, n2), U, hu, M, .slice ad4 M.length cap4, bs5, .slice ad5 bs5.length cap5⟩ := ⟨_, rfl⟩
    have g2 : spl (sbc y1) (0 + 19) [.slice ad5 bs5.length cap5] = sbc y2 := by rw [hy1, hy2]; exact spl_body_s
    have hlk5 : Le hk h5 := hle3.trans (hle4.trans hle5)
    have vy2 : Sv h5 y2 := by rw [hy2]; exact ⟨hD4.mono hle5, pw5, hok5.2.1⟩
    have ay2 : y2.a = ((n1, n2), U, M, bs5) := by rw [hy2]; rfl
    have hyo := vy2.one
    have hyl := sbc_len y2
    have hfin : ∀ rb2, (rb && t4) = rb2 → (∀ z ∈ zs ++ [y2], Sv h5 z) ∧ (zs ++ [y2]).map Sb.a = (sbsC (k + 1) st).1.1 ∧ (sbsC (k + 1) st).1.2 = rb2 ∧ (sbsC (k + 1) st).2 = (ls5, er5) := fun rb2 hr => by
      refine ⟨fun z hz => ?_, ?_, ?_, ?_⟩
      · rcases List.mem_append.1 hz with hz | hz
        · exact (q4 z hz).mono hlk5
        · rw [List.mem_singleton.1 hz]; exact vy2
      · rw [eD, List.map_append, q5]
        simp [ay2]
      · rw [eD]; exact hr
      · rw [eD]
    have hd4 : decide ((if t4 = true then (0 : Int) else 2) = 0) = t4 := by cases t4<;>rfl
    repeat' (first|(refine ycf ?_;apply ybk;(·first|(first|exact tk_|(apply yad;(·rfl);(·exact yaz 2 rfl);(·exact hyl))|(apply yad;(·rfl);(·exact yaz 3 rfl);(·exact hyl))));(·rfl);(·rfl))|(first|(refine ybg 3 rfl rfl rfl rfl (sbv_fit (by omega)) rfl g2 rfl rfl ?_ ?_ ?_;(·(exact to_));(·(exact to_)))|(refine ybg 2 rfl rfl rfl rfl (sbv_fit (by omega)) rfl g2 rfl rfl ?_ ?_ ?_;(·(exact to_));(·(exact to_))))|refine t1_ ?_|(refine ta_ ?_;intro _)|((fail_if_success (refine ybi rfl ?_));refine ybj rfl ?_ ?_<;>(intro ht;rw [ht];first|replace ht := oet_ ht|replace ht := oef_ ht|skip))|(refine ych ?_;first|(refine ybw rfl ?_ ?_<;>intro ht)|(refine ybx rfl ?_ ?_<;>intro ht)))
    all_goals
      refine yba (ybd rfl rfl rfl (ybe rfl (sbc_sz y2))) rfl rfl rfl ybf (fun _ => ybf) ?_
      intro b42
      refine rx_append (sz := 20) 4 rfl rfl rfl (yaz 0 rfl) (by show (sbc y2).length = 1 * 20; exact hyl) (fun u hu => List.all_eq_true.1 (sbc_one hyo.1 hyo.2) u hu) rfl (by omega) (by unfold maxLen; omega) (by omega) rfl rfl rfl ybf (fun _ => ybf) ?_
      intro v9 _
    · repeat' (first|(refine ycf ?_;apply ybk;(·first|(exact tk_));(·rfl);(·rfl))|refine t1_ ?_|(refine ta_ ?_;intro _)|((fail_if_success (refine ybi rfl ?_));refine ybj rfl ?_ ?_<;>(intro ht;rw [ht];first|replace ht := oet_ ht|replace ht := oef_ ht|skip))|(refine ych ?_;first|(refine ybw rfl ?_ ?_<;>intro ht)|(refine ybx rfl ?_ ?_<;>intro ht)))
      obtain ⟨f1, f2, f3, f4⟩ := hfin (decide ((if t4 = true then (0 : Int) else 2) = 0)) (by rw [hd4, ht]; rfl)
      refine nx_round (k + 1, h5, v5, v9, zs ++ [y2]) ⟨by show k + 1 ≤ n; omega, q2.trans hlk5, by dsimp only; rw [f4]; exact pv5, f1, f2⟩ (by show n - (k + 1) < n - k; omega) (by dsimp only; rw [f3]; exact ts_) (fun _ s => ?_)
      dsimp only
      rw [f4, List.flatMap_append, show [y2].flatMap sbc = sbc y2 by simp]
      exact (s.tl.perm (List.perm_append_comm (l₁ := [_]) (l₂ := [_, _, _]))).tl.tl
    · repeat' (first|(refine ycf ?_;apply ybk;(·first|(exact tk_));(·rfl);(·rfl))|refine t1_ ?_|(refine ta_ ?_;intro _)|((fail_if_success (refine ybi rfl ?_));refine ybj rfl ?_ ?_<;>(intro ht;rw [ht];first|replace ht := oet_ ht|replace ht := oef_ ht|skip))|(refine ych ?_;first|(refine ybw rfl ?_ ?_<;>intro ht)|(refine ybx rfl ?_ ?_<;>intro ht)))
      obtain ⟨f1, f2, f3, f4⟩ := hfin false (by rw [ht]; rfl)
      refine nx_round (k + 1, h5, v5, v9, zs ++ [y2]) ⟨by show k + 1 ≤ n; omega, q2.trans hlk5, by dsimp only; rw [f4]; exact pv5, f1, f2⟩ (by show n - (k + 1) < n - k; omega) (by dsimp only; rw [f3]; exact ts_) (fun _ s => ?_)
      dsimp only
      rw [f4, List.flatMap_append, show [y2].flatMap sbc = sbc y2 by simp]
      exact (s.tl.perm (List.perm_append_comm (l₁ := [_]) (l₂ := [_, _, _]))).tl.tl
  · have ek : k = n := by omega
    subst ek
    have fz : Fits zs := fits_sbs hok0 q5 (by omega)
    generalize sbsC k st = D at hok hlen q3 q5 ⊢
    obtain ⟨⟨A, rb⟩, ls, e⟩ := D
    dsimp only at hok hlen q3 q5 ⊢
    cases rb with
    | false =>
      repeat' (first|(refine ycf ?_;apply ybk;(·first|(exact tk_));(·rfl);(·rfl))|refine t1_ ?_|(refine ta_ ?_;intro _)|((fail_if_success (refine ybi rfl ?_));refine ybj rfl ?_ ?_<;>(intro ht;rw [ht];first|replace ht := oet_ ht|replace ht := oef_ ht|skip))|(refine ych ?_;first|(refine ybw rfl ?_ ?_<;>intro ht)|(refine ybx rfl ?_ ?_<;>intro ht)))
      rw [if_neg (by simp)]
      exact nx_ret2 rfl (rv_tmp rfl) (rv_tmp rfl) (fun w' s' => ⟨(hk, .slice none 0 0, []), rfl, s'.nil, ⟨Sc.nil hk 20 none 0, fun z hz => by cases hz⟩, rfl⟩)
    | true =>
      repeat' (first|(refine ycf ?_;apply ybk;(·first|(exact tk_));(·rfl);(·rfl))|refine t1_ ?_|(refine ta_ ?_;intro _)|((fail_if_success (refine ybi rfl ?_));refine ybj rfl ?_ ?_<;>(intro ht;rw [ht];first|replace ht := oet_ ht|replace ht := oef_ ht|skip))|(refine ych ?_;first|(refine ybw rfl ?_ ?_<;>intro ht)|(refine ybx rfl ?_ ?_<;>intro ht)))
      have hzl : zs.length = k := by rw [← hlen, ← q5, List.length_map]
      refine rx_persist rfl fun h6 hle6 hsm => ?_
      rw [← hzl] at hsm
      have S6 : Ss h6 mv zs := ⟨hsm, fun z hz => (q4 z hz).mono hle6⟩
      obtain ⟨_, ad6, cap6, rfl, _, _⟩ := id S6.1
      have C6 := scheck_sp _ zs h6 S6 (by omega) (fun x hx => by have := (fz.2 x hx).1; omega)
      rw [q5] at C6
      (refine rx_call_m (ycp Tryz.func45 rfl (by kernel_rfl) rfl) (perm_at (k := 0) rfl) (End_sp bi v ls e h6 (q3.mono hle6)) rfl rfl rfl ?_ ?_ ?_; (· (exact to_)); (· intro _ _ hle; (exact to_)); intro x px hle)
      by_cases hE : endC (ls, e) = 0
      · rw [hE]
        repeat' (first|(refine ycf ?_;apply ybk;(·first|(exact tk_));(·rfl);(·rfl))|refine t1_ ?_|(refine ta_ ?_;intro _)|((fail_if_success (refine ybi rfl ?_));refine ybj rfl ?_ ?_<;>(intro ht;rw [ht];first|replace ht := oet_ ht|replace ht := oef_ ht|skip))|(refine ych ?_;first|(refine ybw rfl ?_ ?_<;>intro ht)|(refine ybx rfl ?_ ?_<;>intro ht)))
        (refine ycn (ycp Tryz.func12 rfl (by kernel_rfl) rfl) (C6) rfl rfl rfl ?_ ?_; (· (exact to_)))
        by_cases hC : checkA A = 0
        · rw [show (if true = true ∧ (0 : Int) = 0 ∧ checkA A = 0 then (true, A) else (false, [])) = (true, A) from if_pos ⟨rfl, rfl, hC⟩, hC]
          repeat' (first|(refine ycf ?_;apply ybk;(·first|(exact tk_));(·rfl);(·rfl))|refine t1_ ?_|(refine ta_ ?_;intro _)|((fail_if_success (refine ybi rfl ?_));refine ybj rfl ?_ ?_<;>(intro ht;rw [ht];first|replace ht := oet_ ht|replace ht := oef_ ht|skip))|(refine ych ?_;first|(refine ybw rfl ?_ ?_<;>intro ht)|(refine ybx rfl ?_ ?_<;>intro ht)))
          exact nx_ret2 rfl (rv_tmp rfl) (rv_tmp rfl) (fun w' s' => ⟨(h6, _, zs), rfl, s'.nil, S6, q5⟩)
        · rw [show (if true = true ∧ (0 : Int) = 0 ∧ checkA A = 0 then (true, A) else (false, [])) = (false, []) from if_neg (fun hx => hC hx.2.2)]
          generalize checkA A = cz at hC ⊢
          repeat' (first|(refine ycf ?_;apply ybk;(·first|(exact tk_));(·rfl);(·rfl))|refine t1_ ?_|(refine ta_ ?_;intro _)|((fail_if_success (refine ybi rfl ?_));refine ybj rfl ?_ ?_<;>(intro ht;rw [ht];first|replace ht := oet_ ht|replace ht := oef_ ht|skip))|(refine ych ?_;first|(refine ybw rfl ?_ ?_<;>intro ht)|(refine ybx rfl ?_ ?_<;>intro ht)))
          exact nx_ret2 rfl (rv_tmp rfl) (rv_tmp rfl) (fun w' s' => ⟨(h6, .slice none 0 0, []), rfl, s'.nil, ⟨Sc.nil h6 20 none 0, fun z hz => by cases hz⟩, rfl⟩)
      · rw [show (if true = true ∧ endC (ls, e) = 0 ∧ checkA A = 0 then (true, A) else (false, [])) = (false, []) from if_neg (fun hx => hE hx.2.1)]
        generalize endC (ls, e) = ez at hE ⊢
        repeat' (first|(refine ycf ?_;apply ybk;(·first|(exact tk_));(·rfl);(·rfl))|refine t1_ ?_|(refine ta_ ?_;intro _)|((fail_if_success (refine ybi rfl ?_));refine ybj rfl ?_ ?_<;>(intro ht;rw [ht];first|replace ht := oet_ ht|replace ht := oef_ ht|skip))|(refine ych ?_;first|(refine ybw rfl ?_ ?_<;>intro ht)|(refine ybx rfl ?_ ?_<;>intro ht)))
        exact nx_ret2 rfl (rv_tmp rfl) (rv_tmp rfl) (fun w' s' => ⟨(h6, .slice none 0 0, []), rfl, s'.nil, ⟨Sc.nil h6 20 none 0, fun z hz => by cases hz⟩, rfl⟩)
end Go.Proofs.YtkkjppeaaicgaaaGreatDoor
end

section
namespace Go.Proofs.YtkkjppeaaicgaaaGreatDoor
open Go Go.Ck
set_option maxRecDepth 100000
set_option maxHeartbeats 4000000
set_option linter.unusedVariables false
theorem encA_flat (l : List Ab) {k : Nat} (hk : k < l.length) : (l.take (k + 1)).flatMap encA = (l.take k).flatMap encA ++ encA l[k] := flat_succ hk
theorem flat_le {l : List Ab} : ∀ k, ((l.take k).flatMap encA).length ≤ (l.flatMap encA).length := fun k => by
  have : l.flatMap encA = (l.take k).flatMap encA ++ (l.drop k).flatMap encA := by rw [← List.flatMap_append, List.take_append_drop]
  rw [this, List.length_append]
  omega
theorem encA_len (a : Ab) : (encA a).length = 24 + (encW a.2.1 a.2.2.1).length + a.2.2.2.length := by
  simp only [encA, List.length_append, num8_len, num4_len]
  omega
theorem sWrite_sp (v : Value) (l : List Sb) (h : View) (hs : Ss h v l) (fl : Fits l) (hsz : (encS (l.map Sb.a)).length ≤ 900000) (w : World) (s : St ⟨w, h, []⟩ h [] w) :
    Calls Tryz.prog 7 [v].toArray w fun e w' => ∃ x : View × Value, e = .returned (.tuple #[x.2, .int .i64 (checkA (l.map Sb.a))]) ∧ St ⟨w, h, []⟩ x.1 [] w' ∧ Bs8 x.1 x.2 (if checkA (l.map Sb.a) = 0 then encS (l.map Sb.a) else []) := by
  obtain ⟨_, ad, cap, rfl, _, _⟩ := id hs.1
  have C1 := scheck_sp _ l h hs (by have := fl.1; omega) (fun x hx => by have := fl.2 x hx; omega)
  refine calls_enter Tryz.func7 rfl Tryz.ntmps7 rfl s ?_
  repeat' (first|refine tw_ ?_|(refine ta_ ?_;intro _)|((fail_if_success (refine ybi rfl ?_));refine ybj rfl ?_ ?_<;>(intro ht;rw [ht];first|replace ht := oet_ ht|replace ht := oef_ ht|skip))|(refine ych ?_;first|(refine ybw rfl ?_ ?_<;>intro ht)|(refine ybx rfl ?_ ?_<;>intro ht)))
  (refine ycn (ycp Tryz.func12 rfl (by kernel_rfl) rfl) (C1) rfl rfl rfl ?_ ?_; (· (exact to_)))
  by_cases hk0 : checkA (l.map Sb.a) = 0
  · rw [hk0]
    repeat' (first|(refine ycf ?_;apply ybk;(·first|(exact tk_));(·rfl);(·rfl))|refine t1_ ?_|(refine ta_ ?_;intro _)|((fail_if_success (refine ybi rfl ?_));refine ybj rfl ?_ ?_<;>(intro ht;rw [ht];first|replace ht := oet_ ht|replace ht := oef_ ht|skip))|(refine ych ?_;first|(refine ybw rfl ?_ ?_<;>intro ht)|(refine ybx rfl ?_ ?_<;>intro ht)))
    rename_i bo
    obtain ⟨c64, cR, _, _⟩ := checkA_ok hk0
    rw [List.length_map] at c64
    have hszs : ((l.map Sb.a).flatMap encA).length ≤ 900000 := by
      have e : (encS (l.map Sb.a)).length = 1 + ((l.map Sb.a).flatMap encA).length := by unfold encS; rw [List.length_append, num1_len]
      omega
    refine rx_row 5 1 ?_
    refine rx_perm (List.Perm.swap _ _ _) ?_
    (refine rx_call_2 (ycp Tryz.func22 rfl (by kernel_rfl) rfl) (OutSmall_sp bo (.slice none 0 0) [] false l.length (by omega) (by omega) (by simp) h) rfl rfl rfl ?_ ?_ ?_; (· (exact to_)); (· intro _ _ hle; (exact to_)); intro x px hle)
    repeat' (first|(refine ycf ?_;apply ybk;(·first|(exact tk_));(·rfl);(·rfl))|refine t1_ ?_|(refine ta_ ?_;intro _)|((fail_if_success (refine ybi rfl ?_));refine ybj rfl ?_ ?_<;>(intro ht;rw [ht];first|replace ht := oet_ ht|replace ht := oef_ ht|skip))|(refine ych ?_;first|(refine ybw rfl ?_ ?_<;>intro ht)|(refine ybx rfl ?_ ?_<;>intro ht)))
    refine cx_loop (X := Nat × View × Value) (fun y => [(5, .pointer (some ⟨bo, 0, none⟩)), (20, .slice ad l.length cap), (21, .int .i64 (l.length : Nat)), (22, .int .i64 (y.1 : Nat))]) (fun y => y.2.1) (fun y => [outR bo y.2.2 false, rowB y.2.2 (num1 l.length ++ ((l.map Sb.a).take y.1).flatMap encA)])
      (fun y => y.1 ≤ l.length ∧ Le h y.2.1) (fun y => l.length - y.1) (0, h, x) ⟨Nat.zero_le _, Le.refl _⟩ ts_ (fun _ s => ?_) ?_
    · dsimp only
      rw [List.take_zero, List.flatMap_nil, List.append_nil]
      exact s
    clear px hle
    rintro ⟨k, hk, v⟩ ⟨q1, q2⟩
    dsimp only at q1 q2 ⊢
    have hpl : (num1 l.length ++ ((l.map Sb.a).take k).flatMap encA).length ≤ 900001 := by
      have := flat_le (l := l.map Sb.a) k
      rw [List.length_append, num1_len]
      omega
    by_cases hkl : k < l.length
    · obtain ⟨bs, o, rfl⟩ := hs.1.ad (by omega) (by omega)
      have hel : ∀ L, Cells hk L ⟨bs, o + k * 20, none⟩ (sbc l[k]) := fun L => (hs.mono q2).1.elem sbc_len k hkl
      have hxm := List.getElem_mem hkl
      have vx := (hs.2 _ hxm).mono q2
      obtain ⟨r1, r2, _, r4⟩ := rightA_ok (cR _ (List.mem_map_of_mem hxm))
      have fx := fl.2 _ hxm
      have hstep : ((l.map Sb.a).take (k + 1)).flatMap encA = ((l.map Sb.a).take k).flatMap encA ++ encA (l[k].a) := by
        rw [encA_flat _ (by rw [List.length_map]; exact hkl), List.getElem_map]
      have hsl : (((l.map Sb.a).take k).flatMap encA).length + (encA (l[k].a)).length ≤ 900000 := by
        rw [← List.length_append, ← hstep]
        exact Nat.le_trans (flat_le _) hszs
      generalize l[k] = x0 at hel vx r1 r2 r4 fx hstep hsl
      have hx0 := sbc_len x0
      have hone := vx.one
      have hu := x0.hu
      have hal := encA_len x0.a
      have ea : encA x0.a = num8 x0.d.1 ++ num8 x0.d.2 ++ (num4 (encW x0.u x0.l).length ++ encW x0.u x0.l) ++ (num4 x0.b.length ++ x0.b) := rfl
      have hal : (encA x0.a).length = 24 + (encW x0.u x0.l).length + x0.b.length := hal
      have r2 : checkC x0.u x0.l = 0 := r2
      have hd4 := right_of r1
      have hd4 : 1 ≤ x0.d.1 ∧ x0.d.1 ≤ 16 ∧ 1 ≤ x0.d.2 ∧ x0.d.2 ≤ 1099511627776 := hd4
      have W1 := Write_sp (cxv x0.u x0.mv) x0.u x0.l hk ⟨hu, _, rfl, vx.ds⟩ (by omega)
      rw [r2, if_pos rfl] at W1
      repeat' (first|(refine ycf ?_;apply ybk;(·first|(first|exact tk_|(apply yad;(·rfl);(·exact hel _);(·exact hx0))|(apply yad;(·rfl);(·exact sb_past (yaz 0 rfl));(·exact ycj hu))));(·rfl);(·rfl))|(refine ybg 0 rfl rfl rfl (sbc_sz x0) (sbc_fit rfl) (sbc_one hone.1 hone.2) (ybh (sbc_all rfl)) rfl rfl ?_ ?_ ?_;(·(exact to_));(·(exact to_)))|refine t1_ ?_|(refine ta_ ?_;intro _)|((fail_if_success (refine ybi rfl ?_));refine ybj rfl ?_ ?_<;>(intro ht;rw [ht];first|replace ht := oet_ ht|replace ht := oef_ ht|skip))|(refine ych ?_;first|(refine ybw rfl ?_ ?_<;>intro ht)|(refine ybx rfl ?_ ?_<;>intro ht)))
      rename_i b7
      (refine yco (ycp Tryz.func23 rfl (by kernel_rfl) rfl) (W1) rfl rfl rfl ?_ ?_ ?_; (· (exact to_)); (· intro _ _ hle; (exact to_)); intro x px hle)
      obtain ⟨h2, v2⟩ := x
      dsimp only at px
      have hle2 : Le hk h2 := hle
      clear hle
      have pw := px
      obtain ⟨_, ad2, cap2, rfl, _, _⟩ := id pw
      repeat' (first|(refine ycf ?_;apply ybk;(·first|(first|exact tk_|(apply yad;(·rfl);(·exact hel _);(·exact hx0))|(apply yad;(·rfl);(·exact sb_past (yaz 0 rfl));(·exact ycj hu))));(·rfl);(·rfl))|(refine ybg 0 rfl rfl rfl (sbc_sz x0) (sbc_fit rfl) (sbc_one hone.1 hone.2) (ybh (sbc_all rfl)) rfl rfl ?_ ?_ ?_;(·(exact to_));(·(exact to_)))|refine t1_ ?_|(refine ta_ ?_;intro _)|((fail_if_success (refine ybi rfl ?_));refine ybj rfl ?_ ?_<;>(intro ht;rw [ht];first|replace ht := oet_ ht|replace ht := oef_ ht|skip))|(refine ych ?_;first|(refine ybw rfl ?_ ?_<;>intro ht)|(refine ybx rfl ?_ ?_<;>intro ht)))
      refine cx_perm (List.Perm.trans (List.Perm.swap _ _ _) (List.Perm.cons _ (List.Perm.swap _ _ _))) ?_
      refine cx_region_draw [Res.blk b7 (.cells (sbc x0).toArray 57 (0, 0))] rfl (by kernel_rfl) ?_
      repeat' (refine ycf ?_;(first|(first|(apply ybm;(·(first|(apply yae;(·rfl);(·(first|exact sb_cl (yaz 0 rfl)|exact sb_nu (yaz 0 rfl)|exact sb_body (yaz 0 rfl))))|exact tq_));(·rfl);(·rfl);(·(first|exact fun _ s => Hd.sub s (Le.refl h2) (fun r hr => List.mem_cons_of_mem _ (List.mem_cons_of_mem _ (List.mem_append_left [] hr))))))|refine ybl rfl rfl ?_|((fail_if_success (refine ybi rfl ?_));refine ybj rfl ?_ ?_<;>(intro ht;rw [ht];first|replace ht := oet_ ht|replace ht := oef_ ht|skip))|(refine tb_ ?_ ?_ ?_;(·(first|exact ybf|(refine .inl ?_;(first|exact fun _ s => Hd.sub s (Le.refl h2) (fun r hr => List.mem_cons_of_mem _ (List.mem_cons_of_mem _ (List.mem_append_left [] hr)))))|exact to_));(·intro _;(first|exact ybf|(refine .inl ?_;(first|exact fun _ s => Hd.sub s (Le.refl h2) (fun r hr => List.mem_cons_of_mem _ (List.mem_cons_of_mem _ (List.mem_append_left [] hr)))))|exact to_));intro _)|(first|(refine tqs_ ?_ ?_ ?_;(·(first|exact ybf|(refine .inl ?_;(first|exact fun _ s => Hd.sub s (Le.refl h2) (fun r hr => List.mem_cons_of_mem _ (List.mem_cons_of_mem _ (List.mem_append_left [] hr)))))|exact to_));(·(first|exact ybf|(refine .inl ?_;(first|exact fun _ s => Hd.sub s (Le.refl h2) (fun r hr => List.mem_cons_of_mem _ (List.mem_cons_of_mem _ (List.mem_append_left [] hr)))))|exact to_))))|(apply ybn;(·(first|(apply yae;(·rfl);(·(first|exact sb_cl (yaz 0 rfl)|exact sb_nu (yaz 0 rfl)|exact sb_body (yaz 0 rfl))))|exact tq_));(·rfl);(·rfl);(·rfl);(·(first|exact ybf|(refine .inl ?_;(first|exact fun _ s => Hd.sub s (Le.refl h2) (fun r hr => List.mem_cons_of_mem _ (List.mem_cons_of_mem _ (List.mem_append_left [] hr)))))|exact to_))))|refine ycg ?_))
      (refine rx_call_2 (ycp Tryz.func24 rfl (by kernel_rfl) rfl) (OutNum_sp bo v _ false x0.d.1 (by omega) (by omega) (by omega) h2) rfl rfl rfl ?_ ?_ ?_;(·(first|exact ybf|(refine .inl ?_;(first|exact fun _ s => Hd.sub s (Le.refl h2) (fun r hr => List.mem_cons_of_mem _ (List.mem_cons_of_mem _ (List.mem_append_left [] hr)))))|exact to_));(·intro _ _ hle;(first|exact ybf|(refine .inl ?_;(first|exact fun _ s => Hd.sub s (Le.refl h2) (fun r hr => List.mem_cons_of_mem _ (List.mem_cons_of_mem _ (List.mem_append_left [] hr)))))|exact to_));intro x px hle)
      repeat' (refine ycf ?_;(first|(first|(apply ybm;(·(first|(apply yae;(·rfl);(·(first|exact sb_cl (yaz 0 rfl)|exact sb_nu (yaz 0 rfl)|exact sb_body (yaz 0 rfl))))|exact tq_));(·rfl);(·rfl);(·(first|exact fun _ s => Hd.sub s (Le.refl h2) (fun r hr => List.mem_cons_of_mem _ (List.mem_cons_of_mem _ (List.mem_append_left [] hr))))))|refine ybl rfl rfl ?_|((fail_if_success (refine ybi rfl ?_));refine ybj rfl ?_ ?_<;>(intro ht;rw [ht];first|replace ht := oet_ ht|replace ht := oef_ ht|skip))|(refine tb_ ?_ ?_ ?_;(·(first|exact ybf|(refine .inl ?_;(first|exact fun _ s => Hd.sub s (Le.refl h2) (fun r hr => List.mem_cons_of_mem _ (List.mem_cons_of_mem _ (List.mem_append_left [] hr)))))|exact to_));(·intro _;(first|exact ybf|(refine .inl ?_;(first|exact fun _ s => Hd.sub s (Le.refl h2) (fun r hr => List.mem_cons_of_mem _ (List.mem_cons_of_mem _ (List.mem_append_left [] hr)))))|exact to_));intro _)|(first|(refine tqs_ ?_ ?_ ?_;(·(first|exact ybf|(refine .inl ?_;(first|exact fun _ s => Hd.sub s (Le.refl h2) (fun r hr => List.mem_cons_of_mem _ (List.mem_cons_of_mem _ (List.mem_append_left [] hr)))))|exact to_));(·(first|exact ybf|(refine .inl ?_;(first|exact fun _ s => Hd.sub s (Le.refl h2) (fun r hr => List.mem_cons_of_mem _ (List.mem_cons_of_mem _ (List.mem_append_left [] hr)))))|exact to_))))|(apply ybn;(·(first|(apply yae;(·rfl);(·(first|exact sb_cl (yaz 0 rfl)|exact sb_nu (yaz 0 rfl)|exact sb_body (yaz 0 rfl))))|exact tq_));(·rfl);(·rfl);(·rfl);(·(first|exact ybf|(refine .inl ?_;(first|exact fun _ s => Hd.sub s (Le.refl h2) (fun r hr => List.mem_cons_of_mem _ (List.mem_cons_of_mem _ (List.mem_append_left [] hr)))))|exact to_))))|refine ycg ?_))
      (refine rx_call_2 (ycp Tryz.func24 rfl (by kernel_rfl) rfl) (OutNum_sp bo x _ false x0.d.2 (by omega) (by omega) (by rw [List.length_append, List.length_reverse, putLow_len];omega) h2) rfl rfl rfl ?_ ?_ ?_;(·(first|exact ybf|(refine .inl ?_;(first|exact fun _ s => Hd.sub s (Le.refl h2) (fun r hr => List.mem_cons_of_mem _ (List.mem_cons_of_mem _ (List.mem_append_left [] hr)))))|exact to_));(·intro _ _ hle;(first|exact ybf|(refine .inl ?_;(first|exact fun _ s => Hd.sub s (Le.refl h2) (fun r hr => List.mem_cons_of_mem _ (List.mem_cons_of_mem _ (List.mem_append_left [] hr)))))|exact to_));intro x px hle)
      repeat' (refine ycf ?_;(first|(first|(apply ybm;(·(first|(apply yae;(·rfl);(·(first|exact sb_cl (yaz 0 rfl)|exact sb_nu (yaz 0 rfl)|exact sb_body (yaz 0 rfl))))|exact tq_));(·rfl);(·rfl);(·(first|exact fun _ s => Hd.sub s (Le.refl h2) (fun r hr => List.mem_cons_of_mem _ (List.mem_cons_of_mem _ (List.mem_append_left [] hr))))))|refine ybl rfl rfl ?_|((fail_if_success (refine ybi rfl ?_));refine ybj rfl ?_ ?_<;>(intro ht;rw [ht];first|replace ht := oet_ ht|replace ht := oef_ ht|skip))|(refine tb_ ?_ ?_ ?_;(·(first|exact ybf|(refine .inl ?_;(first|exact fun _ s => Hd.sub s (Le.refl h2) (fun r hr => List.mem_cons_of_mem _ (List.mem_cons_of_mem _ (List.mem_append_left [] hr)))))|exact to_));(·intro _;(first|exact ybf|(refine .inl ?_;(first|exact fun _ s => Hd.sub s (Le.refl h2) (fun r hr => List.mem_cons_of_mem _ (List.mem_cons_of_mem _ (List.mem_append_left [] hr)))))|exact to_));intro _)|(first|(refine tqs_ ?_ ?_ ?_;(·(first|exact ybf|(refine .inl ?_;(first|exact fun _ s => Hd.sub s (Le.refl h2) (fun r hr => List.mem_cons_of_mem _ (List.mem_cons_of_mem _ (List.mem_append_left [] hr)))))|exact to_));(·(first|exact ybf|(refine .inl ?_;(first|exact fun _ s => Hd.sub s (Le.refl h2) (fun r hr => List.mem_cons_of_mem _ (List.mem_cons_of_mem _ (List.mem_append_left [] hr)))))|exact to_))))|(apply ybn;(·(first|(apply yae;(·rfl);(·(first|exact sb_cl (yaz 0 rfl)|exact sb_nu (yaz 0 rfl)|exact sb_body (yaz 0 rfl))))|exact tq_));(·rfl);(·rfl);(·rfl);(·(first|exact ybf|(refine .inl ?_;(first|exact fun _ s => Hd.sub s (Le.refl h2) (fun r hr => List.mem_cons_of_mem _ (List.mem_cons_of_mem _ (List.mem_append_left [] hr)))))|exact to_))))|refine ycg ?_))
      (refine rx_call_2 (ycp Tryz.func25 rfl (by kernel_rfl) rfl) (OutBytes_sp bo x _ false _ (encW x0.u x0.l) (by simp only [List.length_append, List.length_reverse, putLow_len];rw [List.length_append, num1_len] at hpl;rw [num1_len];omega) h2 pw) rfl rfl rfl ?_ ?_ ?_;(·(first|exact ybf|(refine .inl ?_;(first|exact fun _ s => Hd.sub s (Le.refl h2) (fun r hr => List.mem_cons_of_mem _ (List.mem_cons_of_mem _ (List.mem_append_left [] hr)))))|exact to_));(·intro _ _ hle;(first|exact ybf|(refine .inl ?_;(first|exact fun _ s => Hd.sub s (Le.refl h2) (fun r hr => List.mem_cons_of_mem _ (List.mem_cons_of_mem _ (List.mem_append_left [] hr)))))|exact to_));intro x px hle)
      repeat' (refine ycf ?_;(first|(first|(apply ybm;(·(first|(apply yae;(·rfl);(·(first|exact sb_cl (yaz 0 rfl)|exact sb_nu (yaz 0 rfl)|exact sb_body (yaz 0 rfl))))|exact tq_));(·rfl);(·rfl);(·(first|exact fun _ s => Hd.sub s (Le.refl h2) (fun r hr => List.mem_cons_of_mem _ (List.mem_cons_of_mem _ (List.mem_append_left [] hr))))))|refine ybl rfl rfl ?_|((fail_if_success (refine ybi rfl ?_));refine ybj rfl ?_ ?_<;>(intro ht;rw [ht];first|replace ht := oet_ ht|replace ht := oef_ ht|skip))|(refine tb_ ?_ ?_ ?_;(·(first|exact ybf|(refine .inl ?_;(first|exact fun _ s => Hd.sub s (Le.refl h2) (fun r hr => List.mem_cons_of_mem _ (List.mem_cons_of_mem _ (List.mem_append_left [] hr)))))|exact to_));(·intro _;(first|exact ybf|(refine .inl ?_;(first|exact fun _ s => Hd.sub s (Le.refl h2) (fun r hr => List.mem_cons_of_mem _ (List.mem_cons_of_mem _ (List.mem_append_left [] hr)))))|exact to_));intro _)|(first|(refine tqs_ ?_ ?_ ?_;(·(first|exact ybf|(refine .inl ?_;(first|exact fun _ s => Hd.sub s (Le.refl h2) (fun r hr => List.mem_cons_of_mem _ (List.mem_cons_of_mem _ (List.mem_append_left [] hr)))))|exact to_));(·(first|exact ybf|(refine .inl ?_;(first|exact fun _ s => Hd.sub s (Le.refl h2) (fun r hr => List.mem_cons_of_mem _ (List.mem_cons_of_mem _ (List.mem_append_left [] hr)))))|exact to_))))|(apply ybn;(·(first|(apply yae;(·rfl);(·(first|exact sb_cl (yaz 0 rfl)|exact sb_nu (yaz 0 rfl)|exact sb_body (yaz 0 rfl))))|exact tq_));(·rfl);(·rfl);(·rfl);(·(first|exact ybf|(refine .inl ?_;(first|exact fun _ s => Hd.sub s (Le.refl h2) (fun r hr => List.mem_cons_of_mem _ (List.mem_cons_of_mem _ (List.mem_append_left [] hr)))))|exact to_))))|refine ycg ?_))
      (refine rx_call_2 (ycp Tryz.func25 rfl (by kernel_rfl) rfl) (OutBytes_sp bo x _ false x0.bv x0.b (by simp only [List.length_append, List.length_reverse, putLow_len, num4_len];rw [List.length_append, num1_len] at hpl;rw [num1_len];omega) h2 (vx.bs.mono hle2)) rfl rfl rfl ?_ ?_ ?_;(·(first|exact ybf|(refine .inl ?_;(first|exact fun _ s => Hd.sub s (Le.refl h2) (fun r hr => List.mem_cons_of_mem _ (List.mem_cons_of_mem _ (List.mem_append_left [] hr)))))|exact to_));(·intro _ _ hle;(first|exact ybf|(refine .inl ?_;(first|exact fun _ s => Hd.sub s (Le.refl h2) (fun r hr => List.mem_cons_of_mem _ (List.mem_cons_of_mem _ (List.mem_append_left [] hr)))))|exact to_));intro x px hle)
      repeat' (refine ycf ?_;(first|(first|(apply ybm;(·(first|(apply yae;(·rfl);(·(first|exact sb_cl (yaz 0 rfl)|exact sb_nu (yaz 0 rfl)|exact sb_body (yaz 0 rfl))))|exact tq_));(·rfl);(·rfl);(·(first|exact fun _ s => Hd.sub s (Le.refl h2) (fun r hr => List.mem_cons_of_mem _ (List.mem_cons_of_mem _ (List.mem_append_left [] hr))))))|refine ybl rfl rfl ?_|((fail_if_success (refine ybi rfl ?_));refine ybj rfl ?_ ?_<;>(intro ht;rw [ht];first|replace ht := oet_ ht|replace ht := oef_ ht|skip))|(refine tb_ ?_ ?_ ?_;(·(first|exact ybf|(refine .inl ?_;(first|exact fun _ s => Hd.sub s (Le.refl h2) (fun r hr => List.mem_cons_of_mem _ (List.mem_cons_of_mem _ (List.mem_append_left [] hr)))))|exact to_));(·intro _;(first|exact ybf|(refine .inl ?_;(first|exact fun _ s => Hd.sub s (Le.refl h2) (fun r hr => List.mem_cons_of_mem _ (List.mem_cons_of_mem _ (List.mem_append_left [] hr)))))|exact to_));intro _)|(first|(refine tqs_ ?_ ?_ ?_;(·(first|exact ybf|(refine .inl ?_;(first|exact fun _ s => Hd.sub s (Le.refl h2) (fun r hr => List.mem_cons_of_mem _ (List.mem_cons_of_mem _ (List.mem_append_left [] hr)))))|exact to_));(·(first|exact ybf|(refine .inl ?_;(first|exact fun _ s => Hd.sub s (Le.refl h2) (fun r hr => List.mem_cons_of_mem _ (List.mem_cons_of_mem _ (List.mem_append_left [] hr)))))|exact to_))))|(apply ybn;(·(first|(apply yae;(·rfl);(·(first|exact sb_cl (yaz 0 rfl)|exact sb_nu (yaz 0 rfl)|exact sb_body (yaz 0 rfl))))|exact tq_));(·rfl);(·rfl);(·rfl);(·(first|exact ybf|(refine .inl ?_;(first|exact fun _ s => Hd.sub s (Le.refl h2) (fun r hr => List.mem_cons_of_mem _ (List.mem_cons_of_mem _ (List.mem_append_left [] hr)))))|exact to_))))|refine ycg ?_))
      repeat' (first|(refine ycf ?_;apply ybk;(·first|(exact tk_));(·rfl);(·rfl))|refine t1_ ?_|(refine ta_ ?_;intro _)|((fail_if_success (refine ybi rfl ?_));refine ybj rfl ?_ ?_<;>(intro ht;rw [ht];first|replace ht := oet_ ht|replace ht := oef_ ht|skip))|(refine ych ?_;first|(refine ybw rfl ?_ ?_<;>intro ht)|(refine ybx rfl ?_ ?_<;>intro ht)))
      refine nx_round (k + 1, h2, x) ⟨by show k + 1 ≤ _; omega, q2.trans hle2⟩ (by show l.length - (k + 1) < l.length - k; omega) ts_ (fun _ s => ?_)
      dsimp only
      rw [hstep, ea]
      have e : num1 (l.length : Int) ++ (((l.map Sb.a).take k).flatMap encA ++ (num8 x0.d.1 ++ num8 x0.d.2 ++ (num4 (encW x0.u x0.l).length ++ encW x0.u x0.l) ++ (num4 x0.b.length ++ x0.b))) =
          num1 (l.length : Int) ++ ((l.map Sb.a).take k).flatMap encA ++ (putLow 8 x0.d.1).reverse ++ (putLow 8 x0.d.2).reverse ++ num4 (encW x0.u x0.l).length ++ encW x0.u x0.l ++ num4 x0.b.length ++ x0.b := by
        simp only [num8, List.append_assoc]
      rw [e]
      have s2 : St _ h2 [Res.blk b7 _, outR bo x false, rowB x _] _ := s.perm (List.perm_append_comm (l₁ := [_, _]) (l₂ := [_]))
      exact s2.tl
    · have ek : k = l.length := by omega
      subst ek
      repeat' (first|(refine ycf ?_;apply ybk;(·first|(exact tk_));(·rfl);(·rfl))|refine t1_ ?_|(refine ta_ ?_;intro _)|((fail_if_success (refine ybi rfl ?_));refine ybj rfl ?_ ?_<;>(intro ht;rw [ht];first|replace ht := oet_ ht|replace ht := oef_ ht|skip))|(refine ych ?_;first|(refine ybw rfl ?_ ?_<;>intro ht)|(refine ybx rfl ?_ ?_<;>intro ht)))
      (refine rx_call_2 (ycp Tryz.func26 rfl (by kernel_rfl) rfl) (Done_sp bo v _ (by omega) hk) rfl rfl rfl ?_ ?_ ?_;(·(first|exact ybf|(refine .inl ?_;(first|exact fun _ s => Hd.sub s (Le.refl h2) (fun r hr => List.mem_cons_of_mem _ (List.mem_cons_of_mem _ (List.mem_append_left [] hr)))))|exact to_));(·intro _ _ hle;(first|exact ybf|(refine .inl ?_;(first|exact fun _ s => Hd.sub s (Le.refl h2) (fun r hr => List.mem_cons_of_mem _ (List.mem_cons_of_mem _ (List.mem_append_left [] hr)))))|exact to_));intro x px hle)
      refine rx_persist rfl fun h3 hle3 hsv => ?_
      obtain ⟨_, adx, capx, hx, _, _⟩ := id hsv
      subst hx
      repeat' (first|(refine ycf ?_;apply ybk;(·first|(exact tk_));(·rfl);(·rfl))|refine t1_ ?_|(refine ta_ ?_;intro _)|((fail_if_success (refine ybi rfl ?_));refine ybj rfl ?_ ?_<;>(intro ht;rw [ht];first|replace ht := oet_ ht|replace ht := oef_ ht|skip))|(refine ych ?_;first|(refine ybw rfl ?_ ?_<;>intro ht)|(refine ybx rfl ?_ ?_<;>intro ht)))
      refine nx_ret2 rfl (rv_tmp rfl) (rv_tmp rfl) (fun w' s' => ⟨(h3, _), rfl, s'.nil, ?_⟩)
      rw [if_pos rfl]
      have e : encS (l.map Sb.a) = num1 l.length ++ ((l.map Sb.a).take l.length).flatMap encA := by
        unfold encS
        rw [List.length_map, List.take_of_length_le (by rw [List.length_map]; exact Nat.le_refl _)]
      rw [e]
      exact hsv
  · rw [if_neg hk0]
    generalize checkA (l.map Sb.a) = cz at hk0 ⊢
    repeat' (first|(refine ycf ?_;apply ybk;(·first|(exact tk_));(·rfl);(·rfl))|refine t1_ ?_|(refine ta_ ?_;intro _)|((fail_if_success (refine ybi rfl ?_));refine ybj rfl ?_ ?_<;>(intro ht;rw [ht];first|replace ht := oet_ ht|replace ht := oef_ ht|skip))|(refine ych ?_;first|(refine ybw rfl ?_ ?_<;>intro ht)|(refine ybx rfl ?_ ?_<;>intro ht)))
    exact nx_ret2 rfl (rv_tmp rfl) (rv_tmp rfl) (fun w' s' => ⟨(h, .slice none 0 0), rfl, s'.nil, Sc.nil h 1 none 0⟩)
end Go.Proofs.YtkkjppeaaicgaaaGreatDoor
end
