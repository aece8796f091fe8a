/-
  Part 22 of a proof: DotY DotZ.
  Conditions: each theorem states its own.
-/
import Derived.Test.YtkkjppeaaicgaaaGreatDoorSrGPM21
section
namespace Go.Proofs.YtkkjppeaaicgaaaGreatDoor
open Go Go.Ck Go.Shelf
set_option maxRecDepth 100000
set_option maxHeartbeats 1000000
set_option linter.unusedVariables false
theorem make_inv {u0 u : List Int} {more M : List Dt} (hu : u.length = 16) (hb : ∀ x ∈ u, 0 ≤ x ∧ x ≤ 1099511627776) (h1 : ∀ x, rightB x = true → uD u0 x ≤ uD u x) (h2 : ∀ x, rightB x = true → x.2 ≤ uD u x → x.2 ≤ uD u0 x ∨ x ∈ more)
    (hfix : ∀ d ∈ more, d.2 ≠ uD u d + 1) (hr : ∀ d ∈ more, rightB d = true) (hs : M.Pairwise fun x y => ordD x y < 0) (hm : ∀ x, x ∈ M ↔ x ∈ more ∧ uD u x < x.2) :
    Inv u M ∧ ∀ x, rightB x = true → hasC u M x = (hasC u0 [] x || decide (x ∈ more)) := by
  refine ⟨⟨hu, hb, fun e he => ?_, hs⟩, fun x hx => ?_⟩
  · obtain ⟨q1, q2⟩ := (hm e).1 he
    have := hfix e q1
    exact ⟨hr e q1, by omega⟩
  · unfold hasC
    rw [Bool.eq_iff_iff]
    simp only [Bool.or_eq_true, decide_eq_true_iff, List.not_mem_nil, or_false]
    constructor
    · rintro (h | h)
      · exact h2 x hx h
      · exact .inr ((hm x).1 h).1
    · rintro (h | h)
      · exact .inl (by have := h1 x hx; omega)
      · by_cases hq : x.2 ≤ uD u x
        · exact .inl hq
        · exact .inr ((hm x).2 ⟨h, by omega⟩)
def insD (M : List Dt) (k : Nat) (d : Dt) : List Dt := M.take k ++ d :: M.drop k
theorem insD_len {M : List Dt} {k : Nat} {d : Dt} : (insD M k d).length = M.length + 1 := by
  simp [insD]; omega
theorem insD_all {M : List Dt} {d : Dt} : insD M M.length d = M ++ [d] := by simp [insD]
theorem insD_mem {M : List Dt} {k : Nat} {d x : Dt} : x ∈ insD M k d ↔ x = d ∨ x ∈ M := by
  unfold insD
  rw [List.mem_append, List.mem_cons]
  constructor
  · rintro (h | h | h)
    · exact .inr (List.mem_of_mem_take h)
    · exact .inl h
    · exact .inr (List.mem_of_mem_drop h)
  · rintro (h | h)
    · exact .inr (.inl h)
    · rw [← List.take_append_drop k M, List.mem_append] at h
      rcases h with h | h
      · exact .inl h
      · exact .inr (.inr h)
theorem insD_at {M : List Dt} {k j : Nat} {d : Dt} (hj : j < k) (hk : k ≤ M.length) : (insD M k d)[j]'(by rw [insD_len]; omega) = M[j]'(by omega) := by
  unfold insD
  rw [List.getElem_append_left (by simp; omega), List.getElem_take]
theorem insD_set {M : List Dt} {k : Nat} {d : Dt} (h0 : 0 < k) (hk : k ≤ M.length) : ((insD M k d).set k (M[k - 1]'(by omega))).set (k - 1) d = insD M (k - 1) d := by
  have e1 : M.take k = M.take (k - 1) ++ [M[k - 1]'(by omega)] := by
    have := List.take_succ_eq_append_getElem (l := M) (i := k - 1) (by omega)
    rwa [show k - 1 + 1 = k by omega] at this
  have e2 : M.drop (k - 1) = M[k - 1]'(by omega) :: M.drop k := by
    have := List.drop_eq_getElem_cons (l := M) (i := k - 1) (by omega)
    rwa [show k - 1 + 1 = k by omega] at this
  have l1 : (M.take (k - 1)).length = k - 1 := by simp; omega
  unfold insD
  rw [e1, e2, List.append_assoc, List.set_append_right _ _ (by omega), l1, show k - (k - 1) = 1 by omega]
  rw [List.set_append_right _ _ (by omega), l1, Nat.sub_self]
  rfl
theorem insD_sorted {M : List Dt} {k : Nat} {d : Dt} (hs : M.Pairwise fun x y => ordD x y < 0) (hk : k ≤ M.length) (hd : ∀ e ∈ M.drop k, ordD d e < 0) (hl : ∀ (h0 : 0 < k), ordD (M[k - 1]'(by omega)) d < 0) : (insD M k d).Pairwise fun x y => ordD x y < 0 := by
  unfold insD
  rw [← List.take_append_drop k M, List.pairwise_append] at hs
  obtain ⟨q1, q2, q3⟩ := hs
  refine List.pairwise_append.2 ⟨q1, List.pairwise_cons.2 ⟨hd, q2⟩, fun e he x hx => ?_⟩
  rcases List.mem_cons.1 hx with rfl | hx
  · obtain ⟨i, hi, rfl⟩ := List.getElem_of_mem he
    have hik : i < k := by simp at hi; omega
    rw [List.getElem_take]
    have hl' := hl (by omega)
    by_cases hc : i = k - 1
    · subst hc; exact hl'
    · have hp : (M.take k).Pairwise fun x y => ordD x y < 0 := q1
      have := List.pairwise_iff_getElem.1 hp i (k - 1) hi (by simp; omega) (by omega)
      rw [List.getElem_take, List.getElem_take] at this
      rw [ord_iff] at this hl' ⊢
      omega
  · exact q3 e he x hx
theorem spl_dot : ∀ {l : List Dt} {j : Nat} {x : Dt}, j < l.length → spl (l.flatMap dcs) (j * 2) (dcs x) = (l.set j x).flatMap dcs
  | y :: l, 0, x, _ => by
    show ([] ++ dcs x) ++ ((dcs y ++ l.flatMap dcs).drop (0 + 2)) = dcs x ++ l.flatMap dcs
    rfl
  | y :: l, j + 1, x, hj => by
    have ih := spl_dot (l := l) (j := j) (x := x) (by simpa using hj)
    unfold spl at ih ⊢
    have e1 : (j + 1) * 2 = (dcs y).length + j * 2 := by rw [dcs_len]; omega
    have e2 : (j + 1) * 2 + (dcs x).length = (dcs y).length + (j * 2 + (dcs x).length) := by rw [dcs_len, dcs_len]; omega
    rw [List.flatMap_cons, e2, e1, List.take_length_add_append, List.drop_length_add_append]
    show dcs y ++ _ ++ _ ++ _ = dcs y ++ (l.set j x).flatMap dcs
    rw [← ih]
    simp
theorem sum_set : ∀ {u : List Int} {i : Nat} {x : Int}, i < u.length → (u.set i x).sum = u.sum - u.getD i 0 + x
  | y :: u, 0, x, _ => by simp; omega
  | y :: u, i + 1, x, hi => by
    have := sum_set (u := u) (i := i) (x := x) (by simpa using hi)
    simp only [List.set_cons_succ, List.sum_cons, List.getD_cons_succ, this]
    omega
theorem sum_le : ∀ {u : List Int}, (∀ x ∈ u, 0 ≤ x ∧ x ≤ 1099511627776) → u.sum ≤ 1099511627776 * u.length
  | [], _ => by simp
  | y :: u, h => by
    have h1 := sum_le (u := u) (fun x hx => h x (List.mem_cons_of_mem _ hx))
    have h2 := h y (List.mem_cons_self ..)
    simp only [List.sum_cons, List.length_cons]
    omega
structure MkI (u0 : List Int) (more : List Dt) (u : List Int) : Prop where
  len : u.length = 16
  bd : ∀ x ∈ u, 0 ≤ x ∧ x ≤ 1099511627776
  ge : ∀ x, rightB x = true → uD u0 x ≤ uD u x
  mem : ∀ x, rightB x = true → x.2 ≤ uD u x → x.2 ≤ uD u0 x ∨ x ∈ more
theorem MkI.step {u0 u : List Int} {more : List Dt} (h : MkI u0 more u) {d : Dt} (hd : d ∈ more) (hr : rightB d = true) (he : d.2 = uD u d + 1) : MkI u0 more (u.set (d.1 - 1).toNat d.2) := by
  have hd4 := right_of hr
  refine ⟨by simpa using h.len, fun x hx => ?_, fun x hx => ?_, fun x hx hle => ?_⟩
  · rcases List.mem_or_eq_of_mem_set hx with hx | rfl
    · exact h.bd x hx
    · omega
  · rw [uD_set h.len hr hx]
    have := h.ge x hx
    split
    · rename_i hc
      have : uD u x = uD u d := by unfold uD; rw [hc]
      omega
    · exact this
  · rw [uD_set h.len hr hx] at hle
    split at hle
    · rename_i hc
      have hxd : uD u x = uD u d := by unfold uD; rw [hc]
      by_cases hq : x.2 = d.2
      · exact .inr (by rw [show x = d from Prod.ext hc hq]; exact hd)
      · exact h.mem x hx (by omega)
    · exact h.mem x hx hle
end Go.Proofs.YtkkjppeaaicgaaaGreatDoor
end

section
namespace Go.Proofs.YtkkjppeaaicgaaaGreatDoor
open Go Go.Ck
set_option maxRecDepth 100000
set_option maxHeartbeats 2000000
set_option linter.unusedVariables false
def fixU (u : List Int) (L : List Dt) (k : Nat) : Prop := ∀ j (hj : j < L.length), j < k → L[j].2 ≠ uD u L[j] + 1
theorem spl_dot' {l : List Dt} {j o : Nat} {x : Dt} (ho : o = j * 2) (hj : j < l.length) : spl (l.flatMap dcs) o (Value.agg (dcs x).toArray).cells.toList = (l.set j x).flatMap dcs := by
  subst ho
  exact spl_dot hj
theorem refMake_sp (u0 : List Int) (mv : Value) (Lm : List Dt) (h : View) (hu : u0.length = 16) (hub : ∀ x ∈ u0, 0 ≤ x ∧ x ≤ 1099511627776) (hs : Ds h mv Lm) (hr : ∀ d ∈ Lm, rightB d = true) (hlen : Lm.length ≤ 1000000) (w : World) (s : St ⟨w, h, []⟩ h [] w) :
    Calls Tryz.prog 33 [.agg (up u0).toArray, mv].toArray w fun e w' => ∃ x : View × Value × Int × (List Int × List Dt), e = .returned (.tuple #[x.2.1, .int .i64 x.2.2.1]) ∧ St ⟨w, h, []⟩ x.1 [] w' ∧
      Inv x.2.2.2.1 x.2.2.2.2 ∧ (∀ y, rightB y = true → hasC x.2.2.2.1 x.2.2.2.2 y = (hasC u0 [] y || decide (y ∈ Lm))) ∧
      (if 32 < x.2.2.2.2.length then x.2.2.1 = 11 ∧ Cx x.1 x.2.1 zeroU [] else x.2.2.1 = 0 ∧ Cx x.1 x.2.1 x.2.2.2.1 x.2.2.2.2) := by
  obtain ⟨_, ad, cap, rfl, _, _⟩ := id hs
  refine calls_enter Tryz.func33 rfl Tryz.ntmps33 rfl s ?_
  have hfu : fillL (fun i : Nat => ([(0, 16), (16, 1)] : List (Nat × Nat))[i]?) (up zeroU ++ [.slice none 0 0]) [(0, .agg (up u0).toArray)] = some (cxc u0 (.slice none 0 0)) := by
    obtain ⟨a0, a1, a2, a3, a4, a5, a6, a7, a8, a9, a10, a11, a12, a13, a14, a15, rfl⟩ := list16 u0 hu
    rfl
  repeat' (first|(refine ycf ?_;apply ybk;(·first|(first|(apply yad (vs := up u0);(·rfl);(·exact yaz 1 rfl);(·simp [up, hu]))|(apply yax (cs := cxc u0 (.slice none 0 0));(·rfl);(·exact hfu))));(·rfl);(·rfl))|(refine ybg 0 rfl rfl rfl (cxc_sz hu) (cxc_fit hu) (cxc_one rfl) (ybh (cxc_all hu)) rfl rfl ?_ ?_ ?_;(·(exact to_));(·(exact to_)))|refine t1_ ?_|(refine ta_ ?_;intro _)|((fail_if_success (refine ybi rfl ?_));refine ybj rfl ?_ ?_<;>(intro ht;rw [ht];first|replace ht := oet_ ht|replace ht := oef_ ht|skip))|(refine ych ?_;first|(refine ybw rfl ?_ ?_<;>intro ht)|(refine ybx rfl ?_ ?_<;>intro ht)))
  rename_i b2 b4 b6
  refine cx_loop (X := List Int × Bool) (fun y => [(1, .slice ad Lm.length cap), (2, .pointer (some ⟨b2, 0, none⟩)), (4, .pointer (some ⟨b4, 0, none⟩)), (5, .int .i64 0), (6, .pointer (some ⟨b6, 0, none⟩)), (7, .bool y.2)]) (fun _ => h)
    (fun y => [Res.blk b6 (.cells (cxc y.1 (.slice none 0 0)).toArray 40 (0, 0)), Res.blk b4 (.cells (cxc zeroU (.slice none 0 0)).toArray 40 (0, 0)), Res.blk b2 (.cells (up u0).toArray 34 (0, 0))])
    (fun y => MkI u0 Lm y.1 ∧ (y.2 = false → fixU y.1 Lm Lm.length)) (fun y => 2 * (17592186044416 - y.1.sum).toNat + (if y.2 then 1 else 0)) (u0, true) ⟨⟨hu, hub, fun x _ => Int.le_refl _, fun x _ hx => .inl hx⟩, fun hx => by cases hx⟩ ts_ (fun _ s => s) ?_
  rintro ⟨u, fl⟩ ⟨hI, hF⟩
  dsimp only at hI hF ⊢
  have hul := hI.len
  cases fl with
  | true =>
    repeat' (first|(refine ycf ?_;apply ybk;(·first|(first|(apply yad (vs := up u0);(·rfl);(·exact yaz 1 rfl);(·simp [up, hu]))|(apply yax (cs := cxc u0 (.slice none 0 0));(·rfl);(·exact hfu))));(·rfl);(·rfl))|(refine ybg 0 rfl rfl rfl (cxc_sz hu) (cxc_fit hu) (cxc_one rfl) (ybh (cxc_all hu)) rfl rfl ?_ ?_ ?_;(·(exact to_));(·(exact to_)))|refine t1_ ?_|(refine ta_ ?_;intro _)|((fail_if_success (refine ybi rfl ?_));refine ybj rfl ?_ ?_<;>(intro ht;rw [ht];first|replace ht := oet_ ht|replace ht := oef_ ht|skip))|(refine ych ?_;first|(refine ybw rfl ?_ ?_<;>intro ht)|(refine ybx rfl ?_ ?_<;>intro ht)))
    refine cx_loop (X := Nat × List Int × Bool) (fun y => [(1, .slice ad Lm.length cap), (2, .pointer (some ⟨b2, 0, none⟩)), (4, .pointer (some ⟨b4, 0, none⟩)), (5, .int .i64 0), (6, .pointer (some ⟨b6, 0, none⟩)), (7, .bool y.2.2), (8, .int .i64 y.1)]) (fun _ => h)
      (fun y => [Res.blk b6 (.cells (cxc y.2.1 (.slice none 0 0)).toArray 40 (0, 0)), Res.blk b4 (.cells (cxc zeroU (.slice none 0 0)).toArray 40 (0, 0)), Res.blk b2 (.cells (up u0).toArray 34 (0, 0))])
      (fun y => y.1 ≤ Lm.length ∧ MkI u0 Lm y.2.1 ∧ (y.2.2 = false → y.2.1 = u ∧ fixU u Lm y.1) ∧ (y.2.2 = true → u.sum < y.2.1.sum)) (fun y => Lm.length - y.1) (0, u, false) ⟨Nat.zero_le _, hI, fun _ => ⟨rfl, fun j hj h0 => by omega⟩, fun hx => by cases hx⟩ ts_ (fun _ s => s) ?_
    rintro ⟨k, u', c⟩ ⟨hk, hI', hF', hT'⟩
    dsimp only at hk hI' hF' hT' ⊢
    have hul' := hI'.len
    by_cases hkl : k < Lm.length
    · obtain ⟨bs, o, rfl⟩ := hs.ad (by omega) (by omega)
      have hel : ∀ L, Cells h L ⟨bs, o + k * 2, none⟩ (dcs Lm[k]) := fun L => hs.elem dcs_len k hkl
      have hc0 : ∀ L, CellAt h L bs (o + (k : Int).toNat * 2 + 0) (.int .i64 Lm[k].1) := fun L => (hel L).cell (j := 0) rfl
      have hc1 : ∀ L, CellAt h L bs (o + (k : Int).toNat * 2 + 1) (.int .i64 Lm[k].2) := fun L => (hel L).cell (j := 1) rfl
      have hdm : Lm[k] ∈ Lm := List.getElem_mem hkl
      have hdr := hr _ hdm
      have hd4 := right_of hdr
      have hb := hI'.bd (u'.getD (Lm[k].1 - 1).toNat 0) (getD_mem (by omega))
      repeat' (first|(refine ycf ?_;apply ybk;(·first|(first|(apply yad (vs := up u0);(·rfl);(·exact yaz 1 rfl);(·simp [up, hu]))|(apply yax (cs := cxc u0 (.slice none 0 0));(·rfl);(·exact hfu)))|(apply yae;(·rfl);(·(first|exact hc0 _|exact hc1 _|exact ycl (yaz 0 rfl) (Lm[k].1 - 1).toNat (by omega) (by omega)))));(·rfl);(·rfl))|(refine ybg 0 rfl rfl rfl rfl (fit_cxc (i := (Lm[k].1 - 1).toNat) hul' (by omega) (by omega)) rfl (spl_cxc (i := (Lm[k].1 - 1).toNat) (by omega) (by omega)) rfl rfl ?_ ?_ ?_;(·(exact to_));(·(exact to_)))|refine t1_ ?_|(refine ta_ ?_;intro _)|((fail_if_success (refine ybi rfl ?_));refine ybj rfl ?_ ?_<;>(intro ht;rw [ht];first|replace ht := oet_ ht|replace ht := oef_ ht|skip))|(refine ych ?_;first|(refine ybw rfl ?_ ?_<;>intro ht)|(refine ybx rfl ?_ ?_<;>intro ht)))
      · refine cx_region_draw' rfl (by kernel_rfl) ?_
        repeat' (refine ycf ?_;(first|(first|(apply ybm;(·(first|(first|(apply yad (vs := up u0);(·rfl);(·exact yaz 1 rfl);(·simp [up, hu]))|(apply yax (cs := cxc u0 (.slice none 0 0));(·rfl);(·exact hfu)))|(apply yae;(·rfl);(·(first|exact hc0 _|exact hc1 _|exact ycl (yaz 0 rfl) (Lm[k].1 - 1).toNat (by omega) (by omega))))|exact tq_));(·rfl);(·rfl);(·(exact th_)))|refine ybl rfl rfl ?_|((fail_if_success (refine ybi rfl ?_));refine ybj rfl ?_ ?_<;>(intro ht;rw [ht];first|replace ht := oet_ ht|replace ht := oef_ ht|skip))|(refine tb_ ?_ ?_ ?_;(·(exact to_));(·intro _;(exact to_));intro _)|(first|(refine ybg 0 rfl rfl rfl rfl (fit_cxc (i := (Lm[k].1 - 1).toNat) hul' (by omega) (by omega)) rfl (spl_cxc (i := (Lm[k].1 - 1).toNat) (by omega) (by omega)) rfl rfl ?_ ?_ ?_;(·(exact to_));(·(exact to_)))|(refine tqs_ ?_ ?_ ?_;(·(exact to_));(·(exact to_))))|(apply ybn;(·(first|(first|(apply yad (vs := up u0);(·rfl);(·exact yaz 1 rfl);(·simp [up, hu]))|(apply yax (cs := cxc u0 (.slice none 0 0));(·rfl);(·exact hfu)))|(apply yae;(·rfl);(·(first|exact hc0 _|exact hc1 _|exact ycl (yaz 0 rfl) (Lm[k].1 - 1).toNat (by omega) (by omega))))|exact tq_));(·rfl);(·rfl);(·rfl);(·(exact to_))))|refine ycg ?_))
        repeat' (first|(refine ycf ?_;apply ybk;(·first|(first|(apply yad (vs := up u0);(·rfl);(·exact yaz 1 rfl);(·simp [up, hu]))|(apply yax (cs := cxc u0 (.slice none 0 0));(·rfl);(·exact hfu)))|(apply yae;(·rfl);(·(first|exact hc0 _|exact hc1 _|exact ycl (yaz 0 rfl) (Lm[k].1 - 1).toNat (by omega) (by omega)))));(·rfl);(·rfl))|(refine ybg 0 rfl rfl rfl rfl (fit_cxc (i := (Lm[k].1 - 1).toNat) hul' (by omega) (by omega)) rfl (spl_cxc (i := (Lm[k].1 - 1).toNat) (by omega) (by omega)) rfl rfl ?_ ?_ ?_;(·(exact to_));(·(exact to_)))|refine t1_ ?_|(refine ta_ ?_;intro _)|((fail_if_success (refine ybi rfl ?_));refine ybj rfl ?_ ?_<;>(intro ht;rw [ht];first|replace ht := oet_ ht|replace ht := oef_ ht|skip))|(refine ych ?_;first|(refine ybw rfl ?_ ?_<;>intro ht)|(refine ybx rfl ?_ ?_<;>intro ht)))
        · have hq := ht
          refine cx_region_draw' rfl (by kernel_rfl) ?_
          repeat' (refine ycf ?_;(first|(first|(apply ybm;(·(first|(first|(apply yad (vs := up u0);(·rfl);(·exact yaz 1 rfl);(·simp [up, hu]))|(apply yax (cs := cxc u0 (.slice none 0 0));(·rfl);(·exact hfu)))|(apply yae;(·rfl);(·(first|exact hc0 _|exact hc1 _|exact ycl (yaz 0 rfl) (Lm[k].1 - 1).toNat (by omega) (by omega))))|exact tq_));(·rfl);(·rfl);(·(exact th_)))|refine ybl rfl rfl ?_|((fail_if_success (refine ybi rfl ?_));refine ybj rfl ?_ ?_<;>(intro ht;rw [ht];first|replace ht := oet_ ht|replace ht := oef_ ht|skip))|(refine tb_ ?_ ?_ ?_;(·(exact to_));(·intro _;(exact to_));intro _)|(first|(refine ybg 0 rfl rfl rfl rfl (fit_cxc (i := (Lm[k].1 - 1).toNat) hul' (by omega) (by omega)) rfl (spl_cxc (i := (Lm[k].1 - 1).toNat) (by omega) (by omega)) rfl rfl ?_ ?_ ?_;(·(exact to_));(·(exact to_)))|(refine tqs_ ?_ ?_ ?_;(·(exact to_));(·(exact to_))))|(apply ybn;(·(first|(first|(apply yad (vs := up u0);(·rfl);(·exact yaz 1 rfl);(·simp [up, hu]))|(apply yax (cs := cxc u0 (.slice none 0 0));(·rfl);(·exact hfu)))|(apply yae;(·rfl);(·(first|exact hc0 _|exact hc1 _|exact ycl (yaz 0 rfl) (Lm[k].1 - 1).toNat (by omega) (by omega))))|exact tq_));(·rfl);(·rfl);(·rfl);(·(exact to_))))|refine ycg ?_))
          repeat' (first|(refine ycf ?_;apply ybk;(·first|(first|(apply yad (vs := up u0);(·rfl);(·exact yaz 1 rfl);(·simp [up, hu]))|(apply yax (cs := cxc u0 (.slice none 0 0));(·rfl);(·exact hfu)))|(apply yae;(·rfl);(·(first|exact hc0 _|exact hc1 _|exact ycl (yaz 0 rfl) (Lm[k].1 - 1).toNat (by omega) (by omega)))));(·rfl);(·rfl))|(refine ybg 0 rfl rfl rfl rfl (fit_cxc (i := (Lm[k].1 - 1).toNat) hul' (by omega) (by omega)) rfl (spl_cxc (i := (Lm[k].1 - 1).toNat) (by omega) (by omega)) rfl rfl ?_ ?_ ?_;(·(exact to_));(·(exact to_)))|refine t1_ ?_|(refine ta_ ?_;intro _)|((fail_if_success (refine ybi rfl ?_));refine ybj rfl ?_ ?_<;>(intro ht;rw [ht];first|replace ht := oet_ ht|replace ht := oef_ ht|skip))|(refine ych ?_;first|(refine ybw rfl ?_ ?_<;>intro ht)|(refine ybx rfl ?_ ?_<;>intro ht)))
          have hsum := sum_set (u := u') (i := (Lm[k].1 - 1).toNat) (x := Lm[k].2) (by omega)
          have hlt : u.sum < (u'.set (Lm[k].1 - 1).toNat Lm[k].2).sum := by
            rw [hsum]
            cases c with
            | true => have := hT' rfl; omega
            | false => rw [← (hF' rfl).1]; omega
          refine nx_round (k + 1, u'.set (Lm[k].1 - 1).toNat Lm[k].2, true) ⟨by show k + 1 ≤ _; omega, hI'.step hdm hdr hq, fun hc => (by cases hc), fun _ => hlt⟩ (by show Lm.length - (k + 1) < Lm.length - k; omega) ts_ (fun _ s => s)
        · have hq := ht
          refine nx_round (k + 1, u', c) ⟨by show k + 1 ≤ _; omega, hI', fun hc => ⟨(hF' hc).1, fun j hj hjk => ?_⟩, hT'⟩ (by show Lm.length - (k + 1) < Lm.length - k; omega) ts_ (fun _ s => s)
          obtain ⟨q1, q2⟩ := hF' hc
          by_cases hjk' : j = k
          · subst hjk'
            subst q1
            exact hq
          · exact q2 j hj (by omega)
      · omega
    · repeat' (first|(refine ycf ?_;apply ybk;(·first|(first|(apply yad (vs := up u0);(·rfl);(·exact yaz 1 rfl);(·simp [up, hu]))|(apply yax (cs := cxc u0 (.slice none 0 0));(·rfl);(·exact hfu)))|(apply yae;(·rfl);(·(first|exact hc0 _|exact hc1 _|exact ycl (yaz 0 rfl) (Lm[k].1 - 1).toNat (by omega) (by omega)))));(·rfl);(·rfl))|(refine ybg 0 rfl rfl rfl rfl (fit_cxc (i := (Lm[k].1 - 1).toNat) hul' (by omega) (by omega)) rfl (spl_cxc (i := (Lm[k].1 - 1).toNat) (by omega) (by omega)) rfl rfl ?_ ?_ ?_;(·(exact to_));(·(exact to_)))|refine t1_ ?_|(refine ta_ ?_;intro _)|((fail_if_success (refine ybi rfl ?_));refine ybj rfl ?_ ?_<;>(intro ht;rw [ht];first|replace ht := oet_ ht|replace ht := oef_ ht|skip))|(refine ych ?_;first|(refine ybw rfl ?_ ?_<;>intro ht)|(refine ybx rfl ?_ ?_<;>intro ht)))
      · omega
      have ek : k = Lm.length := by omega
      subst ek
      have hm : 2 * (17592186044416 - u'.sum).toNat + (if c then 1 else 0) < 2 * (17592186044416 - u.sum).toNat + 1 := by
        cases c with
        | true =>
          have h1 := hT' rfl
          have h2 := sum_le hI'.bd
          rw [hul'] at h2
          simp only [if_true]
          omega
        | false =>
          rw [(hF' rfl).1]
          simp
      refine nx_round (u', c) ⟨hI', fun hc => ?_⟩ hm ts_ (fun _ s => s)
      obtain ⟨q1, q2⟩ := hF' hc
      dsimp only
      rw [q1]; exact q2
  | false =>
    have hfix := hF rfl
    repeat' (first|(refine ycf ?_;apply ybk;(·first|(first|(apply yad (vs := up u0);(·rfl);(·exact yaz 1 rfl);(·simp [up, hu]))|(apply yax (cs := cxc u0 (.slice none 0 0));(·rfl);(·exact hfu)))|(apply yae;(·rfl);(·(first|exact hc0 _|exact hc1 _|exact ycl (yaz 0 rfl) (Lm[k].1 - 1).toNat (by omega) (by omega)))));(·rfl);(·rfl))|(refine ybg 0 rfl rfl rfl rfl (fit_cxc (i := (Lm[k].1 - 1).toNat) hul' (by omega) (by omega)) rfl (spl_cxc (i := (Lm[k].1 - 1).toNat) (by omega) (by omega)) rfl rfl ?_ ?_ ?_;(·(exact to_));(·(exact to_)))|refine t1_ ?_|(refine ta_ ?_;intro _)|((fail_if_success (refine ybi rfl ?_));refine ybj rfl ?_ ?_<;>(intro ht;rw [ht];first|replace ht := oet_ ht|replace ht := oef_ ht|skip))|(refine ych ?_;first|(refine ybw rfl ?_ ?_<;>intro ht)|(refine ybx rfl ?_ ?_<;>intro ht)))
    refine cx_row 53 2 ?_
    refine cx_loop (X := Nat × List Dt × Value) (fun y => [(1, .slice ad Lm.length cap), (4, .pointer (some ⟨b4, 0, none⟩)), (5, .int .i64 0), (6, .pointer (some ⟨b6, 0, none⟩)), (9, .int .i64 y.1)]) (fun _ => h)
      (fun y => [Res.row 53 2 y.2.2 y.2.1.length (y.2.1.flatMap dcs), Res.blk b6 (.cells (cxc u y.2.2).toArray 40 (0, 0)), Res.blk b4 (.cells (cxc zeroU (.slice none 0 0)).toArray 40 (0, 0))])
      (fun y => y.1 ≤ Lm.length ∧ y.2.1.length ≤ y.1 ∧ y.2.1.Pairwise (fun a b => ordD a b < 0) ∧ ∀ x, x ∈ y.2.1 ↔ x ∈ Lm.take y.1 ∧ uD u x < x.2) (fun y => Lm.length - y.1) (0, [], .slice none 0 0) ⟨Nat.zero_le _, Nat.le_refl _, List.Pairwise.nil, fun x => by simp⟩ ts_ (fun _ s => st_left (B := [_]) s) ?_
    rintro ⟨i, M, v⟩ ⟨hi, hMl, hMs, hMm⟩
    dsimp only at hi hMl hMs hMm ⊢
    by_cases hil : i < Lm.length
    · obtain ⟨bs, o, rfl⟩ := hs.ad (by omega) (by omega)
      have hel : ∀ L, Cells h L ⟨bs, o + i * 2, none⟩ (dcs Lm[i]) := fun L => hs.elem dcs_len i hil
      have hdm : Lm[i] ∈ Lm := List.getElem_mem hil
      have hdr := hr _ hdm
      have hd4 := right_of hdr
      have htk : ∀ x, x ∈ Lm.take (i + 1) ↔ x ∈ Lm.take i ∨ x = Lm[i] := fun x => by rw [List.take_succ_eq_append_getElem hil, List.mem_append, List.mem_singleton]
      repeat' (first|(refine ycf ?_;apply ybk;(·first|(first|(apply yad;(·rfl);(·exact hel _);(·rfl))|(apply yad;(·rfl);(·exact yaz 2 rfl);(·exact ycj hul)))|(apply yae;(·rfl);(·(first|exact hc0 _|exact hc1 _|exact ycl (yaz 0 rfl) (Lm[k].1 - 1).toNat (by omega) (by omega)))));(·rfl);(·rfl))|(refine ybg 0 rfl rfl rfl rfl (fit_cxc (i := (Lm[k].1 - 1).toNat) hul' (by omega) (by omega)) rfl (spl_cxc (i := (Lm[k].1 - 1).toNat) (by omega) (by omega)) rfl rfl ?_ ?_ ?_;(·(exact to_));(·(exact to_)))|refine t1_ ?_|(refine ta_ ?_;intro _)|((fail_if_success (refine ybi rfl ?_));refine ybj rfl ?_ ?_<;>(intro ht;rw [ht];first|replace ht := oet_ ht|replace ht := oef_ ht|skip))|(refine ych ?_;first|(refine ybw rfl ?_ ?_<;>intro ht)|(refine ybx rfl ?_ ?_<;>intro ht)))
      · cases hH : hasC u M Lm[i] with
        | true =>
          (refine rx_call_lend (u := .bool true) 1 (ycp Tryz.func21 rfl (by kernel_rfl) rfl) rfl (fun h' _ hsc w s => by rw [← hH]; exact refHas_sp _ u M Lm[i] h' ⟨hul, v, rfl, hsc⟩ (by omega) hdr w s) rfl rfl rfl ?_ ?_; (· exact ybf))
          repeat' (first|(refine ycf ?_;apply ybk;(·first|(first|(apply yad;(·rfl);(·exact hel _);(·rfl))|(apply yad;(·rfl);(·exact yaz 2 rfl);(·exact ycj hul)))|(apply yae;(·rfl);(·(first|exact hc0 _|exact hc1 _|exact ycl (yaz 0 rfl) (Lm[k].1 - 1).toNat (by omega) (by omega)))));(·rfl);(·rfl))|(refine ybg 0 rfl rfl rfl rfl (fit_cxc (i := (Lm[k].1 - 1).toNat) hul' (by omega) (by omega)) rfl (spl_cxc (i := (Lm[k].1 - 1).toNat) (by omega) (by omega)) rfl rfl ?_ ?_ ?_;(·(exact to_));(·(exact to_)))|refine t1_ ?_|(refine ta_ ?_;intro _)|((fail_if_success (refine ybi rfl ?_));refine ybj rfl ?_ ?_<;>(intro ht;rw [ht];first|replace ht := oet_ ht|replace ht := oef_ ht|skip))|(refine ych ?_;first|(refine ybw rfl ?_ ?_<;>intro ht)|(refine ybx rfl ?_ ?_<;>intro ht)))
          refine nx_round (i + 1, M, v) ⟨by show i + 1 ≤ _; omega, by show M.length ≤ i + 1; omega, hMs, fun x => ?_⟩ (by show Lm.length - (i + 1) < Lm.length - i; omega) ts_ (fun _ s => s.tl)
          dsimp only
          rw [hMm x, htk x]
          refine ⟨fun hx => ⟨.inl hx.1, hx.2⟩, fun hx => ⟨hx.1.elim id (fun e => ?_), hx.2⟩⟩
          unfold hasC at hH
          rw [Bool.or_eq_true, decide_eq_true_iff, decide_eq_true_iff] at hH
          rcases hH with hH | hH
          · rw [e] at hx; omega
          · rw [e]; exact ((hMm _).1 hH).1
        | false =>
          have hno : Lm[i] ∉ M ∧ uD u Lm[i] < Lm[i].2 := by
            unfold hasC at hH
            rw [Bool.or_eq_false_iff, decide_eq_false_iff_not, decide_eq_false_iff_not] at hH
            exact ⟨hH.2, by omega⟩
          (refine rx_call_lend (u := .bool false) 1 (ycp Tryz.func21 rfl (by kernel_rfl) rfl) rfl (fun h' _ hsc w s => by rw [← hH]; exact refHas_sp _ u M Lm[i] h' ⟨hul, v, rfl, hsc⟩ (by omega) hdr w s) rfl rfl rfl ?_ ?_; (· exact ybf))
          refine rx_rowslice 1 rfl (fun adv capv hv => ?_)
          subst hv
          repeat' (first|(refine ycf ?_;apply ybk;(·first|(first|(apply yad;(·rfl);(·exact hel _);(·rfl))|(apply yad;(·rfl);(·exact yaz 2 rfl);(·exact ycj hul)))|(apply yae;(·rfl);(·(first|exact yck (yaz 2 rfl) hul rfl|exact yck (yaz 3 rfl) hul rfl))));(·rfl);(·rfl))|(refine ybg 0 rfl rfl rfl rfl (fit_cxc (i := (Lm[k].1 - 1).toNat) hul' (by omega) (by omega)) rfl (spl_cxc (i := (Lm[k].1 - 1).toNat) (by omega) (by omega)) rfl rfl ?_ ?_ ?_;(·(exact to_));(·(exact to_)))|refine t1_ ?_|(refine ta_ ?_;intro _)|((fail_if_success (refine ybi rfl ?_));refine ybj rfl ?_ ?_<;>(intro ht;rw [ht];first|replace ht := oet_ ht|replace ht := oef_ ht|skip))|(refine ych ?_;first|(refine ybw rfl ?_ ?_<;>intro ht)|(refine ybx rfl ?_ ?_<;>intro ht)))
          refine rx_append (sz := 2) 2 rfl rfl rfl (yaz 0 rfl) rfl (one_dcs [Lm[i]]) rfl (by omega) (by unfold maxLen; omega) (by omega) rfl rfl rfl ybf (fun _ => ybf) ?_
          intro v2 _
          refine rx_rowform 2 rfl (fun _ h0 _ => (by omega)) ?_
          rintro g2 cap2 rfl
          repeat' (first|(refine ycf ?_;apply ybk;(·first|(first|(apply yad;(·rfl);(·exact hel _);(·rfl))|(apply yad;(·rfl);(·exact yaz 2 rfl);(·exact ycj hul)))|(apply yae;(·rfl);(·(first|exact yck (yaz 2 rfl) hul rfl|exact yck (yaz 3 rfl) hul rfl))));(·rfl);(·rfl))|(refine ybg 3 rfl rfl rfl rfl (fit_more hul) rfl (spl_more hul) rfl rfl ?_ ?_ ?_;(·(exact to_));(·(exact to_)))|refine t1_ ?_|(refine ta_ ?_;intro _)|((fail_if_success (refine ybi rfl ?_));refine ybj rfl ?_ ?_<;>(intro ht;rw [ht];first|replace ht := oet_ ht|replace ht := oef_ ht|skip))|(refine ych ?_;first|(refine ybw rfl ?_ ?_<;>intro ht)|(refine ybx rfl ?_ ?_<;>intro ht)))
          rename_i b10 bz hz
          refine cx_loop (X := Nat) (fun k => [(1, .slice (some ⟨bs, o, none⟩) Lm.length cap), (4, .pointer (some ⟨b4, 0, none⟩)), (5, .int .i64 0), (6, .pointer (some ⟨b6, 0, none⟩)), (9, .int .i64 i), (10, .pointer (some ⟨b10, 0, none⟩)), (11, .int .i64 k)]) (fun _ => h)
            (fun k => [Res.blk b10 (.cells (dcs Lm[i]).toArray 53 (0, 0)), Res.row 53 2 (.slice (some ⟨g2, 0, none⟩) (M.length + 1) cap2) (M.length + 1) ((insD M k Lm[i]).flatMap dcs), Res.blk b6 (.cells (cxc u (.slice (some ⟨g2, 0, none⟩) (M.length + 1) cap2)).toArray 40 (0, 0)), Res.blk b4 (.cells (cxc zeroU (.slice none 0 0)).toArray 40 (0, 0))])
            (fun k => k ≤ M.length ∧ ∀ e ∈ M.drop k, ordD Lm[i] e < 0) (fun k => k) M.length ⟨Nat.le_refl _, by simp⟩ ts_ (fun _ s => ?_) ?_
          · rw [insD_all, List.flatMap_append]
            exact s.tl
          rintro k ⟨hk, hkd⟩
          have hIl := insD_len (M := M) (k := k) (d := Lm[i])
          have hmem : ∀ x, x ∈ insD M k Lm[i] ↔ x ∈ Lm.take (i + 1) ∧ uD u x < x.2 := fun x => by
            rw [insD_mem, htk, hMm]
            constructor
            · rintro (rfl | hx)
              · exact ⟨.inr rfl, hno.2⟩
              · exact ⟨.inl hx.1, hx.2⟩
            · rintro ⟨hx | hx, hy⟩
              · exact .inr ⟨hx, hy⟩
              · exact .inl hx
          by_cases h0 : k = 0
          · have hsrt := insD_sorted (d := Lm[i]) hMs hk hkd (fun hp => by omega)
            subst h0
            repeat' (first|(refine ycf ?_;apply ybk;(·first|(first|(apply yad;(·rfl);(·exact hel _);(·rfl))|(apply yad;(·rfl);(·exact yaz 2 rfl);(·exact ycj hul)))|(apply yae;(·rfl);(·(first|exact yck (yaz 2 rfl) hul rfl|exact yck (yaz 3 rfl) hul rfl))));(·rfl);(·rfl))|(refine ybg 3 rfl rfl rfl rfl (fit_more hul) rfl (spl_more hul) rfl rfl ?_ ?_ ?_;(·(exact to_));(·(exact to_)))|refine t1_ ?_|(refine ta_ ?_;intro _)|((fail_if_success (refine ybi rfl ?_));refine ybj rfl ?_ ?_<;>(intro ht;rw [ht];first|replace ht := oet_ ht|replace ht := oef_ ht|skip))|(refine ych ?_;first|(refine ybw rfl ?_ ?_<;>intro ht)|(refine ybx rfl ?_ ?_<;>intro ht)))
            refine cx_region_draw' rfl (by kernel_rfl) ?_
            repeat' (refine ycf ?_;(first|(first|(apply ybm;(·(first|(first|(apply yad;(·rfl);(·exact hel _);(·rfl))|(apply yad;(·rfl);(·exact yaz 2 rfl);(·exact ycj hul)))|(apply yae;(·rfl);(·(first|exact yck (yaz 2 rfl) hul rfl)))|exact tq_));(·rfl);(·rfl);(·(exact th_)))|refine ybl rfl rfl ?_|((fail_if_success (refine ybi rfl ?_));refine ybj rfl ?_ ?_<;>(intro ht;rw [ht];first|replace ht := oet_ ht|replace ht := oef_ ht|skip))|(refine tb_ ?_ ?_ ?_;(·(exact to_));(·intro _;(exact to_));intro _)|(first|(refine ybg 3 rfl rfl rfl rfl (fit_more hul) rfl (spl_more hul) rfl rfl ?_ ?_ ?_;(·(exact to_));(·(exact to_)))|(refine tqs_ ?_ ?_ ?_;(·(exact to_));(·(exact to_))))|(apply ybn;(·(first|(first|(apply yad;(·rfl);(·exact hel _);(·rfl))|(apply yad;(·rfl);(·exact yaz 2 rfl);(·exact ycj hul)))|(apply yae;(·rfl);(·(first|exact yck (yaz 2 rfl) hul rfl)))|exact tq_));(·rfl);(·rfl);(·rfl);(·(exact to_))))|refine ycg ?_))
            repeat' (first|(refine ycf ?_;apply ybk;(·first|(first|(apply yad;(·rfl);(·exact hel _);(·rfl))|(apply yad;(·rfl);(·exact yaz 2 rfl);(·exact ycj hul)))|(apply yae;(·rfl);(·(first|exact yck (yaz 2 rfl) hul rfl))));(·rfl);(·rfl))|(refine ybg 3 rfl rfl rfl rfl (fit_more hul) rfl (spl_more hul) rfl rfl ?_ ?_ ?_;(·(exact to_));(·(exact to_)))|refine t1_ ?_|(refine ta_ ?_;intro _)|((fail_if_success (refine ybi rfl ?_));refine ybj rfl ?_ ?_<;>(intro ht;rw [ht];first|replace ht := oet_ ht|replace ht := oef_ ht|skip))|(refine ych ?_;first|(refine ybw rfl ?_ ?_<;>intro ht)|(refine ybx rfl ?_ ?_<;>intro ht)))
            refine nx_round (i + 1, insD M 0 Lm[i], .slice (some ⟨g2, 0, none⟩) (M.length + 1) cap2) ⟨by show i + 1 ≤ _; omega, by show (insD M 0 Lm[i]).length ≤ i + 1; omega, hsrt, hmem⟩ (by show Lm.length - (i + 1) < Lm.length - i; omega) ts_ (fun _ s => ?_)
            dsimp only
            rw [hIl]
            exact s.tl
          · have hkm : k - 1 < M.length := by omega
            have eIk := insD_at (M := M) (k := k) (j := k - 1) (d := Lm[i]) (by omega) hk
            have hkk : ((k : Int) - 1).toNat = k - 1 := by omega
            have hrow : ∀ l : List Dt, (hl : l.length = M.length + 1) → l[k - 1]? = some M[k - 1] → ∀ L, L[1]? = some (Res.row 53 2 (.slice (some ⟨g2, 0, none⟩) (M.length + 1) cap2) (M.length + 1) (l.flatMap dcs)) → Cells h L ⟨g2, 0 + ((k : Int) - 1).toNat * 2, none⟩ (dcs M[k - 1]) := fun l hl he L hL => by
              have c := ((row_cells (h := h) 1 hL).drop ((k - 1) * 2)).take 2
              rw [flat_at dcs_len l (k - 1) (by omega)] at c
              rw [hkk]
              have e3 : l[k - 1]'(by omega) = M[k - 1] := by
                rw [List.getElem?_eq_getElem (by omega)] at he
                exact Option.some.inj he
              rw [e3] at c
              exact c
            have hins : (insD M k Lm[i])[k - 1]? = some M[k - 1] := by rw [List.getElem?_eq_getElem (by rw [hIl]; omega), eIk]
            have hc0 : ∀ L, L[1]? = _ → CellAt h L g2 (0 + ((k : Int) - 1).toNat * 2 + 0) (.int .i64 M[k - 1].1) := fun L hL => (hrow _ hIl hins L hL).cell (j := 0) rfl
            have hc1 : ∀ L, L[1]? = _ → CellAt h L g2 (0 + ((k : Int) - 1).toNat * 2 + 1) (.int .i64 M[k - 1].2) := fun L hL => (hrow _ hIl hins L hL).cell (j := 1) rfl
            have hLS : ∀ l : List Dt, (hl : l.length = M.length + 1) → l[k - 1]? = some M[k - 1] → ∀ w, Hd h [Res.blk b10 (.cells (dcs Lm[i]).toArray 53 (0, 0)), Res.row 53 2 (.slice (some ⟨g2, 0, none⟩) (M.length + 1) cap2) (M.length + 1) (l.flatMap dcs), Res.blk b6 (.cells (cxc u (.slice (some ⟨g2, 0, none⟩) (M.length + 1) cap2)).toArray 40 (0, 0)), Res.blk b4 (.cells (cxc zeroU (.slice none 0 0)).toArray 40 (0, 0))] w → Hd h [Res.blk b10 (.cells (dcs Lm[i]).toArray 53 (0, 0)), Res.part g2 (0 + ((k : Int) - 1).toNat * 2) (.int .i64 M[k - 1].1) [.int .i64 M[k - 1].2], Res.blk b6 (.cells (cxc u (.slice (some ⟨g2, 0, none⟩) (M.length + 1) cap2)).toArray 40 (0, 0))] w := fun l hl he w s => ⟨s.view, fun r hr => by
              simp only [List.mem_cons, List.not_mem_nil, or_false] at hr
              rcases hr with rfl | rfl | rfl
              · exact s.own _ (by simp)
              · intro j x hj
                have := hrow l hl he _ rfl w s j x hj
                rwa [Addr.add_off] at this
              · exact s.own _ (by simp)⟩
            have hkc : (k : Int) - 1 = ((k - 1 : Nat) : Int) := by omega
            have hl2 : ((insD M k Lm[i]).set k M[k - 1]).length = M.length + 1 := by rw [List.length_set, hIl]
            have hins2 : ((insD M k Lm[i]).set k M[k - 1])[k - 1]? = some M[k - 1] := by rw [List.getElem?_set_ne (by omega)]; exact hins
            have hnextk : ordD Lm[i] M[k - 1] < 0 → ∀ e ∈ M.drop (k - 1), ordD Lm[i] e < 0 := fun hq e he => by
              rw [List.drop_eq_getElem_cons hkm] at he
              rcases List.mem_cons.1 he with rfl | he
              · exact hq
              · exact hkd e (by rwa [show k - 1 + 1 = k by omega] at he)
            repeat' (first|(refine ycf ?_;apply ybk;(·first|(first|(apply yad;(·rfl);(·exact hel _);(·rfl))|(apply yad;(·rfl);(·exact yaz 2 rfl);(·exact ycj hul)))|(apply yae;(·rfl);(·(first|exact yck (yaz 2 rfl) hul rfl))));(·rfl);(·rfl))|(refine ybg 3 rfl rfl rfl rfl (fit_more hul) rfl (spl_more hul) rfl rfl ?_ ?_ ?_;(·(exact to_));(·(exact to_)))|refine t1_ ?_|(refine ta_ ?_;intro _)|((fail_if_success (refine ybi rfl ?_));refine ybj rfl ?_ ?_<;>(intro ht;rw [ht];first|replace ht := oet_ ht|replace ht := oef_ ht|skip))|(refine ych ?_;first|(refine ybw rfl ?_ ?_<;>intro ht)|(refine ybx rfl ?_ ?_<;>intro ht)))
            refine cx_region_draw' rfl (by kernel_rfl) ?_
            repeat' (refine ycf ?_;(first|(first|(apply ybm;(·(first|(first|(apply yad;(·rfl);(·exact hel _);(·rfl))|(apply yad;(·rfl);(·exact yaz 2 rfl);(·exact ycj hul)))|(apply yae;(·rfl);(·(first|exact yck (yaz 2 rfl) hul rfl|exact hc0 _ rfl|exact hc1 _ rfl)))|exact tq_));(·rfl);(·rfl);(·(exact th_)))|refine ybl rfl rfl ?_|((fail_if_success (refine ybi rfl ?_));refine ybj rfl ?_ ?_<;>(intro ht;rw [ht];first|replace ht := oet_ ht|replace ht := oef_ ht|skip))|(refine tb_ ?_ ?_ ?_;(·(exact to_));(·intro _;(exact to_));intro _)|(first|(refine ybg 3 rfl rfl rfl rfl (fit_more hul) rfl (spl_more hul) rfl rfl ?_ ?_ ?_;(·(exact to_));(·(exact to_)))|(refine tqs_ ?_ ?_ ?_;(·(exact to_));(·(exact to_))))|(apply ybn;(·(first|(first|(apply yad;(·rfl);(·exact hel _);(·rfl))|(apply yad;(·rfl);(·exact yaz 2 rfl);(·exact ycj hul)))|(apply yae;(·rfl);(·(first|exact yck (yaz 2 rfl) hul rfl|exact hc0 _ rfl|exact hc1 _ rfl)))|exact tq_));(·rfl);(·rfl);(·rfl);(·(exact to_))))|refine ycg ?_))
            · have hq : ordD Lm[i] M[k - 1] < 0 := by rw [ord_neg]; omega
              repeat' (first|(refine ycf ?_;apply ybk;(·first|(apply yad;(·rfl);(·exact part_cells 1 rfl);(·rfl))|(apply yae;(·rfl);(·(first|exact yck (yaz 2 rfl) hul rfl|exact hc0 _ rfl|exact hc1 _ rfl))));(·rfl);(·rfl))|(first|(refine rx_rowstore 1 rfl rfl rfl rfl (by show 0 + k * 2 + 2 ≤ _;omega) rfl (spl_dot' (j := k) (x := M[k - 1]) (by omega) (by omega)) rfl rfl ?_ ?_ ?_;(·(first|exact ybf|(refine .inl ?_;(first|exact fun w s => hLS _ hIl hins w s|exact fun w s => hLS _ hl2 hins2 w s))|exact to_));(·(first|exact ybf|(refine .inl ?_;(first|exact fun w s => hLS _ hIl hins w s|exact fun w s => hLS _ hl2 hins2 w s))|exact to_)))|(refine rx_rowstore 1 rfl rfl rfl rfl (by show 0 + ((k : Int) - 1).toNat * 2 + 2 ≤ _;omega) rfl (spl_dot' (j := k - 1) (x := Lm[i]) (by omega) (by omega)) rfl rfl ?_ ?_ ?_;(·(first|exact ybf|(refine .inl ?_;(first|exact fun w s => hLS _ hIl hins w s|exact fun w s => hLS _ hl2 hins2 w s))|exact to_));(·(first|exact ybf|(refine .inl ?_;(first|exact fun w s => hLS _ hIl hins w s|exact fun w s => hLS _ hl2 hins2 w s))|exact to_))))|refine t1_ ?_|(refine ta_ ?_;intro _)|((fail_if_success (refine ybi rfl ?_));refine ybj rfl ?_ ?_<;>(intro ht;rw [ht];first|replace ht := oet_ ht|replace ht := oef_ ht|skip))|(refine ych ?_;first|(refine ybw rfl ?_ ?_<;>intro ht)|(refine ybx rfl ?_ ?_<;>intro ht)))
              refine cx_region_draw [Res.blk b10 (.cells (dcs Lm[i]).toArray 53 (0, 0)), Res.part g2 (0 + ((k : Int) - 1).toNat * 2) (.int .i64 M[k - 1].1) [.int .i64 M[k - 1].2], Res.blk b6 (.cells (cxc u (.slice (some ⟨g2, 0, none⟩) (M.length + 1) cap2)).toArray 40 (0, 0))] rfl (by kernel_rfl) ?_
              repeat' (refine ycf ?_;(first|(first|(apply ybm;(·(first|(apply yad;(·rfl);(·exact part_cells 1 rfl);(·rfl))|(apply yae;(·rfl);(·(first|exact yck (yaz 2 rfl) hul rfl|exact hc0 _ rfl|exact hc1 _ rfl)))|exact tq_));(·rfl);(·rfl);(·(first|exact fun w s => hLS _ hIl hins w s|exact fun w s => hLS _ hl2 hins2 w s)))|refine ybl rfl rfl ?_|((fail_if_success (refine ybi rfl ?_));refine ybj rfl ?_ ?_<;>(intro ht;rw [ht];first|replace ht := oet_ ht|replace ht := oef_ ht|skip))|(refine tb_ ?_ ?_ ?_;(·(first|exact ybf|(refine .inl ?_;(first|exact fun w s => hLS _ hIl hins w s|exact fun w s => hLS _ hl2 hins2 w s))|exact to_));(·intro _;(first|exact ybf|(refine .inl ?_;(first|exact fun w s => hLS _ hIl hins w s|exact fun w s => hLS _ hl2 hins2 w s))|exact to_));intro _)|(first|(first|(refine rx_rowstore 1 rfl rfl rfl rfl (by show 0 + k * 2 + 2 ≤ _;omega) rfl (spl_dot' (j := k) (x := M[k - 1]) (by omega) (by omega)) rfl rfl ?_ ?_ ?_;(·(first|exact ybf|(refine .inl ?_;(first|exact fun w s => hLS _ hIl hins w s|exact fun w s => hLS _ hl2 hins2 w s))|exact to_));(·(first|exact ybf|(refine .inl ?_;(first|exact fun w s => hLS _ hIl hins w s|exact fun w s => hLS _ hl2 hins2 w s))|exact to_)))|(refine rx_rowstore 1 rfl rfl rfl rfl (by show 0 + ((k : Int) - 1).toNat * 2 + 2 ≤ _;omega) rfl (spl_dot' (j := k - 1) (x := Lm[i]) (by omega) (by omega)) rfl rfl ?_ ?_ ?_;(·(first|exact ybf|(refine .inl ?_;(first|exact fun w s => hLS _ hIl hins w s|exact fun w s => hLS _ hl2 hins2 w s))|exact to_));(·(first|exact ybf|(refine .inl ?_;(first|exact fun w s => hLS _ hIl hins w s|exact fun w s => hLS _ hl2 hins2 w s))|exact to_))))|(refine tqs_ ?_ ?_ ?_;(·(first|exact ybf|(refine .inl ?_;(first|exact fun w s => hLS _ hIl hins w s|exact fun w s => hLS _ hl2 hins2 w s))|exact to_));(·(first|exact ybf|(refine .inl ?_;(first|exact fun w s => hLS _ hIl hins w s|exact fun w s => hLS _ hl2 hins2 w s))|exact to_))))|(apply ybn;(·(first|(apply yad;(·rfl);(·exact part_cells 1 rfl);(·rfl))|(apply yae;(·rfl);(·(first|exact yck (yaz 2 rfl) hul rfl|exact hc0 _ rfl|exact hc1 _ rfl)))|exact tq_));(·rfl);(·rfl);(·rfl);(·(first|exact ybf|(refine .inl ?_;(first|exact fun w s => hLS _ hIl hins w s|exact fun w s => hLS _ hl2 hins2 w s))|exact to_))))|refine ycg ?_))
              repeat' (first|(refine ycf ?_;apply ybk;(·first|(apply yad;(·rfl);(·exact part_cells 1 rfl);(·rfl))|(apply yae;(·rfl);(·(first|exact yck (yaz 2 rfl) hul rfl|exact hc0 _ rfl|exact hc1 _ rfl))));(·rfl);(·rfl))|(first|(refine rx_rowstore 1 rfl rfl rfl rfl (by show 0 + k * 2 + 2 ≤ _;omega) rfl (spl_dot' (j := k) (x := M[k - 1]) (by omega) (by omega)) rfl rfl ?_ ?_ ?_;(·(first|exact ybf|(refine .inl ?_;(first|exact fun w s => hLS _ hIl hins w s|exact fun w s => hLS _ hl2 hins2 w s))|exact to_));(·(first|exact ybf|(refine .inl ?_;(first|exact fun w s => hLS _ hIl hins w s|exact fun w s => hLS _ hl2 hins2 w s))|exact to_)))|(refine rx_rowstore 1 rfl rfl rfl rfl (by show 0 + ((k : Int) - 1).toNat * 2 + 2 ≤ _;omega) rfl (spl_dot' (j := k - 1) (x := Lm[i]) (by omega) (by omega)) rfl rfl ?_ ?_ ?_;(·(first|exact ybf|(refine .inl ?_;(first|exact fun w s => hLS _ hIl hins w s|exact fun w s => hLS _ hl2 hins2 w s))|exact to_));(·(first|exact ybf|(refine .inl ?_;(first|exact fun w s => hLS _ hIl hins w s|exact fun w s => hLS _ hl2 hins2 w s))|exact to_))))|refine t1_ ?_|(refine ta_ ?_;intro _)|((fail_if_success (refine ybi rfl ?_));refine ybj rfl ?_ ?_<;>(intro ht;rw [ht];first|replace ht := oet_ ht|replace ht := oef_ ht|skip))|(refine ych ?_;first|(refine ybw rfl ?_ ?_<;>intro ht)|(refine ybx rfl ?_ ?_<;>intro ht)))
              refine nx_round (k - 1) ⟨by omega, hnextk hq⟩ (by omega) (by repeat' (first|exact Sub.nil|refine Sub.cons rfl rfl ?_|refine Sub.cons rfl (congrArg (Value.int .i64) hkc) ?_)) (fun _ s => ?_)
              rw [← insD_set (by omega) hk]
              exact s
            · have hq1 := ht
              repeat' (first|(refine ycf ?_;apply ybk;(·first|(apply yad;(·rfl);(·exact part_cells 1 rfl);(·rfl))|(apply yae;(·rfl);(·(first|exact yck (yaz 2 rfl) hul rfl|exact hc0 _ rfl|exact hc1 _ rfl))));(·rfl);(·rfl))|(first|(refine rx_rowstore 1 rfl rfl rfl rfl (by show 0 + k * 2 + 2 ≤ _;omega) rfl (spl_dot' (j := k) (x := M[k - 1]) (by omega) (by omega)) rfl rfl ?_ ?_ ?_;(·(first|exact ybf|(refine .inl ?_;(first|exact fun w s => hLS _ hIl hins w s|exact fun w s => hLS _ hl2 hins2 w s))|exact to_));(·(first|exact ybf|(refine .inl ?_;(first|exact fun w s => hLS _ hIl hins w s|exact fun w s => hLS _ hl2 hins2 w s))|exact to_)))|(refine rx_rowstore 1 rfl rfl rfl rfl (by show 0 + ((k : Int) - 1).toNat * 2 + 2 ≤ _;omega) rfl (spl_dot' (j := k - 1) (x := Lm[i]) (by omega) (by omega)) rfl rfl ?_ ?_ ?_;(·(first|exact ybf|(refine .inl ?_;(first|exact fun w s => hLS _ hIl hins w s|exact fun w s => hLS _ hl2 hins2 w s))|exact to_));(·(first|exact ybf|(refine .inl ?_;(first|exact fun w s => hLS _ hIl hins w s|exact fun w s => hLS _ hl2 hins2 w s))|exact to_))))|refine t1_ ?_|(refine ta_ ?_;intro _)|((fail_if_success (refine ybi rfl ?_));refine ybj rfl ?_ ?_<;>(intro ht;rw [ht];first|replace ht := oet_ ht|replace ht := oef_ ht|skip))|(refine ych ?_;first|(refine ybw rfl ?_ ?_<;>intro ht)|(refine ybx rfl ?_ ?_<;>intro ht)))
              · have hq : ordD Lm[i] M[k - 1] < 0 := by rw [ord_neg]; omega
                repeat' (first|(refine ycf ?_;apply ybk;(·first|(apply yad;(·rfl);(·exact part_cells 1 rfl);(·rfl))|(apply yae;(·rfl);(·(first|exact yck (yaz 2 rfl) hul rfl|exact hc0 _ rfl|exact hc1 _ rfl))));(·rfl);(·rfl))|(first|(refine rx_rowstore 1 rfl rfl rfl rfl (by show 0 + k * 2 + 2 ≤ _;omega) rfl (spl_dot' (j := k) (x := M[k - 1]) (by omega) (by omega)) rfl rfl ?_ ?_ ?_;(·(first|exact ybf|(refine .inl ?_;(first|exact fun w s => hLS _ hIl hins w s|exact fun w s => hLS _ hl2 hins2 w s))|exact to_));(·(first|exact ybf|(refine .inl ?_;(first|exact fun w s => hLS _ hIl hins w s|exact fun w s => hLS _ hl2 hins2 w s))|exact to_)))|(refine rx_rowstore 1 rfl rfl rfl rfl (by show 0 + ((k : Int) - 1).toNat * 2 + 2 ≤ _;omega) rfl (spl_dot' (j := k - 1) (x := Lm[i]) (by omega) (by omega)) rfl rfl ?_ ?_ ?_;(·(first|exact ybf|(refine .inl ?_;(first|exact fun w s => hLS _ hIl hins w s|exact fun w s => hLS _ hl2 hins2 w s))|exact to_));(·(first|exact ybf|(refine .inl ?_;(first|exact fun w s => hLS _ hIl hins w s|exact fun w s => hLS _ hl2 hins2 w s))|exact to_))))|refine t1_ ?_|(refine ta_ ?_;intro _)|((fail_if_success (refine ybi rfl ?_));refine ybj rfl ?_ ?_<;>(intro ht;rw [ht];first|replace ht := oet_ ht|replace ht := oef_ ht|skip))|(refine ych ?_;first|(refine ybw rfl ?_ ?_<;>intro ht)|(refine ybx rfl ?_ ?_<;>intro ht)))
                refine cx_region_draw [Res.blk b10 (.cells (dcs Lm[i]).toArray 53 (0, 0)), Res.part g2 (0 + ((k : Int) - 1).toNat * 2) (.int .i64 M[k - 1].1) [.int .i64 M[k - 1].2], Res.blk b6 (.cells (cxc u (.slice (some ⟨g2, 0, none⟩) (M.length + 1) cap2)).toArray 40 (0, 0))] rfl (by kernel_rfl) ?_
                repeat' (refine ycf ?_;(first|(first|(apply ybm;(·(first|(apply yad;(·rfl);(·exact part_cells 1 rfl);(·rfl))|(apply yae;(·rfl);(·(first|exact yck (yaz 2 rfl) hul rfl|exact hc0 _ rfl|exact hc1 _ rfl)))|exact tq_));(·rfl);(·rfl);(·(first|exact fun w s => hLS _ hIl hins w s|exact fun w s => hLS _ hl2 hins2 w s)))|refine ybl rfl rfl ?_|((fail_if_success (refine ybi rfl ?_));refine ybj rfl ?_ ?_<;>(intro ht;rw [ht];first|replace ht := oet_ ht|replace ht := oef_ ht|skip))|(refine tb_ ?_ ?_ ?_;(·(first|exact ybf|(refine .inl ?_;(first|exact fun w s => hLS _ hIl hins w s|exact fun w s => hLS _ hl2 hins2 w s))|exact to_));(·intro _;(first|exact ybf|(refine .inl ?_;(first|exact fun w s => hLS _ hIl hins w s|exact fun w s => hLS _ hl2 hins2 w s))|exact to_));intro _)|(first|(first|(refine rx_rowstore 1 rfl rfl rfl rfl (by show 0 + k * 2 + 2 ≤ _;omega) rfl (spl_dot' (j := k) (x := M[k - 1]) (by omega) (by omega)) rfl rfl ?_ ?_ ?_;(·(first|exact ybf|(refine .inl ?_;(first|exact fun w s => hLS _ hIl hins w s|exact fun w s => hLS _ hl2 hins2 w s))|exact to_));(·(first|exact ybf|(refine .inl ?_;(first|exact fun w s => hLS _ hIl hins w s|exact fun w s => hLS _ hl2 hins2 w s))|exact to_)))|(refine rx_rowstore 1 rfl rfl rfl rfl (by show 0 + ((k : Int) - 1).toNat * 2 + 2 ≤ _;omega) rfl (spl_dot' (j := k - 1) (x := Lm[i]) (by omega) (by omega)) rfl rfl ?_ ?_ ?_;(·(first|exact ybf|(refine .inl ?_;(first|exact fun w s => hLS _ hIl hins w s|exact fun w s => hLS _ hl2 hins2 w s))|exact to_));(·(first|exact ybf|(refine .inl ?_;(first|exact fun w s => hLS _ hIl hins w s|exact fun w s => hLS _ hl2 hins2 w s))|exact to_))))|(refine tqs_ ?_ ?_ ?_;(·(first|exact ybf|(refine .inl ?_;(first|exact fun w s => hLS _ hIl hins w s|exact fun w s => hLS _ hl2 hins2 w s))|exact to_));(·(first|exact ybf|(refine .inl ?_;(first|exact fun w s => hLS _ hIl hins w s|exact fun w s => hLS _ hl2 hins2 w s))|exact to_))))|(apply ybn;(·(first|(apply yad;(·rfl);(·exact part_cells 1 rfl);(·rfl))|(apply yae;(·rfl);(·(first|exact yck (yaz 2 rfl) hul rfl|exact hc0 _ rfl|exact hc1 _ rfl)))|exact tq_));(·rfl);(·rfl);(·rfl);(·(first|exact ybf|(refine .inl ?_;(first|exact fun w s => hLS _ hIl hins w s|exact fun w s => hLS _ hl2 hins2 w s))|exact to_))))|refine ycg ?_))
                repeat' (first|(refine ycf ?_;apply ybk;(·first|(apply yad;(·rfl);(·exact part_cells 1 rfl);(·rfl))|(apply yae;(·rfl);(·(first|exact yck (yaz 2 rfl) hul rfl|exact hc0 _ rfl|exact hc1 _ rfl))));(·rfl);(·rfl))|(first|(refine rx_rowstore 1 rfl rfl rfl rfl (by show 0 + k * 2 + 2 ≤ _;omega) rfl (spl_dot' (j := k) (x := M[k - 1]) (by omega) (by omega)) rfl rfl ?_ ?_ ?_;(·(first|exact ybf|(refine .inl ?_;(first|exact fun w s => hLS _ hIl hins w s|exact fun w s => hLS _ hl2 hins2 w s))|exact to_));(·(first|exact ybf|(refine .inl ?_;(first|exact fun w s => hLS _ hIl hins w s|exact fun w s => hLS _ hl2 hins2 w s))|exact to_)))|(refine rx_rowstore 1 rfl rfl rfl rfl (by show 0 + ((k : Int) - 1).toNat * 2 + 2 ≤ _;omega) rfl (spl_dot' (j := k - 1) (x := Lm[i]) (by omega) (by omega)) rfl rfl ?_ ?_ ?_;(·(first|exact ybf|(refine .inl ?_;(first|exact fun w s => hLS _ hIl hins w s|exact fun w s => hLS _ hl2 hins2 w s))|exact to_));(·(first|exact ybf|(refine .inl ?_;(first|exact fun w s => hLS _ hIl hins w s|exact fun w s => hLS _ hl2 hins2 w s))|exact to_))))|refine t1_ ?_|(refine ta_ ?_;intro _)|((fail_if_success (refine ybi rfl ?_));refine ybj rfl ?_ ?_<;>(intro ht;rw [ht];first|replace ht := oet_ ht|replace ht := oef_ ht|skip))|(refine ych ?_;first|(refine ybw rfl ?_ ?_<;>intro ht)|(refine ybx rfl ?_ ?_<;>intro ht)))
                refine nx_round (k - 1) ⟨by omega, hnextk hq⟩ (by omega) (by repeat' (first|exact Sub.nil|refine Sub.cons rfl rfl ?_|refine Sub.cons rfl (congrArg (Value.int .i64) hkc) ?_)) (fun _ s => ?_)
                rw [← insD_set (by omega) hk]
                exact s
              · have hne : M[k - 1] ≠ Lm[i] := fun e => hno.1 (by rw [← e]; exact List.getElem_mem _)
                have hq : ordD M[k - 1] Lm[i] < 0 := by
                  rw [ord_neg]
                  have : M[k - 1].2 ≠ Lm[i].2 := fun e => hne (Prod.ext hq1 e)
                  omega
                have hsrt := insD_sorted (d := Lm[i]) hMs hk hkd (fun _ => hq)
                repeat' (first|(refine ycf ?_;apply ybk;(·first|(apply yad;(·rfl);(·exact part_cells 1 rfl);(·rfl))|(apply yae;(·rfl);(·(first|exact yck (yaz 2 rfl) hul rfl|exact hc0 _ rfl|exact hc1 _ rfl))));(·rfl);(·rfl))|(first|(refine rx_rowstore 1 rfl rfl rfl rfl (by show 0 + k * 2 + 2 ≤ _;omega) rfl (spl_dot' (j := k) (x := M[k - 1]) (by omega) (by omega)) rfl rfl ?_ ?_ ?_;(·(first|exact ybf|(refine .inl ?_;(first|exact fun w s => hLS _ hIl hins w s|exact fun w s => hLS _ hl2 hins2 w s))|exact to_));(·(first|exact ybf|(refine .inl ?_;(first|exact fun w s => hLS _ hIl hins w s|exact fun w s => hLS _ hl2 hins2 w s))|exact to_)))|(refine rx_rowstore 1 rfl rfl rfl rfl (by show 0 + ((k : Int) - 1).toNat * 2 + 2 ≤ _;omega) rfl (spl_dot' (j := k - 1) (x := Lm[i]) (by omega) (by omega)) rfl rfl ?_ ?_ ?_;(·(first|exact ybf|(refine .inl ?_;(first|exact fun w s => hLS _ hIl hins w s|exact fun w s => hLS _ hl2 hins2 w s))|exact to_));(·(first|exact ybf|(refine .inl ?_;(first|exact fun w s => hLS _ hIl hins w s|exact fun w s => hLS _ hl2 hins2 w s))|exact to_))))|refine t1_ ?_|(refine ta_ ?_;intro _)|((fail_if_success (refine ybi rfl ?_));refine ybj rfl ?_ ?_<;>(intro ht;rw [ht];first|replace ht := oet_ ht|replace ht := oef_ ht|skip))|(refine ych ?_;first|(refine ybw rfl ?_ ?_<;>intro ht)|(refine ybx rfl ?_ ?_<;>intro ht)))
                refine nx_round (i + 1, insD M k Lm[i], .slice (some ⟨g2, 0, none⟩) (M.length + 1) cap2) ⟨by show i + 1 ≤ _; omega, by show (insD M k Lm[i]).length ≤ i + 1; omega, hsrt, hmem⟩ (by show Lm.length - (i + 1) < Lm.length - i; omega) ts_ (fun _ s => ?_)
                dsimp only
                rw [hIl]
                exact s.tl
            · have hq : ordD M[k - 1] Lm[i] < 0 := by rw [ord_neg]; omega
              have hsrt := insD_sorted (d := Lm[i]) hMs hk hkd (fun _ => hq)
              repeat' (first|(refine ycf ?_;apply ybk;(·first|(apply yad;(·rfl);(·exact part_cells 1 rfl);(·rfl))|(apply yae;(·rfl);(·(first|exact yck (yaz 2 rfl) hul rfl|exact hc0 _ rfl|exact hc1 _ rfl))));(·rfl);(·rfl))|(first|(refine rx_rowstore 1 rfl rfl rfl rfl (by show 0 + k * 2 + 2 ≤ _;omega) rfl (spl_dot' (j := k) (x := M[k - 1]) (by omega) (by omega)) rfl rfl ?_ ?_ ?_;(·(first|exact ybf|(refine .inl ?_;(first|exact fun w s => hLS _ hIl hins w s|exact fun w s => hLS _ hl2 hins2 w s))|exact to_));(·(first|exact ybf|(refine .inl ?_;(first|exact fun w s => hLS _ hIl hins w s|exact fun w s => hLS _ hl2 hins2 w s))|exact to_)))|(refine rx_rowstore 1 rfl rfl rfl rfl (by show 0 + ((k : Int) - 1).toNat * 2 + 2 ≤ _;omega) rfl (spl_dot' (j := k - 1) (x := Lm[i]) (by omega) (by omega)) rfl rfl ?_ ?_ ?_;(·(first|exact ybf|(refine .inl ?_;(first|exact fun w s => hLS _ hIl hins w s|exact fun w s => hLS _ hl2 hins2 w s))|exact to_));(·(first|exact ybf|(refine .inl ?_;(first|exact fun w s => hLS _ hIl hins w s|exact fun w s => hLS _ hl2 hins2 w s))|exact to_))))|refine t1_ ?_|(refine ta_ ?_;intro _)|((fail_if_success (refine ybi rfl ?_));refine ybj rfl ?_ ?_<;>(intro ht;rw [ht];first|replace ht := oet_ ht|replace ht := oef_ ht|skip))|(refine ych ?_;first|(refine ybw rfl ?_ ?_<;>intro ht)|(refine ybx rfl ?_ ?_<;>intro ht)))
              refine nx_round (i + 1, insD M k Lm[i], .slice (some ⟨g2, 0, none⟩) (M.length + 1) cap2) ⟨by show i + 1 ≤ _; omega, by show (insD M k Lm[i]).length ≤ i + 1; omega, hsrt, hmem⟩ (by show Lm.length - (i + 1) < Lm.length - i; omega) ts_ (fun _ s => ?_)
              dsimp only
              rw [hIl]
              exact s.tl
            · omega
      · omega
    · have ei : i = Lm.length := by omega
      subst ei
      refine cx_persist rfl fun h3 hle3 hsm => ?_
      replace hsm : Ds h3 v M := hsm
      obtain ⟨_, adm, capm, rfl, _, _⟩ := id hsm
      obtain ⟨g1, g2⟩ := make_inv (u0 := u0) hul hI.bd hI.ge hI.mem (fun d hd => by
        obtain ⟨j, hj, rfl⟩ := List.getElem_of_mem hd
        exact hfix j hj hj) hr hMs (fun x => by rw [hMm x, List.take_length])
      repeat' (first|(refine ycf ?_;apply ybk;(·first|(apply yad;(·rfl);(·exact yaz 0 rfl);(·exact ycj hul))|(apply yae;(·rfl);(·exact yck (yaz 0 rfl) hul rfl)));(·rfl);(·rfl))|(refine ybg 1 rfl rfl rfl (cxc_sz hul) (cxc_fit hul) (cxc_one rfl) (ybh (cxc_all hul)) rfl rfl ?_ ?_ ?_;(·(first|exact ybf|(refine .inl ?_;(first|exact fun _ s => s))|exact to_));(·(first|exact ybf|(refine .inl ?_;(first|exact fun _ s => s))|exact to_)))|refine t1_ ?_|(refine ta_ ?_;intro _)|((fail_if_success (refine ybi rfl ?_));refine ybj rfl ?_ ?_<;>(intro ht;rw [ht];first|replace ht := oet_ ht|replace ht := oef_ ht|skip))|(refine ych ?_;first|(refine ybw rfl ?_ ?_<;>intro ht)|(refine ybx rfl ?_ ?_<;>intro ht)))
      any_goals omega
      · have hgt := ht
        refine nx_ret2 rfl (rv_cells rfl (yaz 1 rfl) rfl) (rv_tmp rfl) (fun w' s' => ⟨(h3, cxv zeroU (.slice none 0 0), 11, (u, M)), rfl, s'.nil, g1, g2, ?_⟩)
        rw [if_pos (by show 32 < M.length; omega)]
        exact ⟨rfl, rfl, _, rfl, Sc.nil h3 2 none 0⟩
      · have hgt := ht
        refine nx_ret2 rfl (rv_cells rfl (yaz 1 rfl) (cxc_all hul)) (rv_tmp rfl) (fun w' s' => ⟨(h3, cxv u (.slice adm M.length capm), 0, (u, M)), rfl, s'.nil, g1, g2, ?_⟩)
        rw [if_neg (by show ¬ 32 < M.length; omega)]
        exact ⟨rfl, hul, _, rfl, hsm⟩
end Go.Proofs.YtkkjppeaaicgaaaGreatDoor
end
